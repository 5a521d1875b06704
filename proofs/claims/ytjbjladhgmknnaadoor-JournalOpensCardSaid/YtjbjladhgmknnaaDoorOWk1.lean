/- Several parts of this proof in one file. No condition. -/
import Derived.Test.YtjbjladhgmknnaaDoorOPur
namespace Go.Proofs.YtjbjladhgmknnaaDoor
open Go Go.RowKit Go.Proofs.Kit Go.Proofs.Pure
set_option linter.unusedVariables false
set_option linter.unusedSimpArgs false
set_option maxRecDepth 100000
set_option maxHeartbeats 2000000
theorem c_disk_New (k : Nat) (p1 : Int) (r : disk_Disk) (h0 : disk_New k p1 = some r) (ok : Ok) (w0 : World) (z0 : Value) (u0 : ((kint .i64).V p1).holds ok w0 z0) :
 GivesX Tryd.prog 7 [z0] ok w0 [] (fun g : Nat × Value × Value => resFact [ptrB g.1 0]) (fun g : Nat × Value × Value => [BF g.1 68 (ko_disk_Disk_0_1 (g.2.1) (g.2.2)) (⟨[], [], r.fuse, r.dead⟩ : disk_Disk), RowF (g.2.1) 100 (karr 256 (kint .u8)) r.firm, RowF (g.2.2) 102 k_disk_write r.loose]) := by
 unfold disk_New at h0
 refine enterX (N := 9) Tryd.func7 rfl rfl (of_decide_eq_true rfl) (.cons u0 .nil) List.nodup_nil (fun _ h => by cases h) (fun _ h => by cases h) fun a1 s1 => ?_
 refine wp_seq_k fun K1 hK1 => wp_region_lit (qs s1 (.c1 rfl (ob_assign rfl opd_is) (.ce (u 0 rfl .nil))) fun _ _ s3 => wn hK1 ?_); clear s1
 obtain ⟨x1, e_x1, h1⟩ := bind_some h0; clear h0; replace e_x1 := Option.some.inj e_x1
 obtain ⟨g1, h2⟩ := guard_some h1; clear h1
 refine wp_seq_k fun K2 hK2 => wp_region_lit (qs s3 (.c1 rfl (mv rfl rfl) (.c1 rfl (ob_max rfl (.tmp rfl) (opd_int rfl)) (.c1 rfl ((ob_min rfl (.tmp rfl) (opd_int rfl)).nm e_x1) .cz))) fun _ _ s6 => ?_); clear s3
 refine qx (B' := (fun v1 : Value => [RowF v1 100 (karr 256 (kint .u8)) (List.replicate x1.toNat (List.replicate 256 (0 : Int)))])) s6 rfl (ob_makeRow (T8 := 0) rfl Tryd.underlying65 ap100 (Zr.arr 256 (Zr.int .u8)) (by decide) (.tmp rfl) g1) fun v1 _ _ s7 => ?_; clear s6
 have s8 := St.adopt s7 (G := RowF (nilRow 1) 100 (karr 256 (kint .u8)) []) rfl (rowNilN _ _ _ _ _); clear s7
 have s9 := St.adopt s8 (G := RowF (nilRow 2) 102 k_disk_write []) rfl (rowNilN _ _ _ _ _); clear s8
 have s10 := s9.kisRow (t := 6) (.tail _ (.tail _ (.head _))) rfl; clear s9
 refine qs s10 (.c1 rfl ((ob_mkObj (K0 := (ko_disk_Disk_0_1 (nilRow 1) (nilRow 2))) (K := (ko_disk_Disk_0_1 v1 (nilRow 2))) (X := (⟨[], [], (-1 : Int), false⟩ : disk_Disk)) rfl Tryd.underlying68 zz68 rfl rfl pl68 (Zr.iso (f := to_disk_Disk_0_1) (x := (⟨[], [], (0 : Int), false⟩ : disk_Disk)) (Zr.pair (Zr.kis 1) (Zr.pair (Zr.kis 2) (Zr.pair (Zr.int .i64) (Zr.pair Zr.bool Zr.nil))))) (.cons (.tmp rfl) rfl (lsk_disk_Disk_0_1_to_0_1_at0 (⟨[], [], (0 : Int), false⟩ : disk_Disk)) (.cons (opd_int rfl) rfl (LSK.of (lso_disk_Disk_0_1_fuse (⟨[], [], (0 : Int), false⟩ : disk_Disk) (-1 : Int))) (.nil _ _))))) .cz) fun _ _ s11 => ?_; clear s10
 refine qx (B' := (fun b1 : Nat => [BF b1 68 (ko_disk_Disk_0_1 v1 (nilRow 2)) (⟨[], [], (-1 : Int), false⟩ : disk_Disk), RowF (nilRow 2) 102 k_disk_write ([] : (List disk_write)), RowF (nilRow 1) 100 (karr 256 (kint .u8)) ([] : (List (List Int))), RowF v1 100 (karr 256 (kint .u8)) (List.replicate x1.toNat (List.replicate 256 (0 : Int)))])) s11 rfl (ob_box rfl (.tmp rfl)) fun b1 _ _ s12 => ?_; clear s11
 refine qs s12 (.c1 rfl (ob_assign rfl (.tmp rfl)) (.ce (u 2 rfl .nil))) fun _ _ s14 => wn hK2 ?_; clear s12
 have s15 := St.drop (A := [_, _]) s14; clear s14
 refine wp_ret ?_
 have s16 := s15.perm (toFront [] (toFront [_] (toFront [] (List.Perm.refl _)))); clear s15
 obtain rfl := Option.some.inj h2
 exact leaveXD (D := []) ⟨b1, v1, (nilRow 2)⟩ s16 rfl (.inl rfl) rfl (.cons (.tmp rfl) .nil) rfl
theorem c_disk_Disk_Blocks (k : Nat) (p1 : disk_Disk) (r : Int) (h0 : disk_Disk_Blocks k p1 = some r) (ok : Ok) (w0 : World) (z0 : Value) (u0 : (ptrTo k_disk_Disk p1).holds ok w0 z0) :
 Gives Tryd.prog 30 [z0] ok w0 (resFact [(kint .i64).V r]) := by
 unfold disk_Disk_Blocks at h0
 refine enter (N := 10) Tryd.func30 rfl rfl (of_decide_eq_true rfl) (.cons u0 .nil) fun a1 s1 => ?_
 refine wp_seq_k fun K1 hK1 => wp_region_lit (qs s1 (.c1 rfl (ob_assign rfl (opd_int rfl)) (.ce (u 0 rfl .nil))) fun _ _ s3 => wn hK1 ?_); clear s1
 refine wp_seq_k fun K2 hK2 => wp_seq_k fun K3 hK3 => ?_
 refine wp_region_lit (qs s3 (.c1 rfl (mv rfl rfl) (.c1 rfl (ob_ptrrNil rfl pt24 (.tmp rfl) opd_is) (.ce (u 0 rfl (u 4 rfl .nil))))) fun _ _ s6 => wn hK3 ?_); clear s3
 refine cond_f s6 (.tmp rfl) ?_
 refine wp_skip ?_
 refine then_normal (hK2 _ _ ?_)
 have s7 := s6.sub (u 0 rfl .nil); clear s6
 refine wp_seq_k fun K4 hK4 => wp_region_lit (qs s7 (.c1 rfl (mv rfl rfl) (.c1 rfl (ob_nilCheckr rfl (.tmp rfl)) (.c1 rfl (ob_fieldAddrr rfl Tryd.underlying68 rfl sz65 (by decide) (.tmp rfl) (lg_disk_Disk_firm p1)) (.c1 rfl (ob_loadr rfl tk65 (.tmp rfl)) (.c1 rfl (ob_lens rfl Tryd.underlying65 (.tmp rfl)) (.c1 rfl (ob_assign rfl (.tmp rfl)) (.ce (u 2 rfl .nil)))))))) fun _ _ s14 => wn hK4 ?_); clear s7
 refine wp_ret ?_
 obtain rfl := Option.some.inj h0
 exact leave s14 (.inl rfl) rfl (.cons (.tmp rfl) .nil)
theorem c_disk_Disk_has (k : Nat) (p1 : disk_Disk) (p2 : Int) (r : Bool) (h0 : disk_Disk_has k p1 p2 = some r) (ok : Ok) (w0 : World) (z0 : Value) (z1 : Value) (u0 : (ptrTo k_disk_Disk p1).holds ok w0 z0) (u1 : ((kint .i64).V p2).holds ok w0 z1) :
 Gives Tryd.prog 60 [z0, z1] ok w0 (resFact [kbool.V r]) := by
 unfold disk_Disk_has at h0
 refine enter (N := 13) Tryd.func60 rfl rfl (of_decide_eq_true rfl) (.cons u0 (.cons u1 .nil)) fun a1 s1 => ?_
 refine wp_seq_k fun K1 hK1 => wp_region_lit (qs s1 (.c1 rfl (ob_assign rfl opd_bool) (.ce (u 0 rfl (u 1 rfl .nil)))) fun _ _ s3 => wn hK1 ?_); clear s1
 obtain ⟨x1, e_x1, h1⟩ := bind_some h0; clear h0
 refine wp_seq_k fun K2 hK2 => wp_region_lit (qs s3 (.c1 rfl (mv rfl rfl) (.c1 rfl (ob_geq rfl (.tmp rfl) (opd_int rfl)) (.c1 rfl (mv rfl rfl) (.cg rfl rfl rfl rfl (fun hb => ob_move rfl (.tmp rfl)) (.cg rfl rfl rfl rfl (fun hb => ob_move rfl (.tmp rfl)) (.cg rfl rfl rfl rfl (fun hb => (Ob.uncond (t := 9) hb rfl (ob_callD0 (args := [_]) rfl .direct hb30 (fun a w s => by exact c_disk_Disk_Blocks k _ _ (ite_t hb e_x1) _ _ _ (s.arg (.tmp rfl)))))) (.cg rfl rfl rfl rfl (fun hb => (Ob.uncond (t := 10) hb rfl ((Ob.uncond (t := 8) hb rfl (ob_lss rfl (.tmp rfl) (.tmp rfl)))))) (.c1 rfl (ob_and2 rfl (.tmp rfl) (.tmp rfl) opd_bool) (.c1 rfl (ob_assign rfl (.tmp rfl)) (.ce (u 4 rfl .nil))))))))))) fun _ _ s13 => wn hK2 ?_); clear s3
 refine wp_ret ?_
 obtain rfl := Option.some.inj h1
 exact leave s13 (.inl rfl) rfl (.cons (.tmp rfl) .nil)
theorem c_disk_Disk_Read (k : Nat) (p1 : disk_Disk) (p2 : Int) (r : ((List Int) × Int)) (h0 : disk_Disk_Read k p1 p2 = some r) (ok : Ok) (w0 : World) (z0 : Value) (z1 : Value) (u0 : (ptrTo k_disk_Disk p1).holds ok w0 z0) (u1 : ((kint .i64).V p2).holds ok w0 z1) :
 Gives Tryd.prog 31 [z0, z1] ok w0 (resFact [kstr.V r.1, (kint .i64).V r.2]) := by
 unfold disk_Disk_Read at h0
 refine enter (N := 38) Tryd.func31 rfl rfl (of_decide_eq_true rfl) (.cons u0 (.cons u1 .nil)) fun a1 s1 => ?_
 refine wp_seq_k fun K1 hK1 => wp_region_lit (qs s1 (.c1 rfl (ob_assign rfl (opd_str (by rfl) (by decide))) (.c1 rfl (ob_assign rfl (opd_int rfl)) (.ce (u 0 rfl (u 1 rfl .nil))))) fun _ _ s4 => wn hK1 ?_); clear s1
 refine wp_seq_k fun K2 hK2 => wp_seq_k fun K3 hK3 => ?_
 obtain ⟨x1, e_x1, h1⟩ := bind_some h0; clear h0
 refine wp_region_lit (qs s4 (.c1 rfl (mv rfl rfl) (.c1 rfl (mv rfl rfl) (.c1 rfl (ob_callD0 (args := [_, _]) rfl .direct hb60 (fun a w s => by exact c_disk_Disk_has k _ _ _ e_x1 _ _ _ _ (s.arg (.tmp rfl)) (s.arg (.tmp rfl)))) (.c1 rfl (ob_not rfl (.tmp rfl)) (.ce (u 0 rfl (u 1 rfl (u 12 rfl .nil)))))))) fun _ _ s9 => wn hK3 ?_); clear s4
 refine cond_split s9 (.tmp rfl) (fun hc1 => ?_) (fun hc1 => ?_)
 ·have h2 := ite_t hc1 h1; clear h1
  refine wp_seq_k fun K4 hK4 => wp_region_lit (qs s9 (.c1 rfl (ob_assign rfl (opd_str (by rfl) (by decide))) (.c1 rfl (ob_assign rfl (opd_int rfl)) (.ce (u 4 rfl (u 5 rfl .nil))))) fun _ _ s12 => wn hK4 ?_); clear s9
  refine wp_ret ?_
  obtain rfl := Option.some.inj h2
  exact leave s12 (.inl rfl) rfl (.cons (.tmp rfl) (.cons (.tmp rfl) .nil))
 ·have h3 := ite_f hc1 h1; clear h1
  refine wp_skip ?_
  refine then_normal (hK2 _ _ ?_)
  have s13 := s9.sub (u 0 rfl (u 1 rfl .nil)); clear s9
  obtain ⟨x2, e_x2, h4⟩ := bind_some h3; clear h3
  refine wp_seq_k fun K5 hK5 => wp_region_lit (qs s13 (.c1 rfl (mv rfl rfl) (.c1 rfl (ob_nilCheckr rfl (.tmp rfl)) (.c1 rfl (ob_fieldAddrr rfl Tryd.underlying68 rfl sz65 (by decide) (.tmp rfl) (lg_disk_Disk_firm p1)) (.c1 rfl (ob_loadr rfl tk65 (.tmp rfl)) (.c1 rfl (mv rfl rfl) (.c1 rfl (ob_indexAddrs rfl Tryd.underlying65 sz100 (.tmp rfl) (.tmp rfl) e_x2) (.c1 rfl (ob_loadr rfl tk100 (.tmp rfl)) .cz))))))) fun _ _ s20 => ?_); clear s13
  refine qx (B' := (fun b1 : Nat => [BF b1 100 (karr 256 (kint .u8)) (List.replicate 256 (0 : Int))])) s20 rfl (ob_new (k := (karr 256 (kint .u8))) rfl zz100 (Zr.arr 256 (Zr.int .u8))) fun b1 _ _ s21 => ?_; clear s20
  refine seq_opx0 (B' := (fun _ : Unit => [BF b1 100 (karr 256 (kint .u8)) x2])) s21 rfl rfl (ob_store (A := []) rfl tk100 (.tmp rfl) (.tmp rfl) rfl (LS.refl _ _ _) rfl) fun _ a22 w22 s22 => ?_; clear s21
  refine wn hK5 ?_
  have s23 := s22.sub (u 0 rfl (u 1 rfl (u 6 rfl .nil))); clear s22
  refine wp_seq_k fun K6 hK6 => wp_seq_k fun K7 hK7 => ?_
  refine wp_region_lit (qs s23 (.c1 rfl (mv rfl rfl) (.c1 rfl (ob_nilCheckr rfl (.tmp rfl)) (.c1 rfl (ob_fieldAddrr rfl Tryd.underlying68 rfl sz66 (by decide) (.tmp rfl) (lg_disk_Disk_loose p1)) (.c1 rfl (ob_loadr rfl tk66 (.tmp rfl)) (.c1 rfl (ob_lens rfl Tryd.underlying66 (.tmp rfl)) (.c1 rfl (ob_move rfl (opd_int rfl)) (.ce (u 1 rfl (u 6 rfl (u 23 rfl (u 24 rfl (u 25 rfl .nil)))))))))))) fun _ _ s30 => wn hK7 ?_); clear s23
  have hj1 : ∀ (y1 : (List Int)) (a : Act) (w : World), (disk_Disk_Read.j1 k) y1 = some r → St ⟨38, w0, ok, []⟩ [BF b1 100 (karr 256 (kint .u8)) y1] [(6, (ptrB b1 0))] a w → K6 a w := by
   intro y1 a31 w31 h5 s31
   unfold disk_Disk_Read.j1 at h5
   refine hK6 _ _ ?_
   obtain ⟨x3, e_x3, h6⟩ := bind_some h5; clear h5
   refine wp_seq_k fun K8 hK8 => wp_region_lit (qs s31 (.c1 rfl (ob_sliceArr rfl Tryd.underlying100 sz5 (.tmp rfl) .none .none (show (0 : Int) ≤ (0 : Int) ∧ (0 : Int) ≤ (256 : Int) ∧ (256 : Int) ≤ ((256 : Nat) : Int) by decide)) (.c1 rfl ((ob_lendG (L := [_]) (List.Perm.refl _) (.cons (t := 36) rfl (lendSlB (.head _) (LG.refl _ _) e_x3 rfl (cut_len e_x3) (cut_cap e_x3 (show (0 : Int) ≤ (0 : Int) ∧ (0 : Int) ≤ (256 : Int) ∧ (256 : Int) ≤ ((256 : Nat) : Int) by decide) (by decide))) .nil) (Flat.V KFlat.str) (fun _ => ob_bytesToStr rfl Tryd.underlying31 Tryd.underlying9 Tryd.underlying5 (.tmp rfl)))) (.c1 rfl (ob_assign rfl (.tmp rfl)) (.c1 rfl (ob_assign rfl (opd_int rfl)) (.ce (u 4 rfl (u 5 rfl .nil))))))) fun _ _ s36 => wn hK8 ?_); clear s31
   have s37 := St.drop (A := []) s36; clear s36
   refine wp_ret ?_
   obtain rfl := Option.some.inj h6
   exact leave s37 (.inl rfl) rfl (.cons (.tmp rfl) (.cons (.tmp rfl) .nil))
  refine wp_block ?_
  refine wp_loop_fuel (fun m (q : Int × (List Int)) => disk_Disk_Read.l1 k p1 p2 m q.1 q.2) r (fun _ => rfl) (fun q a w => St ⟨38, w0, ok, []⟩ [BF b1 100 (karr 256 (kint .u8)) q.2] [(1, ((kint .i64).V p2)), (6, (ptrB b1 0)), (23, ((ksl k_disk_write).V p1.loose)), (24, ((kint .i64).V (p1.loose.length : Int))), (25, ((kint .i64).V q.1))] a w) ?_ k ((0 : Int), x2) _ _ h4 (s30.sub (.cons rfl (.cons rfl (.cons rfl (.cons rfl (.cons rfl .nil))))))
  rintro n1 ⟨y2, y3⟩ a38 w38 h7 s38 K9 hK9
  replace h7 : disk_Disk_Read.l1 k p1 p2 (n1 + 1) y2 y3 = some r := h7; rw [disk_Disk_Read.l1] at h7
  have h8 := h7; clear h7
  refine wp_seq_k fun K10 hK10 => wp_region_lit (qs s38 (.c1 rfl (ob_lss rfl (.tmp rfl) (.tmp rfl)) (.ce (u 1 rfl (u 6 rfl (u 23 rfl (u 24 rfl (u 25 rfl (u 26 rfl .nil)))))))) fun _ _ s40 => wn hK10 ?_); clear s38
  refine wp_seq_k fun K11 hK11 => ?_
  refine cond_split s40 (.tmp rfl) (fun hc2 => ?_) (fun hc2 => ?_)
  ·have h9 := ite_t hc2 h8; clear h8
   refine wp_skip ?_
   refine then_normal (hK11 _ _ ?_)
   have s41 := s40.sub (u 1 rfl (u 6 rfl (u 23 rfl (u 24 rfl (u 25 rfl .nil))))); clear s40
   refine wp_seq_k fun K12 hK12 => ?_
   have hj2 : ∀ (y4 : (List Int)) (a : Act) (w : World), (disk_Disk_Read.j2 k y2 (disk_Disk_Read.l1 k p1 p2 n1)) y4 = some r → St ⟨38, w0, ok, []⟩ [BF b1 100 (karr 256 (kint .u8)) y4] [(1, ((kint .i64).V p2)), (6, (ptrB b1 0)), (23, ((ksl k_disk_write).V p1.loose)), (24, ((kint .i64).V (p1.loose.length : Int))), (25, ((kint .i64).V y2))] a w → K12 a w := by
    intro y4 a42 w42 h10 s42
    unfold disk_Disk_Read.j2 at h10
    refine hK12 _ _ ?_
    refine wp_region_lit (qs s42 (.c1 rfl (ob_add rfl (.tmp rfl) (opd_int rfl)) (.c1 rfl (mv rfl rfl) .cz)) fun _ _ s44 => ?_); clear s42
    refine wpList_nil ?_
    refine then_normal ?_
    exact hK9 ((iadd .i64 y2 (1 : Int)), y4) _ _ h10 (s44.sub (.cons rfl (.cons rfl (.cons rfl (.cons rfl (.cons rfl .nil))))))
   refine wp_block ?_
   obtain ⟨x4, e_x4, h11⟩ := bind_some h9; clear h9
   refine wp_seq_k fun K13 hK13 => wp_region_lit (qs s41 (.c1 rfl (ob_indexAddrs rfl Tryd.underlying66 sz102 (.tmp rfl) (.tmp rfl) e_x4) (.c1 rfl (ob_loadr rfl tk102 (.tmp rfl)) .cz)) fun _ _ s46 => ?_); clear s41
   refine qx (B' := (fun b2 : Nat => [BF b2 102 k_disk_write (⟨(0 : Int), (List.replicate 256 (0 : Int))⟩ : disk_write), BF b1 100 (karr 256 (kint .u8)) y3])) s46 rfl (ob_new (k := k_disk_write) rfl zz102 (Zr.iso (f := t_disk_write) (x := (⟨(0 : Int), (List.replicate 256 (0 : Int))⟩ : disk_write)) (Zr.pair (Zr.int .i64) (Zr.pair (Zr.arr 256 (Zr.int .u8)) Zr.nil)))) fun b2 _ _ s47 => ?_; clear s46
   refine seq_opx0 (B' := (fun _ : Unit => [BF b2 102 k_disk_write x4, BF b1 100 (karr 256 (kint .u8)) y3])) s47 rfl rfl (ob_store (A := []) rfl tk102 (.tmp rfl) (.tmp rfl) rfl (LS.refl _ _ _) rfl) fun _ a48 w48 s48 => ?_; clear s47
   refine wn hK13 ?_
   have s49 := s48.sub (u 1 rfl (u 6 rfl (u 8 rfl (u 23 rfl (u 24 rfl (u 25 rfl .nil)))))); clear s48
   refine wp_seq_k fun K14 hK14 => wp_region_lit (qs s49 (.c1 rfl (ob_fieldAddr (off' := 0) rfl Tryd.underlying102 rfl sz3 (by decide) (.tmp rfl) rfl) (.c1 rfl (ob_load rfl tk3 (.tmp rfl) (.head _) (lg_disk_write_at_ x4)) (.c1 rfl (mv rfl rfl) (.c1 rfl (ob_eql rfl (.tmp rfl) (.tmp rfl)) (.ce (u 1 rfl (u 6 rfl (u 8 rfl (u 23 rfl (u 24 rfl (u 25 rfl (u 32 rfl .nil)))))))))))) fun _ _ s54 => wn hK14 ?_); clear s49
   refine cond_split s54 (.tmp rfl) (fun hc3 => ?_) (fun hc3 => ?_)
   ·have h12 := ite_t hc3 h11; clear h11
    refine wp_region_lit (qs s54 (.c1 rfl (ob_fieldAddr (off' := 1) rfl Tryd.underlying102 rfl sz100 (by decide) (.tmp rfl) rfl) (.c1 rfl (ob_load rfl tk100 (.tmp rfl) (.head _) (lg_disk_write_data x4)) .cz)) fun _ _ s56 => ?_); clear s54
    refine seq_opx0 (B' := (fun _ : Unit => [BF b2 102 k_disk_write x4, BF b1 100 (karr 256 (kint .u8)) x4.data])) s56 rfl rfl (ob_store (A := [_]) rfl tk100 (.tmp rfl) (.tmp rfl) rfl (LS.refl _ _ _) rfl) fun _ a57 w57 s57 => ?_; clear s56
    refine wpList_nil ?_
    refine in_normal ?_
    refine then_normal ?_
    have s58 := St.drop (A := []) s57; clear s57
    exact hj2 x4.data _ _ h12 (s58.sub (.cons rfl (.cons rfl (.cons rfl (.cons rfl (.cons rfl .nil))))))
   ·have h13 := ite_f hc3 h11; clear h11
    refine wp_skip ?_
    refine in_normal ?_
    refine then_normal ?_
    have s59 := St.drop (A := []) s54; clear s54
    exact hj2 y3 _ _ h13 (s59.sub (.cons rfl (.cons rfl (.cons rfl (.cons rfl (.cons rfl .nil))))))
  ·have h14 := ite_f hc2 h8; clear h8
   refine wp_exit ?_
   refine (then_exit (then_exit (in_here ?_)))
   refine then_normal ?_
   exact hj1 y3 _ _ h14 (s40.sub (.cons rfl .nil))
theorem c_journal_filled (k : Nat) (p1 : (List Int)) (p2 : Int) (r : (List Int)) (h0 : journal_filled k p1 p2 = some r) (ok : Ok) (w0 : World) (z0 : Value) (z1 : Value) (u0 : (kstr.V p1).holds ok w0 z0) (u1 : ((kint .i64).V p2).holds ok w0 z1) :
 Gives Tryd.prog 32 [z0, z1] ok w0 (resFact [kstr.V r]) := by
 unfold journal_filled at h0
 refine enter (N := 14) Tryd.func32 rfl rfl (of_decide_eq_true rfl) (.cons u0 (.cons u1 .nil)) fun a1 s1 => ?_
 refine wp_seq_k fun K1 hK1 => wp_region_lit (qs s1 (.c1 rfl (ob_assign rfl (opd_str (by rfl) (by decide))) (.ce (u 0 rfl (u 1 rfl .nil)))) fun _ _ s3 => wn hK1 ?_); clear s1
 obtain ⟨x1, e_x1, h1⟩ := bind_some h0; clear h0; replace e_x1 := Option.some.inj e_x1
 obtain ⟨g1, h2⟩ := guard_some h1; clear h1
 refine wp_seq_k fun K2 hK2 => wp_region_lit (qs s3 (.c1 rfl (mv rfl rfl) (.c1 rfl (mv rfl rfl) (.c1 rfl (mv rfl rfl) (.c1 rfl (ob_lenStr rfl Tryd.underlying9 (.tmp rfl)) (.c1 rfl (ob_sub rfl (.tmp rfl) (.tmp rfl)) (.c1 rfl ((ob_max rfl (.tmp rfl) (opd_int rfl)).nm e_x1) .cz)))))) fun _ _ s9 => ?_); clear s3
 refine qx (B' := (fun v1 : Value => [RowF v1 5 (kint .u8) (List.replicate x1.toNat (0 : Int))])) s9 rfl (ob_makeRow (T8 := 0) rfl Tryd.underlying31 ap5 (Zr.int .u8) (by decide) (.tmp rfl) g1) fun v1 _ _ s10 => ?_; clear s9
 obtain ⟨g2, h3⟩ := guard_some h2; clear h2
 refine qs s10 (.c1 rfl ((ob_lendG (L := [_]) (List.Perm.refl _) (.cons (t := 11) rfl (lendRow (.head _)) .nil) (Flat.V KFlat.str) (fun _ => ob_bytesToStr rfl Tryd.underlying31 Tryd.underlying9 Tryd.underlying5 (.tmp rfl)))) (.c1 rfl (ob_cat rfl (.tmp rfl) (.tmp rfl) g2) (.c1 rfl (ob_assign rfl (.tmp rfl)) (.ce (u 4 rfl .nil))))) fun _ _ s14 => wn hK2 ?_; clear s10
 have s15 := St.drop (A := []) s14; clear s14
 refine wp_ret ?_
 obtain rfl := Option.some.inj h3
 exact leave s15 (.inl rfl) rfl (.cons (.tmp rfl) .nil)
theorem c_digest_Hash_begin (k : Nat) (p1 : digest_Hash) (r : digest_Hash) (h0 : digest_Hash_begin k p1 = some r) (ok : Ok) (w0 : World) (gl0 : (ptrTo (karr 8 (kint .u32)) G_digest_first).holds ok w0 (.pointer (some ⟨0, 0, none⟩))) (z0 : Value) (b00 : Nat) (l0 : ∀ q, q ∈ [BF b00 125 k_digest_Hash p1] → q.holds ok w0) (d0 : ∀ c, c ∈ idsOf [BF b00 125 k_digest_Hash p1] → ¬ ok c) (nd : (idsOf [BF b00 125 k_digest_Hash p1]).Nodup) (u0 : (ptrB b00 0).holds ok w0 z0) :
 GivesX Tryd.prog 89 [z0] ok w0 [BF b00 125 k_digest_Hash p1] (fun g : Unit => resFact []) (fun g : Unit => [BF b00 125 k_digest_Hash r]) := by
 unfold digest_Hash_begin at h0
 refine enterX (N := 14) Tryd.func89 rfl rfl (of_decide_eq_true rfl) (.cons u0 .nil) nd l0 d0 fun a1 s1 => ?_
 have s2 := s1.keepKnown 100000 gl0 (okInX (L := [BF b00 125 k_digest_Hash p1]) d0); clear s1
 refine wp_seq_k fun K1 hK1 => wp_region_lit (qs s2 (.c1 rfl (mv rfl rfl) (.c1 rfl (ob_nilCheck rfl (.tmp rfl)) (.c1 rfl (ob_fieldAddr (off' := 0) rfl Tryd.underlying125 rfl sz4 (by decide) (.tmp rfl) rfl) (.c1 rfl (ob_load rfl tk4 (.tmp rfl) (.head _) (lg_digest_Hash_begun p1)) (.c1 rfl (ob_not rfl (.tmp rfl)) (.ce (u 0 rfl (u 6 rfl (u 100000 rfl .nil))))))))) fun _ _ s8 => wn hK1 ?_); clear s2
 refine cond_split s8 (.tmp rfl) (fun hc1 => ?_) (fun hc1 => ?_)
 ·have h1 := ite_t hc1 h0; clear h0
  refine wp_region_lit (qs s8 (.c1 rfl (mv rfl rfl) (.c1 rfl (mv rfl rfl) (.c1 rfl (ob_loadr rfl tk119 (.kept (t := 100000) (fun _ => rfl) rfl)) (.c1 rfl (ob_nilCheck rfl (.tmp rfl)) (.c1 rfl (ob_fieldAddr (off' := 0) rfl Tryd.underlying125 rfl sz4 (by decide) (.tmp rfl) rfl) .cz))))) fun _ _ s13 => ?_); clear s8
  refine seq_opx0 (B' := (fun _ : Unit => [BF b00 125 k_digest_Hash ({ p1 with begun := true })])) s13 rfl rfl (ob_store (A := []) rfl tk4 (.tmp rfl) opd_bool rfl (ls_digest_Hash_begun p1 true) rfl) fun _ a14 w14 s14 => ?_; clear s13
  refine qs s14 (.c1 rfl (ob_nilCheck rfl (.tmp rfl)) (.c1 rfl (ob_fieldAddr (off' := 1) rfl Tryd.underlying125 rfl sz119 (by decide) (.tmp rfl) rfl) .cz)) fun _ _ s16 => ?_; clear s14
  refine seq_opx0 (B' := (fun _ : Unit => [BF b00 125 k_digest_Hash ({ { p1 with begun := true } with state := G_digest_first })])) s16 rfl rfl (ob_store (A := []) rfl tk119 (.tmp rfl) (.tmp rfl) rfl (ls_digest_Hash_state ({ p1 with begun := true }) G_digest_first) rfl) fun _ a17 w17 s17 => ?_; clear s16
  refine wpList_nil ?_
  obtain rfl := Option.some.inj h1
  exact leaveXD (D := []) () s17 rfl (.inr rfl) rfl .nil rfl
 ·have h2 := ite_f hc1 h0; clear h0
  refine wp_skip ?_
  obtain rfl := Option.some.inj h2
  exact leaveXD (D := []) () s8 rfl (.inr rfl) rfl .nil rfl
theorem c_math_bits_RotateLeft32 (k : Nat) (p1 : Int) (p2 : Int) (r : Int) (h0 : math_bits_RotateLeft32 k p1 p2 = some r) (ok : Ok) (w0 : World) (z0 : Value) (z1 : Value) (u0 : ((kint .u32).V p1).holds ok w0 z0) (u1 : ((kint .i64).V p2).holds ok w0 z1) :
 Gives Tryd.prog 97 [z0, z1] ok w0 (resFact [(kint .u32).V r]) := by
 unfold math_bits_RotateLeft32 at h0
 refine enter (N := 17) Tryd.func97 rfl rfl (of_decide_eq_true rfl) (.cons u0 (.cons u1 .nil)) fun a1 s1 => ?_
 refine wp_seq_k fun K1 hK1 => wp_region_lit (qs s1 (.c1 rfl (ob_assign rfl (opd_int rfl)) (.ce (u 0 rfl (u 1 rfl .nil)))) fun _ _ s3 => wn hK1 ?_); clear s1
 refine wp_seq_k fun K2 hK2 => wp_region_lit (qs s3 (.c1 rfl (mv rfl rfl) (.c1 rfl (ob_conv rfl _ Tryd.underlying3 Tryd.underlying40 (.tmp rfl)) (.c1 rfl (ob_and rfl (.tmp rfl) (opd_int rfl)) (.c1 rfl (ob_assign rfl (.tmp rfl)) (.ce (u 0 rfl (u 5 rfl .nil))))))) fun _ _ s8 => wn hK2 ?_); clear s3
 obtain ⟨g1, h1⟩ := guard_some h0; clear h0
 obtain ⟨g2, h2⟩ := guard_some h1; clear h1
 obtain ⟨x1, e_x1, h3⟩ := bind_some h2; clear h2; replace e_x1 := Option.some.inj e_x1
 obtain ⟨x2, e_x2, h4⟩ := bind_some h3; clear h3; replace e_x2 := Option.some.inj e_x2
 refine wp_seq_k fun K3 hK3 => wp_region_lit (qs s8 (.c1 rfl (mv rfl rfl) (.c1 rfl (mv rfl rfl) (.c1 rfl (ob_shl rfl (.tmp rfl) (.tmp rfl) g1) (.c1 rfl (mv rfl rfl) (.c1 rfl (mv rfl rfl) (.c1 rfl (ob_sub rfl (opd_int rfl) (.tmp rfl)) (.c1 rfl ((ob_shr rfl (.tmp rfl) (.tmp rfl) g2).nm e_x1) (.c1 rfl ((ob_or rfl (.tmp rfl) (.tmp rfl)).nm e_x2) (.c1 rfl (ob_assign rfl (.tmp rfl)) (.ce (u 4 rfl .nil))))))))))) fun _ _ s18 => wn hK3 ?_); clear s8
 refine wp_ret ?_
 obtain rfl := Option.some.inj h4
 exact leave s18 (.inl rfl) rfl (.cons (.tmp rfl) .nil)
theorem c_digest_turn (k : Nat) (p1 : Int) (p2 : Int) (p3 : Int) (p4 : Int) (r : Int) (h0 : digest_turn k p1 p2 p3 p4 = some r) (ok : Ok) (w0 : World) (z0 : Value) (z1 : Value) (z2 : Value) (z3 : Value) (u0 : ((kint .u32).V p1).holds ok w0 z0) (u1 : ((kint .i64).V p2).holds ok w0 z1) (u2 : ((kint .i64).V p3).holds ok w0 z2) (u3 : ((kint .i64).V p4).holds ok w0 z3) :
 Gives Tryd.prog 95 [z0, z1, z2, z3] ok w0 (resFact [(kint .u32).V r]) := by
 unfold digest_turn at h0
 refine enter (N := 22) Tryd.func95 rfl rfl (of_decide_eq_true rfl) (.cons u0 (.cons u1 (.cons u2 (.cons u3 .nil)))) fun a1 s1 => ?_
 refine wp_seq_k fun K1 hK1 => wp_region_lit (qs s1 (.c1 rfl (ob_assign rfl (opd_int rfl)) (.ce (u 0 rfl (u 1 rfl (u 2 rfl (u 3 rfl .nil)))))) fun _ _ s3 => wn hK1 ?_); clear s1
 refine wp_seq_k fun K2 hK2 => ?_
 obtain ⟨x1, e_x1, h1⟩ := bind_some h0; clear h0
 obtain ⟨x2, e_x2, h2⟩ := bind_some h1; clear h1
 obtain ⟨g1, h3⟩ := guard_some h2; clear h2
 refine wp_goes (Fs := [((kint .u32).V p1), ((kint .i64).V p2), ((kint .i64).V (isub .i64 0 p2)), ((kint .u32).V x1), ((kint .u32).V p1), ((kint .i64).V p3), ((kint .i64).V (isub .i64 0 p3)), ((kint .u32).V x2), ((kint .u32).V (ixor .u32 x1 x2)), ((kint .u32).V p1), ((kint .i64).V p4), ((kint .u32).V (ishr .u32 p1 p4))]) (bits := [0, 0, 2, 7, 0, 0, 32, 127, 255, 0, 0, 1536, 4095, 8191]) (m := 12) (todo := 0) mx s3 ?_; clear s3
 refine goes_last (by kernel_rfl) rfl (oc (av 0 rfl rfl Av.nil) rfl rfl (mv rfl rfl) (oc (av 1 rfl rfl Av.nil) rfl rfl (mv rfl rfl) (oc (an 1 rfl rfl rfl Av.nil) rfl rfl (ob_neg rfl (.tmp rfl)) (oc (an 0 rfl rfl rfl (an 2 rfl rfl rfl Av.nil)) rfl rfl (ob_callD0 (args := [_, _]) rfl .direct hb97 (fun a w s => by exact c_math_bits_RotateLeft32 k _ _ _ e_x1 _ _ _ _ (s.arg (.tmp rfl)) (s.arg (.tmp rfl)))) (oc (av 0 rfl rfl Av.nil) rfl rfl (mv rfl rfl) (oc (av 2 rfl rfl Av.nil) rfl rfl (mv rfl rfl) (oc (an 5 rfl rfl rfl Av.nil) rfl rfl (ob_neg rfl (.tmp rfl)) (oc (an 4 rfl rfl rfl (an 6 rfl rfl rfl Av.nil)) rfl rfl (ob_callD0 (args := [_, _]) rfl .direct hb97 (fun a w s => by exact c_math_bits_RotateLeft32 k _ _ _ e_x2 _ _ _ _ (s.arg (.tmp rfl)) (s.arg (.tmp rfl)))) (oc (an 3 rfl rfl rfl (an 7 rfl rfl rfl Av.nil)) rfl rfl (ob_xor rfl (.tmp rfl) (.tmp rfl)) (oc (av 0 rfl rfl Av.nil) rfl rfl (mv rfl rfl) (oc (av 3 rfl rfl Av.nil) rfl rfl (mv rfl rfl) (oc (an 9 rfl rfl rfl (an 10 rfl rfl rfl Av.nil)) rfl rfl (ob_shr rfl (.tmp rfl) (.tmp rfl) g1) opsS_nil)))))))))))) (out_new (i := 8) (by decide) rfl rfl (out_new (i := 11) (by decide) rfl rfl out_nil)) fun _ _ s4 => ?_
 refine qs s4 (.c1 rfl (ob_xor rfl (.tmp rfl) (.tmp rfl)) (.c1 rfl (ob_assign rfl (.tmp rfl)) (.ce (u 8 rfl .nil)))) fun _ _ s7 => wn hK2 ?_; clear s4
 refine wp_ret ?_
 obtain rfl := Option.some.inj h3
 exact leave s7 (.inl rfl) rfl (.cons (.tmp rfl) .nil)
theorem c_digest_spin (k : Nat) (p1 : Int) (p2 : Int) (p3 : Int) (p4 : Int) (r : Int) (h0 : digest_spin k p1 p2 p3 p4 = some r) (ok : Ok) (w0 : World) (z0 : Value) (z1 : Value) (z2 : Value) (z3 : Value) (u0 : ((kint .u32).V p1).holds ok w0 z0) (u1 : ((kint .i64).V p2).holds ok w0 z1) (u2 : ((kint .i64).V p3).holds ok w0 z2) (u3 : ((kint .i64).V p4).holds ok w0 z3) :
 Gives Tryd.prog 96 [z0, z1, z2, z3] ok w0 (resFact [(kint .u32).V r]) := by
 unfold digest_spin at h0
 refine enter (N := 23) Tryd.func96 rfl rfl (of_decide_eq_true rfl) (.cons u0 (.cons u1 (.cons u2 (.cons u3 .nil)))) fun a1 s1 => ?_
 refine wp_seq_k fun K1 hK1 => wp_region_lit (qs s1 (.c1 rfl (ob_assign rfl (opd_int rfl)) (.ce (u 0 rfl (u 1 rfl (u 2 rfl (u 3 rfl .nil)))))) fun _ _ s3 => wn hK1 ?_); clear s1
 obtain ⟨x1, e_x1, h1⟩ := bind_some h0; clear h0
 obtain ⟨x2, e_x2, h2⟩ := bind_some h1; clear h1
 obtain ⟨x3, e_x3, h3⟩ := bind_some h2; clear h2
 refine wp_seq_k fun K2 hK2 => wp_region_lit (qs s3 (.c1 rfl (mv rfl rfl) (.c1 rfl (mv rfl rfl) (.c1 rfl (ob_neg rfl (.tmp rfl)) (.c1 rfl (ob_callD0 (args := [_, _]) rfl .direct hb97 (fun a w s => by exact c_math_bits_RotateLeft32 k _ _ _ e_x1 _ _ _ _ (s.arg (.tmp rfl)) (s.arg (.tmp rfl)))) (.c1 rfl (mv rfl rfl) (.c1 rfl (mv rfl rfl) (.c1 rfl (ob_neg rfl (.tmp rfl)) (.c1 rfl (ob_callD0 (args := [_, _]) rfl .direct hb97 (fun a w s => by exact c_math_bits_RotateLeft32 k _ _ _ e_x2 _ _ _ _ (s.arg (.tmp rfl)) (s.arg (.tmp rfl)))) (.c1 rfl (ob_xor rfl (.tmp rfl) (.tmp rfl)) (.c1 rfl (mv rfl rfl) (.c1 rfl (mv rfl rfl) (.c1 rfl (ob_neg rfl (.tmp rfl)) (.c1 rfl (ob_callD0 (args := [_, _]) rfl .direct hb97 (fun a w s => by exact c_math_bits_RotateLeft32 k _ _ _ e_x3 _ _ _ _ (s.arg (.tmp rfl)) (s.arg (.tmp rfl)))) (.c1 rfl (ob_xor rfl (.tmp rfl) (.tmp rfl)) (.c1 rfl (ob_assign rfl (.tmp rfl)) (.ce (u 8 rfl .nil))))))))))))))))) fun _ _ s19 => wn hK2 ?_); clear s3
 refine wp_ret ?_
 obtain rfl := Option.some.inj h3
 exact leave s19 (.inl rfl) rfl (.cons (.tmp rfl) .nil)
theorem c_digest_Hash_take (k : Nat) (p1 : digest_Hash) (r : digest_Hash) (h0 : digest_Hash_take k p1 = some r) (ok : Ok) (w0 : World) (gl1 : (ptrTo (karr 64 (kint .u32)) G_digest_rounds).holds ok w0 (.pointer (some ⟨1, 0, none⟩))) (z0 : Value) (b00 : Nat) (l0 : ∀ q, q ∈ [BF b00 125 k_digest_Hash p1] → q.holds ok w0) (d0 : ∀ c, c ∈ idsOf [BF b00 125 k_digest_Hash p1] → ¬ ok c) (nd : (idsOf [BF b00 125 k_digest_Hash p1]).Nodup) (u0 : (ptrB b00 0).holds ok w0 z0) :
 GivesX Tryd.prog 93 [z0] ok w0 [BF b00 125 k_digest_Hash p1] (fun g : Unit => resFact []) (fun g : Unit => [BF b00 125 k_digest_Hash r]) := by
 unfold digest_Hash_take at h0
 refine enterX (N := 164) Tryd.func93 rfl rfl (of_decide_eq_true rfl) (.cons u0 .nil) nd l0 d0 fun a1 s1 => ?_
 have s2 := s1.keepKnown 100001 gl1 (okInX (L := [BF b00 125 k_digest_Hash p1]) d0); clear s1
 refine wp_seq_k fun K1 hK1 => wp_region_lit ?_
 refine qx (B' := (fun b1 : Nat => [BF b1 132 (karr 64 (kint .u32)) (List.replicate 64 (0 : Int)), BF b00 125 k_digest_Hash p1])) s2 rfl (ob_new (k := (karr 64 (kint .u32))) rfl zz132 (Zr.arr 64 (Zr.int .u32))) fun b1 _ _ s3 => ?_; clear s2
 refine wn hK1 ?_
 have s4 := s3.sub (u 0 rfl (u 2 rfl (u 100001 rfl .nil))); clear s3
 refine wp_seq_k fun K2 hK2 => wp_seq_k fun K3 hK3 => ?_
 refine wp_region_lit (qs s4 (.c1 rfl (ob_move rfl (opd_int rfl)) (.ce (u 0 rfl (u 2 rfl (u 13 rfl (u 100001 rfl .nil)))))) fun _ _ s6 => wn hK3 ?_); clear s4
 have hj1 : ∀ (y1 : (List Int)) (a : Act) (w : World), (digest_Hash_take.j1 k p1) y1 = some r → St ⟨164, w0, ok, (idsOf [BF b00 125 k_digest_Hash p1])⟩ [BF b00 125 k_digest_Hash p1, BF b1 132 (karr 64 (kint .u32)) y1] [(0, (ptrB b00 0)), (2, (ptrB b1 0)), (100001, (known (.pointer (some ⟨1, 0, none⟩)) (ptrTo (karr 64 (kint .u32)) G_digest_rounds)))] a w → K2 a w := by
  intro y1 a7 w7 h1 s7
  unfold digest_Hash_take.j1 at h1
  refine hK2 _ _ ?_
  refine wp_seq_k fun K4 hK4 => wp_seq_k fun K5 hK5 => ?_
  refine wp_region_lit (qs s7 (.c1 rfl (ob_assign rfl (opd_int rfl)) (.ce (u 0 rfl (u 2 rfl (u 6 rfl (u 100001 rfl .nil)))))) fun _ _ s9 => wn hK5 ?_); clear s7
  have hj2 : ∀ (y2 : (List Int)) (a : Act) (w : World), (digest_Hash_take.j2 k p1) y2 = some r → St ⟨164, w0, ok, (idsOf [BF b00 125 k_digest_Hash p1])⟩ [BF b00 125 k_digest_Hash p1, BF b1 132 (karr 64 (kint .u32)) y2] [(0, (ptrB b00 0)), (2, (ptrB b1 0)), (100001, (known (.pointer (some ⟨1, 0, none⟩)) (ptrTo (karr 64 (kint .u32)) G_digest_rounds)))] a w → K4 a w := by
   intro y2 a10 w10 h2 s10
   unfold digest_Hash_take.j2 at h2
   refine hK4 _ _ ?_
   refine wp_seq_k fun K6 hK6 => wp_region_lit (qs s10 (.c1 rfl (mv rfl rfl) (.c1 rfl (ob_nilCheck rfl (.tmp rfl)) (.c1 rfl (ob_fieldAddr (off' := 1) rfl Tryd.underlying125 rfl sz119 (by decide) (.tmp rfl) rfl) (.c1 rfl (ob_load rfl tk119 (.tmp rfl) (.head _) (lg_digest_Hash_state p1)) .cz)))) fun _ _ s14 => ?_); clear s10
   refine qx (B' := (fun b2 : Nat => [BF b2 119 (karr 8 (kint .u32)) (List.replicate 8 (0 : Int)), BF b00 125 k_digest_Hash p1, BF b1 132 (karr 64 (kint .u32)) y2])) s14 rfl (ob_new (k := (karr 8 (kint .u32))) rfl zz119 (Zr.arr 8 (Zr.int .u32))) fun b2 _ _ s15 => ?_; clear s14
   refine seq_opx0 (B' := (fun _ : Unit => [BF b2 119 (karr 8 (kint .u32)) p1.state, BF b00 125 k_digest_Hash p1, BF b1 132 (karr 64 (kint .u32)) y2])) s15 rfl rfl (ob_store (A := []) rfl tk119 (.tmp rfl) (.tmp rfl) rfl (LS.refl _ _ _) rfl) fun _ a16 w16 s16 => ?_; clear s15
   refine wn hK6 ?_
   have s17 := s16.sub (u 0 rfl (u 2 rfl (u 7 rfl (u 100001 rfl .nil)))); clear s16
   refine wp_seq_k fun K7 hK7 => wp_seq_k fun K8 hK8 => ?_
   refine wp_region_lit (qs s17 (.c1 rfl (ob_loadr rfl tk132 (.kept (t := 100001) (fun _ => rfl) rfl)) (.c1 rfl (ob_move rfl (opd_int rfl)) (.ce (u 0 rfl (u 2 rfl (u 7 rfl (u 72 rfl (u 73 rfl (u 100001 rfl .nil))))))))) fun _ _ s20 => wn hK8 ?_); clear s17
   have hj3 : ∀ (y3 : (List Int)) (a : Act) (w : World), (digest_Hash_take.j3 k p1) y3 = some r → St ⟨164, w0, ok, (idsOf [BF b00 125 k_digest_Hash p1])⟩ [BF b00 125 k_digest_Hash p1, BF b2 119 (karr 8 (kint .u32)) y3] [(0, (ptrB b00 0)), (7, (ptrB b2 0)), (100001, (known (.pointer (some ⟨1, 0, none⟩)) (ptrTo (karr 64 (kint .u32)) G_digest_rounds)))] a w → K7 a w := by
    intro y3 a21 w21 h3 s21
    unfold digest_Hash_take.j3 at h3
    refine hK7 _ _ ?_
    refine wp_seq_k fun K9 hK9 => wp_seq_k fun K10 hK10 => ?_
    refine wp_region_lit (qs s21 (.c1 rfl (ob_move rfl (opd_int rfl)) (.ce (u 0 rfl (u 7 rfl (u 144 rfl (u 100001 rfl .nil)))))) fun _ _ s23 => wn hK10 ?_); clear s21
    have hj4 : ∀ (y4 : digest_Hash) (a : Act) (w : World), (digest_Hash_take.j4 k) y4 = some r → St ⟨164, w0, ok, (idsOf [BF b00 125 k_digest_Hash p1])⟩ [BF b00 125 k_digest_Hash y4] [(0, (ptrB b00 0)), (100001, (known (.pointer (some ⟨1, 0, none⟩)) (ptrTo (karr 64 (kint .u32)) G_digest_rounds)))] a w → K9 a w := by
     intro y4 a24 w24 h4 s24
     unfold digest_Hash_take.j4 at h4
     refine hK9 _ _ ?_
     refine wp_region_lit (qs s24 (.c1 rfl (mv rfl rfl) (.c1 rfl (ob_nilCheck rfl (.tmp rfl)) (.c1 rfl (ob_fieldAddr (off' := 73) rfl Tryd.underlying125 rfl sz3 (by decide) (.tmp rfl) rfl) .cz))) fun _ _ s27 => ?_); clear s24
     refine seq_opx0 (B' := (fun _ : Unit => [BF b00 125 k_digest_Hash ({ y4 with many := (0 : Int) })])) s27 rfl rfl (ob_store (A := []) rfl tk3 (.tmp rfl) (opd_int rfl) rfl (ls_digest_Hash_many y4 (0 : Int)) rfl) fun _ a28 w28 s28 => ?_; clear s27
     refine wpList_nil ?_
     obtain rfl := Option.some.inj h4
     exact leaveXD (D := []) () s28 rfl (.inr rfl) rfl .nil rfl
    refine wp_block ?_
    refine wp_loop_fuel (fun m (q : Int × digest_Hash) => digest_Hash_take.l1 k y3 m q.1 q.2) r (fun _ => rfl) (fun q a w => St ⟨164, w0, ok, (idsOf [BF b00 125 k_digest_Hash p1])⟩ [BF b00 125 k_digest_Hash q.2, BF b2 119 (karr 8 (kint .u32)) y3] [(0, (ptrB b00 0)), (7, (ptrB b2 0)), (144, ((kint .i64).V q.1)), (100001, (known (.pointer (some ⟨1, 0, none⟩)) (ptrTo (karr 64 (kint .u32)) G_digest_rounds)))] a w) ?_ k ((0 : Int), p1) _ _ h3 (s23.sub (.cons rfl (.cons rfl (.cons rfl (.cons rfl .nil)))))
    rintro n1 ⟨y5, y6⟩ a29 w29 h5 s29 K11 hK11
    replace h5 : digest_Hash_take.l1 k y3 (n1 + 1) y5 y6 = some r := h5; rw [digest_Hash_take.l1] at h5
    have h6 := h5; clear h5
    refine wp_seq_k fun K12 hK12 => wp_region_lit (qs s29 (.c1 rfl (ob_lss rfl (.tmp rfl) (opd_int rfl)) (.ce (u 0 rfl (u 7 rfl (u 144 rfl (u 145 rfl (u 100001 rfl .nil))))))) fun _ _ s31 => wn hK12 ?_); clear s29
    refine wp_seq_k fun K13 hK13 => ?_
    refine cond_split s31 (.tmp rfl) (fun hc1 => ?_) (fun hc1 => ?_)
    ·have h7 := ite_t hc1 h6; clear h6
     refine wp_skip ?_
     refine then_normal (hK13 _ _ ?_)
     have s32 := s31.sub (u 0 rfl (u 7 rfl (u 144 rfl (u 100001 rfl .nil)))); clear s31
     refine wp_seq_k fun K14 hK14 => wp_block ?_
     refine wp_seq_k fun K15 hK15 => wp_region_lit (qs s32 (.c1 rfl (mv rfl rfl) (.c1 rfl (ob_assign rfl (.tmp rfl)) (.ce (u 0 rfl (u 7 rfl (u 12 rfl (u 144 rfl (u 100001 rfl .nil)))))))) fun _ _ s35 => wn hK15 ?_); clear s32
     obtain ⟨g1, h8⟩ := guard_some h7; clear h7
     obtain ⟨x1, e_x1, h9⟩ := bind_some h8; clear h8
     obtain ⟨g2, h10⟩ := guard_some h9; clear h9
     obtain ⟨x2, e_x2, h11⟩ := bind_some h10; clear h10
     refine wp_goes (Fs := [(ptrB b00 0), ((kint .i64).V y5), (ptrB b00 0), (ptrB b00 1), (ptrB b00 (1 + y5.toNat * 1)), ((kint .u32).V x1), ((kint .i64).V y5), (ptrB b2 (y5.toNat * 1)), ((kint .u32).V x2), ((kint .u32).V (iadd .u32 x1 x2)), (ptrB b00 0), (ptrB b00 1)]) (bits := [0, 0, 1, 5, 15, 31, 0, 64, 192, 511, 1, 1025, 4095, 8191]) (m := 12) (todo := 0) mx s35 ?_; clear s35
     refine goes_last (by kernel_rfl) rfl (oc (av 0 rfl rfl (av 100001 rfl rfl Av.nil)) rfl rfl (mv rfl rfl) (oc (av 12 rfl rfl (av 100001 rfl rfl Av.nil)) rfl rfl (mv rfl rfl) (oc (an 0 rfl rfl rfl (av 100001 rfl rfl Av.nil)) rfl rfl (ob_nilCheck rfl (.tmp rfl)) (oc (an 2 rfl rfl rfl (av 100001 rfl rfl Av.nil)) rfl rfl (ob_fieldAddr (off' := 1) rfl Tryd.underlying125 rfl sz119 (by decide) (.tmp rfl) rfl) (oc (an 1 rfl rfl rfl (an 3 rfl rfl rfl (av 100001 rfl rfl Av.nil))) rfl rfl (ob_indexAddr rfl Tryd.underlying119 sz116 (.tmp rfl) (.tmp rfl) g1.1 g1.2 rfl) (oc (an 4 rfl rfl rfl (av 100001 rfl rfl Av.nil)) rfl rfl (ob_load rfl tk116 (.tmp rfl) (.head _) (LG.trans (lg_digest_Hash_state y6) (LG.arrA e_x1) (by decide))) (oc (av 12 rfl rfl (av 100001 rfl rfl Av.nil)) rfl rfl (mv rfl rfl) (oc (av 7 rfl rfl (an 6 rfl rfl rfl (av 100001 rfl rfl Av.nil))) rfl rfl (ob_indexAddr rfl Tryd.underlying119 sz116 (.tmp rfl) (.tmp rfl) g2.1 g2.2 (Nat.zero_add _)) (oc (an 7 rfl rfl rfl (av 100001 rfl rfl Av.nil)) rfl rfl (ob_load rfl tk116 (.tmp rfl) (.tail _ (.head _)) (LG.arrA e_x2)) (oc (an 5 rfl rfl rfl (an 8 rfl rfl rfl (av 100001 rfl rfl Av.nil))) rfl rfl (ob_add rfl (.tmp rfl) (.tmp rfl)) (oc (an 0 rfl rfl rfl (av 100001 rfl rfl Av.nil)) rfl rfl (ob_nilCheck rfl (.tmp rfl)) (oc (an 10 rfl rfl rfl (av 100001 rfl rfl Av.nil)) rfl rfl (ob_fieldAddr (off' := 1) rfl Tryd.underlying125 rfl sz119 (by decide) (.tmp rfl) rfl) opsS_nil)))))))))))) (out_old (t := 0) rfl rfl (out_old (t := 7) rfl rfl (out_old (t := 144) rfl rfl (out_new (i := 1) (by decide) rfl rfl (out_new (i := 9) (by decide) rfl rfl (out_new (i := 11) (by decide) rfl rfl (out_old (t := 100001) rfl rfl out_nil))))))) fun _ _ s36 => ?_
     obtain ⟨g3, h12⟩ := guard_some h11; clear h11
     obtain ⟨x3, e_x3, h13⟩ := bind_some h12; clear h12
     refine qs s36 (.c1 rfl (ob_indexAddr rfl Tryd.underlying119 sz116 (.tmp rfl) (.tmp rfl) g3.1 g3.2 rfl) .cz) fun _ _ s37 => ?_; clear s36
     refine seq_opx0 (B' := (fun _ : Unit => [BF b00 125 k_digest_Hash ({ y6 with state := x3 }), BF b2 119 (karr 8 (kint .u32)) y3])) s37 rfl rfl (ob_store (A := []) rfl tk116 (.tmp rfl) (.tmp rfl) rfl (LS.trans (lg_digest_Hash_state y6) (LS.arrS e_x3) (ls_digest_Hash_state y6 x3)) rfl) fun _ a38 w38 s38 => ?_; clear s37
     refine wpList_nil ?_
     refine in_normal ?_
     refine then_normal (hK14 _ _ ?_)
     have s39 := s38.sub (u 0 rfl (u 7 rfl (u 144 rfl (u 100001 rfl .nil)))); clear s38
     refine wp_region_lit (qs s39 (.c1 rfl (ob_add rfl (.tmp rfl) (opd_int rfl)) (.c1 rfl (mv rfl rfl) .cz)) fun _ _ s41 => ?_); clear s39
     refine wpList_nil ?_
     refine then_normal ?_
     exact hK11 ((iadd .i64 y5 (1 : Int)), { y6 with state := x3 }) _ _ h13 (s41.sub (.cons rfl (.cons rfl (.cons rfl (.cons rfl .nil)))))
    ·have h14 := ite_f hc1 h6; clear h6
     refine wp_exit ?_
     refine (then_exit (then_exit (in_here ?_)))
     refine then_normal ?_
     have s42 := St.drop (A := [_]) s31; clear s31
     exact hj4 y6 _ _ h14 (s42.sub (.cons rfl (.cons rfl .nil)))
   refine wp_block ?_
   have s43 := s20.perm (toFront [_] (toFront [_] (toFront [] (List.Perm.refl _)))); clear s20
   refine wp_loop_fuel (fun m (q : Int × (List Int)) => digest_Hash_take.l2 k y2 p1 m q.1 q.2) r (fun _ => rfl) (fun q a w => St ⟨164, w0, ok, (idsOf [BF b00 125 k_digest_Hash p1])⟩ [BF b00 125 k_digest_Hash p1, BF b1 132 (karr 64 (kint .u32)) y2, BF b2 119 (karr 8 (kint .u32)) q.2] [(0, (ptrB b00 0)), (2, (ptrB b1 0)), (7, (ptrB b2 0)), (72, ((karr 64 (kint .u32)).V G_digest_rounds)), (73, ((kint .i64).V q.1)), (100001, (known (.pointer (some ⟨1, 0, none⟩)) (ptrTo (karr 64 (kint .u32)) G_digest_rounds)))] a w) ?_ k ((0 : Int), p1.state) _ _ h2 (s43.sub (.cons rfl (.cons rfl (.cons rfl (.cons rfl (.cons rfl (.cons rfl .nil)))))))
   rintro n2 ⟨y7, y8⟩ a44 w44 h15 s44 K16 hK16
   replace h15 : digest_Hash_take.l2 k y2 p1 (n2 + 1) y7 y8 = some r := h15; rw [digest_Hash_take.l2] at h15
   have h16 := h15; clear h15
   refine wp_seq_k fun K17 hK17 => wp_region_lit (qs s44 (.c1 rfl (ob_lss rfl (.tmp rfl) (opd_int rfl)) (.ce (u 0 rfl (u 2 rfl (u 7 rfl (u 72 rfl (u 73 rfl (u 74 rfl (u 100001 rfl .nil))))))))) fun _ _ s46 => wn hK17 ?_); clear s44
   refine wp_seq_k fun K18 hK18 => ?_
   refine cond_split s46 (.tmp rfl) (fun hc2 => ?_) (fun hc2 => ?_)
   ·have h17 := ite_t hc2 h16; clear h16
    refine wp_skip ?_
    refine then_normal (hK18 _ _ ?_)
    have s47 := s46.sub (u 0 rfl (u 2 rfl (u 7 rfl (u 72 rfl (u 73 rfl (u 100001 rfl .nil)))))); clear s46
    refine wp_seq_k fun K19 hK19 => wp_block ?_
    obtain ⟨x4, e_x4, h18⟩ := bind_some h17; clear h17
    obtain ⟨g4, h19⟩ := guard_some h18; clear h18
    refine wp_seq_k fun K20 hK20 => wp_region_lit (qs s47 (.c1 rfl (mv rfl rfl) (.c1 rfl (ob_index rfl Tryd.underlying132 tk116 (.tmp rfl) (.tmp rfl) g4 e_x4) (.c1 rfl (ob_assign rfl (.tmp rfl)) (.c1 rfl (ob_assign rfl (.tmp rfl)) (.ce (u 0 rfl (u 2 rfl (u 7 rfl (u 8 rfl (u 9 rfl (u 72 rfl (u 73 rfl (u 100001 rfl .nil))))))))))))) fun _ _ s52 => wn hK20 ?_); clear s47
    refine wp_seq_k fun K21 hK21 => ?_
    obtain ⟨x5, e_x5, h20⟩ := bind_some h19; clear h19
    obtain ⟨x6, e_x6, h21⟩ := bind_some h20; clear h20
    obtain ⟨x7, e_x7, h22⟩ := bind_some h21; clear h21
    obtain ⟨x8, e_x8, h23⟩ := bind_some h22; clear h22
    obtain ⟨x9, e_x9, h24⟩ := bind_some h23; clear h23
    obtain ⟨x10, e_x10, h25⟩ := bind_some h24; clear h24
    obtain ⟨x11, e_x11, h26⟩ := bind_some h25; clear h25
    obtain ⟨x12, e_x12, h27⟩ := bind_some h26; clear h26; replace e_x12 := Option.some.inj e_x12
    obtain ⟨g5, h28⟩ := guard_some h27; clear h27
    obtain ⟨x13, e_x13, h29⟩ := bind_some h28; clear h28
    refine wp_goes (Fs := [(ptrB b2 ((7 : Int).toNat * 1)), ((kint .u32).V x5), (ptrB b2 ((4 : Int).toNat * 1)), ((kint .u32).V x6), ((kint .u32).V x7), ((kint .u32).V (iadd .u32 x5 x7)), (ptrB b2 ((4 : Int).toNat * 1)), ((kint .u32).V x8), (ptrB b2 ((5 : Int).toNat * 1)), ((kint .u32).V x9), ((kint .u32).V (iand .u32 x8 x9)), (ptrB b2 ((4 : Int).toNat * 1)), ((kint .u32).V x10), ((kint .u32).V (inot .u32 x10)), (ptrB b2 ((6 : Int).toNat * 1)), ((kint .u32).V x11), ((kint .u32).V (iand .u32 (inot .u32 x10) x11)), ((kint .u32).V (ixor .u32 (iand .u32 x8 x9) (iand .u32 (inot .u32 x10) x11))), ((kint .u32).V x12), ((kint .u32).V x4), ((kint .u32).V (iadd .u32 x12 x4)), ((kint .i64).V y7), (ptrB b1 (y7.toNat * 1)), ((kint .u32).V x13)]) (bits := [0, 1, 0, 4, 12, 31, 0, 64, 0, 256, 960, 0, 2048, 6144, 0, 16384, 63488, 131008, 262143, 0, 1048575, 0, 2097152, 6291456, 16777215, 33554431]) (m := 24) (todo := 0) mx s52 ?_; clear s52
    refine goes_last (by kernel_rfl) rfl (oc (av 7 rfl rfl (av 100001 rfl rfl Av.nil)) rfl rfl (ob_indexAddr rfl Tryd.underlying119 sz116 (.tmp rfl) (opd_int rfl) (by decide) (by decide) (Nat.zero_add _)) (oc (an 0 rfl rfl rfl (av 100001 rfl rfl Av.nil)) rfl rfl (ob_load rfl tk116 (.tmp rfl) (.tail _ (.tail _ (.head _))) (LG.arrA e_x5)) (oc (av 7 rfl rfl (av 100001 rfl rfl Av.nil)) rfl rfl (ob_indexAddr rfl Tryd.underlying119 sz116 (.tmp rfl) (opd_int rfl) (by decide) (by decide) (Nat.zero_add _)) (oc (an 2 rfl rfl rfl (av 100001 rfl rfl Av.nil)) rfl rfl (ob_load rfl tk116 (.tmp rfl) (.tail _ (.tail _ (.head _))) (LG.arrA e_x6)) (oc (an 3 rfl rfl rfl (av 100001 rfl rfl Av.nil)) rfl rfl (ob_callD0 (args := [_, _, _, _]) rfl .direct hb96 (fun a w s => by exact c_digest_spin k _ _ _ _ _ e_x7 _ _ _ _ _ _ (s.arg (.tmp rfl)) (s.arg (opd_int rfl)) (s.arg (opd_int rfl)) (s.arg (opd_int rfl)))) (oc (an 1 rfl rfl rfl (an 4 rfl rfl rfl (av 100001 rfl rfl Av.nil))) rfl rfl (ob_add rfl (.tmp rfl) (.tmp rfl)) (oc (av 7 rfl rfl (av 100001 rfl rfl Av.nil)) rfl rfl (ob_indexAddr rfl Tryd.underlying119 sz116 (.tmp rfl) (opd_int rfl) (by decide) (by decide) (Nat.zero_add _)) (oc (an 6 rfl rfl rfl (av 100001 rfl rfl Av.nil)) rfl rfl (ob_load rfl tk116 (.tmp rfl) (.tail _ (.tail _ (.head _))) (LG.arrA e_x8)) (oc (av 7 rfl rfl (av 100001 rfl rfl Av.nil)) rfl rfl (ob_indexAddr rfl Tryd.underlying119 sz116 (.tmp rfl) (opd_int rfl) (by decide) (by decide) (Nat.zero_add _)) (oc (an 8 rfl rfl rfl (av 100001 rfl rfl Av.nil)) rfl rfl (ob_load rfl tk116 (.tmp rfl) (.tail _ (.tail _ (.head _))) (LG.arrA e_x9)) (oc (an 7 rfl rfl rfl (an 9 rfl rfl rfl (av 100001 rfl rfl Av.nil))) rfl rfl (ob_and rfl (.tmp rfl) (.tmp rfl)) (oc (av 7 rfl rfl (av 100001 rfl rfl Av.nil)) rfl rfl (ob_indexAddr rfl Tryd.underlying119 sz116 (.tmp rfl) (opd_int rfl) (by decide) (by decide) (Nat.zero_add _)) (oc (an 11 rfl rfl rfl (av 100001 rfl rfl Av.nil)) rfl rfl (ob_load rfl tk116 (.tmp rfl) (.tail _ (.tail _ (.head _))) (LG.arrA e_x10)) (oc (an 12 rfl rfl rfl (av 100001 rfl rfl Av.nil)) rfl rfl (ob_xor1 rfl (.tmp rfl)) (oc (av 7 rfl rfl (av 100001 rfl rfl Av.nil)) rfl rfl (ob_indexAddr rfl Tryd.underlying119 sz116 (.tmp rfl) (opd_int rfl) (by decide) (by decide) (Nat.zero_add _)) (oc (an 14 rfl rfl rfl (av 100001 rfl rfl Av.nil)) rfl rfl (ob_load rfl tk116 (.tmp rfl) (.tail _ (.tail _ (.head _))) (LG.arrA e_x11)) (oc (an 13 rfl rfl rfl (an 15 rfl rfl rfl (av 100001 rfl rfl Av.nil))) rfl rfl (ob_and rfl (.tmp rfl) (.tmp rfl)) (oc (an 10 rfl rfl rfl (an 16 rfl rfl rfl (av 100001 rfl rfl Av.nil))) rfl rfl (ob_xor rfl (.tmp rfl) (.tmp rfl)) (oc (an 5 rfl rfl rfl (an 17 rfl rfl rfl (av 100001 rfl rfl Av.nil))) rfl rfl ((ob_add rfl (.tmp rfl) (.tmp rfl)).nm e_x12) (oc (av 9 rfl rfl (av 100001 rfl rfl Av.nil)) rfl rfl (mv rfl rfl) (oc (an 18 rfl rfl rfl (an 19 rfl rfl rfl (av 100001 rfl rfl Av.nil))) rfl rfl (ob_add rfl (.tmp rfl) (.tmp rfl)) (oc (av 8 rfl rfl (av 100001 rfl rfl Av.nil)) rfl rfl (mv rfl rfl) (oc (av 2 rfl rfl (an 21 rfl rfl rfl (av 100001 rfl rfl Av.nil))) rfl rfl (ob_indexAddr rfl Tryd.underlying132 sz116 (.tmp rfl) (.tmp rfl) g5.1 g5.2 (Nat.zero_add _)) (oc (an 22 rfl rfl rfl (av 100001 rfl rfl Av.nil)) rfl rfl (ob_load rfl tk116 (.tmp rfl) (.tail _ (.head _)) (LG.arrA e_x13)) opsS_nil)))))))))))))))))))))))) (out_old (t := 0) rfl rfl (out_old (t := 2) rfl rfl (out_old (t := 7) rfl rfl (out_old (t := 72) rfl rfl (out_old (t := 73) rfl rfl (out_new (i := 20) (by decide) rfl rfl (out_new (i := 23) (by decide) rfl rfl (out_old (t := 100001) rfl rfl out_nil)))))))) fun _ _ s53 => ?_
    refine qs s53 (.c1 rfl (ob_add rfl (.tmp rfl) (.tmp rfl)) (.c1 rfl (ob_assign rfl (.tmp rfl)) (.ce (u 0 rfl (u 2 rfl (u 7 rfl (u 10 rfl (u 72 rfl (u 73 rfl (u 100001 rfl .nil)))))))))) fun _ _ s56 => wn hK21 ?_; clear s53
    refine wp_seq_k fun K22 hK22 => ?_
    obtain ⟨x14, e_x14, h30⟩ := bind_some h29; clear h29
    obtain ⟨x15, e_x15, h31⟩ := bind_some h30; clear h30
    obtain ⟨x16, e_x16, h32⟩ := bind_some h31; clear h31
    obtain ⟨x17, e_x17, h33⟩ := bind_some h32; clear h32
    obtain ⟨x18, e_x18, h34⟩ := bind_some h33; clear h33
    obtain ⟨x19, e_x19, h35⟩ := bind_some h34; clear h34
    obtain ⟨x20, e_x20, h36⟩ := bind_some h35; clear h35
    obtain ⟨x21, e_x21, h37⟩ := bind_some h36; clear h36
    obtain ⟨x22, e_x22, h38⟩ := bind_some h37; clear h37; replace e_x22 := Option.some.inj e_x22
    refine wp_goes (Fs := [(ptrB b2 ((0 : Int).toNat * 1)), ((kint .u32).V x14), ((kint .u32).V x15), (ptrB b2 ((0 : Int).toNat * 1)), ((kint .u32).V x16), (ptrB b2 ((1 : Int).toNat * 1)), ((kint .u32).V x17), ((kint .u32).V (iand .u32 x16 x17)), (ptrB b2 ((0 : Int).toNat * 1)), ((kint .u32).V x18), (ptrB b2 ((2 : Int).toNat * 1)), ((kint .u32).V x19), ((kint .u32).V (iand .u32 x18 x19)), ((kint .u32).V (ixor .u32 (iand .u32 x16 x17) (iand .u32 x18 x19))), (ptrB b2 ((1 : Int).toNat * 1)), ((kint .u32).V x20), (ptrB b2 ((2 : Int).toNat * 1)), ((kint .u32).V x21), ((kint .u32).V (iand .u32 x20 x21)), ((kint .u32).V x22)]) (bits := [0, 1, 3, 0, 8, 0, 32, 120, 0, 256, 0, 1024, 3840, 8184, 0, 16384, 0, 65536, 245760, 524280, 1048575, 2097151]) (m := 20) (todo := 0) mx s56 ?_; clear s56
    refine goes_last (by kernel_rfl) rfl (oc (av 7 rfl rfl (av 100001 rfl rfl Av.nil)) rfl rfl (ob_indexAddr rfl Tryd.underlying119 sz116 (.tmp rfl) (opd_int rfl) (by decide) (by decide) (Nat.zero_add _)) (oc (an 0 rfl rfl rfl (av 100001 rfl rfl Av.nil)) rfl rfl (ob_load rfl tk116 (.tmp rfl) (.tail _ (.tail _ (.head _))) (LG.arrA e_x14)) (oc (an 1 rfl rfl rfl (av 100001 rfl rfl Av.nil)) rfl rfl (ob_callD0 (args := [_, _, _, _]) rfl .direct hb96 (fun a w s => by exact c_digest_spin k _ _ _ _ _ e_x15 _ _ _ _ _ _ (s.arg (.tmp rfl)) (s.arg (opd_int rfl)) (s.arg (opd_int rfl)) (s.arg (opd_int rfl)))) (oc (av 7 rfl rfl (av 100001 rfl rfl Av.nil)) rfl rfl (ob_indexAddr rfl Tryd.underlying119 sz116 (.tmp rfl) (opd_int rfl) (by decide) (by decide) (Nat.zero_add _)) (oc (an 3 rfl rfl rfl (av 100001 rfl rfl Av.nil)) rfl rfl (ob_load rfl tk116 (.tmp rfl) (.tail _ (.tail _ (.head _))) (LG.arrA e_x16)) (oc (av 7 rfl rfl (av 100001 rfl rfl Av.nil)) rfl rfl (ob_indexAddr rfl Tryd.underlying119 sz116 (.tmp rfl) (opd_int rfl) (by decide) (by decide) (Nat.zero_add _)) (oc (an 5 rfl rfl rfl (av 100001 rfl rfl Av.nil)) rfl rfl (ob_load rfl tk116 (.tmp rfl) (.tail _ (.tail _ (.head _))) (LG.arrA e_x17)) (oc (an 4 rfl rfl rfl (an 6 rfl rfl rfl (av 100001 rfl rfl Av.nil))) rfl rfl (ob_and rfl (.tmp rfl) (.tmp rfl)) (oc (av 7 rfl rfl (av 100001 rfl rfl Av.nil)) rfl rfl (ob_indexAddr rfl Tryd.underlying119 sz116 (.tmp rfl) (opd_int rfl) (by decide) (by decide) (Nat.zero_add _)) (oc (an 8 rfl rfl rfl (av 100001 rfl rfl Av.nil)) rfl rfl (ob_load rfl tk116 (.tmp rfl) (.tail _ (.tail _ (.head _))) (LG.arrA e_x18)) (oc (av 7 rfl rfl (av 100001 rfl rfl Av.nil)) rfl rfl (ob_indexAddr rfl Tryd.underlying119 sz116 (.tmp rfl) (opd_int rfl) (by decide) (by decide) (Nat.zero_add _)) (oc (an 10 rfl rfl rfl (av 100001 rfl rfl Av.nil)) rfl rfl (ob_load rfl tk116 (.tmp rfl) (.tail _ (.tail _ (.head _))) (LG.arrA e_x19)) (oc (an 9 rfl rfl rfl (an 11 rfl rfl rfl (av 100001 rfl rfl Av.nil))) rfl rfl (ob_and rfl (.tmp rfl) (.tmp rfl)) (oc (an 7 rfl rfl rfl (an 12 rfl rfl rfl (av 100001 rfl rfl Av.nil))) rfl rfl (ob_xor rfl (.tmp rfl) (.tmp rfl)) (oc (av 7 rfl rfl (av 100001 rfl rfl Av.nil)) rfl rfl (ob_indexAddr rfl Tryd.underlying119 sz116 (.tmp rfl) (opd_int rfl) (by decide) (by decide) (Nat.zero_add _)) (oc (an 14 rfl rfl rfl (av 100001 rfl rfl Av.nil)) rfl rfl (ob_load rfl tk116 (.tmp rfl) (.tail _ (.tail _ (.head _))) (LG.arrA e_x20)) (oc (av 7 rfl rfl (av 100001 rfl rfl Av.nil)) rfl rfl (ob_indexAddr rfl Tryd.underlying119 sz116 (.tmp rfl) (opd_int rfl) (by decide) (by decide) (Nat.zero_add _)) (oc (an 16 rfl rfl rfl (av 100001 rfl rfl Av.nil)) rfl rfl (ob_load rfl tk116 (.tmp rfl) (.tail _ (.tail _ (.head _))) (LG.arrA e_x21)) (oc (an 15 rfl rfl rfl (an 17 rfl rfl rfl (av 100001 rfl rfl Av.nil))) rfl rfl (ob_and rfl (.tmp rfl) (.tmp rfl)) (oc (an 13 rfl rfl rfl (an 18 rfl rfl rfl (av 100001 rfl rfl Av.nil))) rfl rfl ((ob_xor rfl (.tmp rfl) (.tmp rfl)).nm e_x22) opsS_nil)))))))))))))))))))) (out_old (t := 0) rfl rfl (out_old (t := 2) rfl rfl (out_old (t := 7) rfl rfl (out_old (t := 10) rfl rfl (out_old (t := 72) rfl rfl (out_old (t := 73) rfl rfl (out_new (i := 2) (by decide) rfl rfl (out_new (i := 19) (by decide) rfl rfl (out_old (t := 100001) rfl rfl out_nil))))))))) fun _ _ s57 => ?_
    refine qs s57 (.c1 rfl (ob_add rfl (.tmp rfl) (.tmp rfl)) (.c1 rfl (ob_assign rfl (.tmp rfl)) (.ce (u 0 rfl (u 2 rfl (u 7 rfl (u 10 rfl (u 11 rfl (u 72 rfl (u 73 rfl (u 100001 rfl .nil))))))))))) fun _ _ s60 => wn hK22 ?_; clear s57
    obtain ⟨x23, e_x23, h39⟩ := bind_some h38; clear h38
    obtain ⟨x24, e_x24, h40⟩ := bind_some h39; clear h39
    obtain ⟨x25, e_x25, h41⟩ := bind_some h40; clear h40
    obtain ⟨x26, e_x26, h42⟩ := bind_some h41; clear h41
    obtain ⟨x27, e_x27, h43⟩ := bind_some h42; clear h42
    obtain ⟨x28, e_x28, h44⟩ := bind_some h43; clear h43
    obtain ⟨x29, e_x29, h45⟩ := bind_some h44; clear h44
    obtain ⟨x30, e_x30, h46⟩ := bind_some h45; clear h45; replace e_x30 := Option.some.inj e_x30
    refine wp_region_lit (qs s60 (.c1 rfl (mv rfl rfl) (.c1 rfl (mv rfl rfl) (.c1 rfl (ob_add rfl (.tmp rfl) (.tmp rfl)) (.c1 rfl (ob_indexAddr rfl Tryd.underlying119 sz116 (.tmp rfl) (opd_int rfl) (by decide) (by decide) (Nat.zero_add _)) (.c1 rfl (ob_load rfl tk116 (.tmp rfl) (.tail _ (.tail _ (.head _))) (LG.arrA e_x23)) (.c1 rfl (ob_indexAddr rfl Tryd.underlying119 sz116 (.tmp rfl) (opd_int rfl) (by decide) (by decide) (Nat.zero_add _)) (.c1 rfl (ob_load rfl tk116 (.tmp rfl) (.tail _ (.tail _ (.head _))) (LG.arrA e_x24)) (.c1 rfl (ob_indexAddr rfl Tryd.underlying119 sz116 (.tmp rfl) (opd_int rfl) (by decide) (by decide) (Nat.zero_add _)) (.c1 rfl (ob_load rfl tk116 (.tmp rfl) (.tail _ (.tail _ (.head _))) (LG.arrA e_x25)) (.c1 rfl (ob_indexAddr rfl Tryd.underlying119 sz116 (.tmp rfl) (opd_int rfl) (by decide) (by decide) (Nat.zero_add _)) (.c1 rfl (ob_load rfl tk116 (.tmp rfl) (.tail _ (.tail _ (.head _))) (LG.arrA e_x26)) (.c1 rfl (mv rfl rfl) (.c1 rfl (ob_add rfl (.tmp rfl) (.tmp rfl)) (.c1 rfl (ob_indexAddr rfl Tryd.underlying119 sz116 (.tmp rfl) (opd_int rfl) (by decide) (by decide) (Nat.zero_add _)) (.c1 rfl (ob_load rfl tk116 (.tmp rfl) (.tail _ (.tail _ (.head _))) (LG.arrA e_x27)) (.c1 rfl (ob_indexAddr rfl Tryd.underlying119 sz116 (.tmp rfl) (opd_int rfl) (by decide) (by decide) (Nat.zero_add _)) (.c1 rfl (ob_load rfl tk116 (.tmp rfl) (.tail _ (.tail _ (.head _))) (LG.arrA e_x28)) (.c1 rfl (ob_indexAddr rfl Tryd.underlying119 sz116 (.tmp rfl) (opd_int rfl) (by decide) (by decide) (Nat.zero_add _)) (.c1 rfl (ob_load rfl tk116 (.tmp rfl) (.tail _ (.tail _ (.head _))) (LG.arrA e_x29)) (.c1 rfl (((ob_mkArr (k := (kint .u32)) rfl Tryd.underlying119 zz119 sz116 (Zr.arr 8 (Zr.int .u32)) (.cons (.tmp rfl) rfl (LS.arr' (i := 0) (ys := ([(iadd .u32 (iadd .u32 (iadd .u32 x12 x4) x13) (iadd .u32 x15 x22)), (0 : Int), (0 : Int), (0 : Int), (0 : Int), (0 : Int), (0 : Int), (0 : Int)] : (List Int))) (by simp) (by rfl)) (.cons (.tmp rfl) rfl (LS.arr' (i := 1) (ys := ([(iadd .u32 (iadd .u32 (iadd .u32 x12 x4) x13) (iadd .u32 x15 x22)), x23, (0 : Int), (0 : Int), (0 : Int), (0 : Int), (0 : Int), (0 : Int)] : (List Int))) (by simp) (by rfl)) (.cons (.tmp rfl) rfl (LS.arr' (i := 2) (ys := ([(iadd .u32 (iadd .u32 (iadd .u32 x12 x4) x13) (iadd .u32 x15 x22)), x23, x24, (0 : Int), (0 : Int), (0 : Int), (0 : Int), (0 : Int)] : (List Int))) (by simp) (by rfl)) (.cons (.tmp rfl) rfl (LS.arr' (i := 3) (ys := ([(iadd .u32 (iadd .u32 (iadd .u32 x12 x4) x13) (iadd .u32 x15 x22)), x23, x24, x25, (0 : Int), (0 : Int), (0 : Int), (0 : Int)] : (List Int))) (by simp) (by rfl)) (.cons (.tmp rfl) rfl (LS.arr' (i := 4) (ys := ([(iadd .u32 (iadd .u32 (iadd .u32 x12 x4) x13) (iadd .u32 x15 x22)), x23, x24, x25, (iadd .u32 x26 (iadd .u32 (iadd .u32 x12 x4) x13)), (0 : Int), (0 : Int), (0 : Int)] : (List Int))) (by simp) (by rfl)) (.cons (.tmp rfl) rfl (LS.arr' (i := 5) (ys := ([(iadd .u32 (iadd .u32 (iadd .u32 x12 x4) x13) (iadd .u32 x15 x22)), x23, x24, x25, (iadd .u32 x26 (iadd .u32 (iadd .u32 x12 x4) x13)), x27, (0 : Int), (0 : Int)] : (List Int))) (by simp) (by rfl)) (.cons (.tmp rfl) rfl (LS.arr' (i := 6) (ys := ([(iadd .u32 (iadd .u32 (iadd .u32 x12 x4) x13) (iadd .u32 x15 x22)), x23, x24, x25, (iadd .u32 x26 (iadd .u32 (iadd .u32 x12 x4) x13)), x27, x28, (0 : Int)] : (List Int))) (by simp) (by rfl)) (.cons (.tmp rfl) rfl (LS.arr' (i := 7) (ys := ([(iadd .u32 (iadd .u32 (iadd .u32 x12 x4) x13) (iadd .u32 x15 x22)), x23, x24, x25, (iadd .u32 x26 (iadd .u32 (iadd .u32 x12 x4) x13)), x27, x28, x29] : (List Int))) (by simp) (by rfl)) (.nil _))))))))) : Ob _ _ _ _ _ ((karr 8 (kint .u32)).V ([(iadd .u32 (iadd .u32 (iadd .u32 x12 x4) x13) (iadd .u32 x15 x22)), x23, x24, x25, (iadd .u32 x26 (iadd .u32 (iadd .u32 x12 x4) x13)), x27, x28, x29] : (List Int))))).nm e_x30) .cz)))))))))))))))))))) fun _ _ s80 => ?_); clear s60
    refine seq_opx0 (B' := (fun _ : Unit => [BF b00 125 k_digest_Hash p1, BF b1 132 (karr 64 (kint .u32)) y2, BF b2 119 (karr 8 (kint .u32)) x30])) s80 rfl rfl (ob_store (A := [_, _]) rfl tk119 (.tmp rfl) (.tmp rfl) rfl (LS.refl _ _ _) rfl) fun _ a81 w81 s81 => ?_; clear s80
    refine wpList_nil ?_
    refine in_normal ?_
    refine then_normal (hK19 _ _ ?_)
    have s82 := s81.sub (u 0 rfl (u 2 rfl (u 7 rfl (u 72 rfl (u 73 rfl (u 100001 rfl .nil)))))); clear s81
    refine wp_region_lit (qs s82 (.c1 rfl (ob_add rfl (.tmp rfl) (opd_int rfl)) (.c1 rfl (mv rfl rfl) .cz)) fun _ _ s84 => ?_); clear s82
    refine wpList_nil ?_
    refine then_normal ?_
    exact hK16 ((iadd .i64 y7 (1 : Int)), x30) _ _ h46 (s84.sub (.cons rfl (.cons rfl (.cons rfl (.cons rfl (.cons rfl (.cons rfl .nil)))))))
   ·have h47 := ite_f hc2 h16; clear h16
    refine wp_exit ?_
    refine (then_exit (then_exit (in_here ?_)))
    refine then_normal ?_
    have s85 := St.drop (A := [_]) s46; clear s46
    exact hj3 y8 _ _ h47 (s85.sub (.cons rfl (.cons rfl (.cons rfl .nil))))
  refine wp_block ?_
  refine wp_loop_fuel (fun m (q : Int × (List Int)) => digest_Hash_take.l3 k p1 m q.1 q.2) r (fun _ => rfl) (fun q a w => St ⟨164, w0, ok, (idsOf [BF b00 125 k_digest_Hash p1])⟩ [BF b00 125 k_digest_Hash p1, BF b1 132 (karr 64 (kint .u32)) q.2] [(0, (ptrB b00 0)), (2, (ptrB b1 0)), (6, ((kint .i64).V q.1)), (100001, (known (.pointer (some ⟨1, 0, none⟩)) (ptrTo (karr 64 (kint .u32)) G_digest_rounds)))] a w) ?_ k ((16 : Int), y1) _ _ h1 (s9.sub (.cons rfl (.cons rfl (.cons rfl (.cons rfl .nil)))))
  rintro n3 ⟨y9, y10⟩ a86 w86 h48 s86 K23 hK23
  replace h48 : digest_Hash_take.l3 k p1 (n3 + 1) y9 y10 = some r := h48; rw [digest_Hash_take.l3] at h48
  have h49 := h48; clear h48
  refine wp_seq_k fun K24 hK24 => wp_seq_k fun K25 hK25 => ?_
  refine wp_region_lit (qs s86 (.c1 rfl (mv rfl rfl) (.c1 rfl (ob_lss rfl (.tmp rfl) (opd_int rfl)) (.ce (u 0 rfl (u 2 rfl (u 6 rfl (u 42 rfl (u 100001 rfl .nil)))))))) fun _ _ s89 => wn hK25 ?_); clear s86
  refine cond_split s89 (.tmp rfl) (fun hc3 => ?_) (fun hc3 => ?_)
  ·have h50 := ite_t hc3 h49; clear h49
   refine wp_skip ?_
   refine then_normal (hK24 _ _ ?_)
   have s90 := s89.sub (u 0 rfl (u 2 rfl (u 6 rfl (u 100001 rfl .nil)))); clear s89
   refine wp_seq_k fun K26 hK26 => wp_block ?_
   obtain ⟨g6, h51⟩ := guard_some h50; clear h50
   obtain ⟨x31, e_x31, h52⟩ := bind_some h51; clear h51
   obtain ⟨x32, e_x32, h53⟩ := bind_some h52; clear h52
   obtain ⟨g7, h54⟩ := guard_some h53; clear h53
   obtain ⟨x33, e_x33, h55⟩ := bind_some h54; clear h54
   obtain ⟨g8, h56⟩ := guard_some h55; clear h55
   obtain ⟨x34, e_x34, h57⟩ := bind_some h56; clear h56
   obtain ⟨x35, e_x35, h58⟩ := bind_some h57; clear h57
   obtain ⟨g9, h59⟩ := guard_some h58; clear h58
   obtain ⟨x36, e_x36, h60⟩ := bind_some h59; clear h59
   refine wp_goes (Fs := [((kint .i64).V y9), ((kint .i64).V y9), ((kint .i64).V (isub .i64 y9 (2 : Int))), (ptrB b1 ((isub .i64 y9 (2 : Int)).toNat * 1)), ((kint .u32).V x31), ((kint .u32).V x32), ((kint .i64).V y9), ((kint .i64).V (isub .i64 y9 (7 : Int))), (ptrB b1 ((isub .i64 y9 (7 : Int)).toNat * 1)), ((kint .u32).V x33), ((kint .u32).V (iadd .u32 x32 x33)), ((kint .i64).V y9), ((kint .i64).V (isub .i64 y9 (15 : Int))), (ptrB b1 ((isub .i64 y9 (15 : Int)).toNat * 1)), ((kint .u32).V x34), ((kint .u32).V x35), ((kint .u32).V (iadd .u32 (iadd .u32 x32 x33) x35)), ((kint .i64).V y9), ((kint .i64).V (isub .i64 y9 (16 : Int))), (ptrB b1 ((isub .i64 y9 (16 : Int)).toNat * 1)), ((kint .u32).V x36), ((kint .u32).V (iadd .u32 (iadd .u32 (iadd .u32 x32 x33) x35) x36))]) (bits := [0, 0, 2, 6, 14, 30, 0, 64, 192, 448, 1022, 0, 2048, 6144, 14336, 30782, 65534, 0, 131072, 393216, 917504, 2097150, 4194303, 8388607]) (m := 22) (todo := 0) mx s90 ?_; clear s90
   refine goes_last (by kernel_rfl) rfl (oc (av 6 rfl rfl (av 100001 rfl rfl Av.nil)) rfl rfl (mv rfl rfl) (oc (av 6 rfl rfl (av 100001 rfl rfl Av.nil)) rfl rfl (mv rfl rfl) (oc (an 1 rfl rfl rfl (av 100001 rfl rfl Av.nil)) rfl rfl (ob_sub rfl (.tmp rfl) (opd_int rfl)) (oc (av 2 rfl rfl (an 2 rfl rfl rfl (av 100001 rfl rfl Av.nil))) rfl rfl (ob_indexAddr rfl Tryd.underlying132 sz116 (.tmp rfl) (.tmp rfl) g6.1 g6.2 (Nat.zero_add _)) (oc (an 3 rfl rfl rfl (av 100001 rfl rfl Av.nil)) rfl rfl (ob_load rfl tk116 (.tmp rfl) (.tail _ (.head _)) (LG.arrA e_x31)) (oc (an 4 rfl rfl rfl (av 100001 rfl rfl Av.nil)) rfl rfl (ob_callD0 (args := [_, _, _, _]) rfl .direct hb95 (fun a w s => by exact c_digest_turn k _ _ _ _ _ e_x32 _ _ _ _ _ _ (s.arg (.tmp rfl)) (s.arg (opd_int rfl)) (s.arg (opd_int rfl)) (s.arg (opd_int rfl)))) (oc (av 6 rfl rfl (av 100001 rfl rfl Av.nil)) rfl rfl (mv rfl rfl) (oc (an 6 rfl rfl rfl (av 100001 rfl rfl Av.nil)) rfl rfl (ob_sub rfl (.tmp rfl) (opd_int rfl)) (oc (av 2 rfl rfl (an 7 rfl rfl rfl (av 100001 rfl rfl Av.nil))) rfl rfl (ob_indexAddr rfl Tryd.underlying132 sz116 (.tmp rfl) (.tmp rfl) g7.1 g7.2 (Nat.zero_add _)) (oc (an 8 rfl rfl rfl (av 100001 rfl rfl Av.nil)) rfl rfl (ob_load rfl tk116 (.tmp rfl) (.tail _ (.head _)) (LG.arrA e_x33)) (oc (an 5 rfl rfl rfl (an 9 rfl rfl rfl (av 100001 rfl rfl Av.nil))) rfl rfl (ob_add rfl (.tmp rfl) (.tmp rfl)) (oc (av 6 rfl rfl (av 100001 rfl rfl Av.nil)) rfl rfl (mv rfl rfl) (oc (an 11 rfl rfl rfl (av 100001 rfl rfl Av.nil)) rfl rfl (ob_sub rfl (.tmp rfl) (opd_int rfl)) (oc (av 2 rfl rfl (an 12 rfl rfl rfl (av 100001 rfl rfl Av.nil))) rfl rfl (ob_indexAddr rfl Tryd.underlying132 sz116 (.tmp rfl) (.tmp rfl) g8.1 g8.2 (Nat.zero_add _)) (oc (an 13 rfl rfl rfl (av 100001 rfl rfl Av.nil)) rfl rfl (ob_load rfl tk116 (.tmp rfl) (.tail _ (.head _)) (LG.arrA e_x34)) (oc (an 14 rfl rfl rfl (av 100001 rfl rfl Av.nil)) rfl rfl (ob_callD0 (args := [_, _, _, _]) rfl .direct hb95 (fun a w s => by exact c_digest_turn k _ _ _ _ _ e_x35 _ _ _ _ _ _ (s.arg (.tmp rfl)) (s.arg (opd_int rfl)) (s.arg (opd_int rfl)) (s.arg (opd_int rfl)))) (oc (an 10 rfl rfl rfl (an 15 rfl rfl rfl (av 100001 rfl rfl Av.nil))) rfl rfl (ob_add rfl (.tmp rfl) (.tmp rfl)) (oc (av 6 rfl rfl (av 100001 rfl rfl Av.nil)) rfl rfl (mv rfl rfl) (oc (an 17 rfl rfl rfl (av 100001 rfl rfl Av.nil)) rfl rfl (ob_sub rfl (.tmp rfl) (opd_int rfl)) (oc (av 2 rfl rfl (an 18 rfl rfl rfl (av 100001 rfl rfl Av.nil))) rfl rfl (ob_indexAddr rfl Tryd.underlying132 sz116 (.tmp rfl) (.tmp rfl) g9.1 g9.2 (Nat.zero_add _)) (oc (an 19 rfl rfl rfl (av 100001 rfl rfl Av.nil)) rfl rfl (ob_load rfl tk116 (.tmp rfl) (.tail _ (.head _)) (LG.arrA e_x36)) (oc (an 16 rfl rfl rfl (an 20 rfl rfl rfl (av 100001 rfl rfl Av.nil))) rfl rfl (ob_add rfl (.tmp rfl) (.tmp rfl)) opsS_nil)))))))))))))))))))))) (out_old (t := 0) rfl rfl (out_old (t := 2) rfl rfl (out_old (t := 6) rfl rfl (out_new (i := 0) (by decide) rfl rfl (out_new (i := 21) (by decide) rfl rfl (out_old (t := 100001) rfl rfl out_nil)))))) fun _ _ s91 => ?_
   obtain ⟨g10, h61⟩ := guard_some h60; clear h60
   obtain ⟨x37, e_x37, h62⟩ := bind_some h61; clear h61
   refine qs s91 (.c1 rfl (ob_indexAddr rfl Tryd.underlying132 sz116 (.tmp rfl) (.tmp rfl) g10.1 g10.2 (Nat.zero_add _)) .cz) fun _ _ s92 => ?_; clear s91
   refine seq_opx0 (B' := (fun _ : Unit => [BF b00 125 k_digest_Hash p1, BF b1 132 (karr 64 (kint .u32)) x37])) s92 rfl rfl (ob_store (A := [_]) rfl tk116 (.tmp rfl) (.tmp rfl) rfl (LS.arrS e_x37) rfl) fun _ a93 w93 s93 => ?_; clear s92
   refine wpList_nil ?_
   refine in_normal ?_
   refine then_normal (hK26 _ _ ?_)
   have s94 := s93.sub (u 0 rfl (u 2 rfl (u 6 rfl (u 100001 rfl .nil)))); clear s93
   refine wp_region_lit (qs s94 (.c1 rfl (mv rfl rfl) (.c1 rfl (ob_add rfl (.tmp rfl) (opd_int rfl)) (.c1 rfl (ob_assign rfl (.tmp rfl)) .cz))) fun _ _ s97 => ?_); clear s94
   refine wpList_nil ?_
   refine then_normal ?_
   exact hK23 ((iadd .i64 y9 (1 : Int)), x37) _ _ h62 (s97.sub (.cons rfl (.cons rfl (.cons rfl (.cons rfl .nil)))))
  ·have h63 := ite_f hc3 h49; clear h49
   refine wp_exit ?_
   refine (then_exit (then_exit (in_here ?_)))
   refine then_normal ?_
   exact hj2 y10 _ _ h63 (s89.sub (.cons rfl (.cons rfl (.cons rfl .nil))))
 refine wp_block ?_
 have s98 := s6.perm (toFront [_] (toFront [] (List.Perm.refl _))); clear s6
 refine wp_loop_fuel (fun m (q : Int × (List Int)) => digest_Hash_take.l4 k p1 m q.1 q.2) r (fun _ => rfl) (fun q a w => St ⟨164, w0, ok, (idsOf [BF b00 125 k_digest_Hash p1])⟩ [BF b00 125 k_digest_Hash p1, BF b1 132 (karr 64 (kint .u32)) q.2] [(0, (ptrB b00 0)), (2, (ptrB b1 0)), (13, ((kint .i64).V q.1)), (100001, (known (.pointer (some ⟨1, 0, none⟩)) (ptrTo (karr 64 (kint .u32)) G_digest_rounds)))] a w) ?_ k ((0 : Int), (List.replicate 64 (0 : Int))) _ _ h0 (s98.sub (.cons rfl (.cons rfl (.cons rfl (.cons rfl .nil)))))
 rintro n4 ⟨y11, y12⟩ a99 w99 h64 s99 K27 hK27
 replace h64 : digest_Hash_take.l4 k p1 (n4 + 1) y11 y12 = some r := h64; rw [digest_Hash_take.l4] at h64
 have h65 := h64; clear h64
 refine wp_seq_k fun K28 hK28 => wp_region_lit (qs s99 (.c1 rfl (ob_lss rfl (.tmp rfl) (opd_int rfl)) (.ce (u 0 rfl (u 2 rfl (u 13 rfl (u 14 rfl (u 100001 rfl .nil))))))) fun _ _ s101 => wn hK28 ?_); clear s99
 refine wp_seq_k fun K29 hK29 => ?_
 refine cond_split s101 (.tmp rfl) (fun hc4 => ?_) (fun hc4 => ?_)
 ·have h66 := ite_t hc4 h65; clear h65
  refine wp_skip ?_
  refine then_normal (hK29 _ _ ?_)
  have s102 := s101.sub (u 0 rfl (u 2 rfl (u 13 rfl (u 100001 rfl .nil)))); clear s101
  refine wp_seq_k fun K30 hK30 => ?_
  have hj5 : ∀ (y13 : (List Int)) (a : Act) (w : World), (digest_Hash_take.j5 k y11 (digest_Hash_take.l4 k p1 n4)) y13 = some r → St ⟨164, w0, ok, (idsOf [BF b00 125 k_digest_Hash p1])⟩ [BF b00 125 k_digest_Hash p1, BF b1 132 (karr 64 (kint .u32)) y13] [(0, (ptrB b00 0)), (2, (ptrB b1 0)), (13, ((kint .i64).V y11)), (100001, (known (.pointer (some ⟨1, 0, none⟩)) (ptrTo (karr 64 (kint .u32)) G_digest_rounds)))] a w → K30 a w := by
   intro y13 a103 w103 h67 s103
   unfold digest_Hash_take.j5 at h67
   refine hK30 _ _ ?_
   refine wp_region_lit (qs s103 (.c1 rfl (ob_add rfl (.tmp rfl) (opd_int rfl)) (.c1 rfl (mv rfl rfl) .cz)) fun _ _ s105 => ?_); clear s103
   refine wpList_nil ?_
   refine then_normal ?_
   exact hK27 ((iadd .i64 y11 (1 : Int)), y13) _ _ h67 (s105.sub (.cons rfl (.cons rfl (.cons rfl (.cons rfl .nil)))))
  refine wp_block ?_
  refine wp_seq_k fun K31 hK31 => wp_region_lit (qs s102 (.c1 rfl (mv rfl rfl) (.c1 rfl (ob_assign rfl (.tmp rfl)) (.ce (u 0 rfl (u 2 rfl (u 3 rfl (u 13 rfl (u 100001 rfl .nil)))))))) fun _ _ s108 => wn hK31 ?_); clear s102
  obtain ⟨g11, h68⟩ := guard_some h66; clear h66
  obtain ⟨x38, e_x38, h69⟩ := bind_some h68; clear h68; replace e_x38 := Option.some.inj e_x38
  refine wp_seq_k fun K32 hK32 => wp_region_lit (qs s108 (.c1 rfl (mv rfl rfl) (.c1 rfl (ob_nilCheck rfl (.tmp rfl)) (.c1 rfl (ob_fieldAddr (off' := 9) rfl Tryd.underlying125 rfl sz122 (by decide) (.tmp rfl) rfl) (.c1 rfl (mv rfl rfl) (.c1 rfl (ob_mul rfl (opd_int rfl) (.tmp rfl)) (.c1 rfl (mv rfl rfl) (.c1 rfl (ob_mul rfl (opd_int rfl) (.tmp rfl)) (.c1 rfl (ob_add rfl (.tmp rfl) (opd_int rfl)) (.c1 rfl (ob_sliceArr rfl Tryd.underlying122 sz5 (.tmp rfl) (.some (.tmp rfl)) (.some (.tmp rfl)) g11) (.c1 rfl ((ob_lenSl rfl Tryd.underlying31 (.tmp rfl) (sl_len g11 (by decide))).nm e_x38) (.c1 rfl (ob_move rfl (opd_int rfl)) (.ce (u 0 rfl (u 2 rfl (u 3 rfl (u 13 rfl (u 24 rfl (u 25 rfl (u 26 rfl (u 100001 rfl .nil)))))))))))))))))))) fun _ _ s120 => wn hK32 ?_); clear s108
  refine wp_block ?_
  refine wp_loop_fuel (fun m (q : Int × (List Int)) => digest_Hash_take.l5 k x38 y11 p1 (digest_Hash_take.l4 k p1 n4) m q.1 q.2) r (fun _ => rfl) (fun q a w => St ⟨164, w0, ok, (idsOf [BF b00 125 k_digest_Hash p1])⟩ [BF b00 125 k_digest_Hash p1, BF b1 132 (karr 64 (kint .u32)) q.2] [(0, (ptrB b00 0)), (2, (ptrB b1 0)), (3, ((kint .i64).V y11)), (13, ((kint .i64).V y11)), (24, (is (.slice (some ⟨b00, soff 64 9 (imul .i64 (4 : Int) y11).toNat 1, none⟩) ((iadd .i64 (imul .i64 (4 : Int) y11) (4 : Int)).toNat - (imul .i64 (4 : Int) y11).toNat) (64 - (imul .i64 (4 : Int) y11).toNat)))), (25, ((kint .i64).V x38)), (26, ((kint .i64).V q.1)), (100001, (known (.pointer (some ⟨1, 0, none⟩)) (ptrTo (karr 64 (kint .u32)) G_digest_rounds)))] a w) ?_ k ((0 : Int), y12) _ _ h69 (s120.sub (.cons rfl (.cons rfl (.cons rfl (.cons rfl (.cons rfl (.cons rfl (.cons rfl (.cons rfl .nil)))))))))
  rintro n5 ⟨y14, y15⟩ a121 w121 h70 s121 K33 hK33
  replace h70 : digest_Hash_take.l5 k x38 y11 p1 (digest_Hash_take.l4 k p1 n4) (n5 + 1) y14 y15 = some r := h70; rw [digest_Hash_take.l5] at h70
  have h71 := h70; clear h70
  refine wp_seq_k fun K34 hK34 => wp_region_lit (qs s121 (.c1 rfl (ob_lss rfl (.tmp rfl) (.tmp rfl)) (.ce (u 0 rfl (u 2 rfl (u 3 rfl (u 13 rfl (u 24 rfl (u 25 rfl (u 26 rfl (u 27 rfl (u 100001 rfl .nil))))))))))) fun _ _ s123 => wn hK34 ?_); clear s121
  refine wp_seq_k fun K35 hK35 => ?_
  refine cond_split s123 (.tmp rfl) (fun hc5 => ?_) (fun hc5 => ?_)
  ·have h72 := ite_t hc5 h71; clear h71
   refine wp_skip ?_
   refine then_normal (hK35 _ _ ?_)
   have s124 := s123.sub (u 0 rfl (u 2 rfl (u 3 rfl (u 13 rfl (u 24 rfl (u 25 rfl (u 26 rfl (u 100001 rfl .nil)))))))); clear s123
   refine wp_seq_k fun K36 hK36 => wp_block ?_
   obtain ⟨g12, h73⟩ := guard_some h72; clear h72
   obtain ⟨x39, e_x39, h74⟩ := bind_some h73; clear h73
   refine wp_seq_k fun K37 hK37 => wp_region_lit (qs s124 (.c1 rfl (ob_indexAddrSl rfl Tryd.underlying31 sz5 (.tmp rfl) (.tmp rfl) g12.1 g12.2 (soff_idx g11 g12)) (.c1 rfl (ob_load rfl tk5 (.tmp rfl) (.head _) (LG.trans (lg_digest_Hash_rest p1) (LG.arrA e_x39) (by decide))) (.c1 rfl (ob_assign rfl (.tmp rfl)) (.ce (u 0 rfl (u 2 rfl (u 3 rfl (u 5 rfl (u 13 rfl (u 24 rfl (u 25 rfl (u 26 rfl (u 100001 rfl .nil))))))))))))) fun _ _ s128 => wn hK37 ?_); clear s124
   obtain ⟨g13, h75⟩ := guard_some h74; clear h74
   obtain ⟨x40, e_x40, h76⟩ := bind_some h75; clear h75
   obtain ⟨g14, h77⟩ := guard_some h76; clear h76
   obtain ⟨x41, e_x41, h78⟩ := bind_some h77; clear h77
   refine wp_region_lit (qs s128 (.c1 rfl (mv rfl rfl) (.c1 rfl (mv rfl rfl) (.c1 rfl (ob_indexAddr rfl Tryd.underlying132 sz116 (.tmp rfl) (.tmp rfl) g13.1 g13.2 (Nat.zero_add _)) (.c1 rfl (ob_load rfl tk116 (.tmp rfl) (.tail _ (.head _)) (LG.arrA e_x40)) (.c1 rfl (ob_shl rfl (.tmp rfl) (opd_int rfl) (by decide)) (.c1 rfl (mv rfl rfl) (.c1 rfl (ob_conv rfl _ Tryd.underlying5 Tryd.underlying116 (.tmp rfl)) (.c1 rfl (ob_or rfl (.tmp rfl) (.tmp rfl)) (.c1 rfl (ob_indexAddr rfl Tryd.underlying132 sz116 (.tmp rfl) (.tmp rfl) g14.1 g14.2 (Nat.zero_add _)) .cz))))))))) fun _ _ s137 => ?_); clear s128
   refine seq_opx0 (B' := (fun _ : Unit => [BF b00 125 k_digest_Hash p1, BF b1 132 (karr 64 (kint .u32)) x41])) s137 rfl rfl (ob_store (A := [_]) rfl tk116 (.tmp rfl) (.tmp rfl) rfl (LS.arrS e_x41) rfl) fun _ a138 w138 s138 => ?_; clear s137
   refine wpList_nil ?_
   refine in_normal ?_
   refine then_normal (hK36 _ _ ?_)
   have s139 := s138.sub (u 0 rfl (u 2 rfl (u 3 rfl (u 13 rfl (u 24 rfl (u 25 rfl (u 26 rfl (u 100001 rfl .nil)))))))); clear s138
   refine wp_region_lit (qs s139 (.c1 rfl (ob_add rfl (.tmp rfl) (opd_int rfl)) (.c1 rfl (mv rfl rfl) .cz)) fun _ _ s141 => ?_); clear s139
   refine wpList_nil ?_
   refine then_normal ?_
   exact hK33 ((iadd .i64 y14 (1 : Int)), x41) _ _ h78 (s141.sub (.cons rfl (.cons rfl (.cons rfl (.cons rfl (.cons rfl (.cons rfl (.cons rfl (.cons rfl .nil)))))))))
  ·have h79 := ite_f hc5 h71; clear h71
   refine wp_exit ?_
   refine (then_exit (then_exit (in_here ?_)))
   refine in_normal ?_
   refine then_normal ?_
   exact hj5 y15 _ _ h79 (s123.sub (.cons rfl (.cons rfl (.cons rfl (.cons rfl .nil)))))
 ·have h80 := ite_f hc4 h65; clear h65
  refine wp_exit ?_
  refine (then_exit (then_exit (in_here ?_)))
  refine then_normal ?_
  exact hj1 y12 _ _ h80 (s101.sub (.cons rfl (.cons rfl (.cons rfl .nil))))
theorem c_digest_Hash_put (k : Nat) (p1 : digest_Hash) (p2 : Int) (r : digest_Hash) (h0 : digest_Hash_put k p1 p2 = some r) (ok : Ok) (w0 : World) (gl1 : (ptrTo (karr 64 (kint .u32)) G_digest_rounds).holds ok w0 (.pointer (some ⟨1, 0, none⟩))) (z0 : Value) (z1 : Value) (b00 : Nat) (l0 : ∀ q, q ∈ [BF b00 125 k_digest_Hash p1] → q.holds ok w0) (d0 : ∀ c, c ∈ idsOf [BF b00 125 k_digest_Hash p1] → ¬ ok c) (nd : (idsOf [BF b00 125 k_digest_Hash p1]).Nodup) (u0 : (ptrB b00 0).holds ok w0 z0) (u1 : ((kint .u8).V p2).holds ok w0 z1) :
 GivesX Tryd.prog 90 [z0, z1] ok w0 [BF b00 125 k_digest_Hash p1] (fun g : Unit => resFact []) (fun g : Unit => [BF b00 125 k_digest_Hash r]) := by
 unfold digest_Hash_put at h0
 refine enterX (N := 27) Tryd.func90 rfl rfl (of_decide_eq_true rfl) (.cons u0 (.cons u1 .nil)) nd l0 d0 fun a1 s1 => ?_
 have s2 := s1.keepKnown 100001 gl1 (okInX (L := [BF b00 125 k_digest_Hash p1]) d0); clear s1
 refine wp_seq_k fun K1 hK1 => ?_
 refine wp_goes (Fs := [(ptrB b00 0), (ptrB b00 0), (ptrB b00 0), (ptrB b00 73), ((kint .i64).V p1.many), ((kint .u8).V p2), (ptrB b00 0), (ptrB b00 9)]) (bits := [0, 0, 2, 6, 14, 0, 1, 65, 255, 511]) (m := 8) (todo := 0) mx s2 ?_; clear s2
 refine goes_last (by kernel_rfl) rfl (oc (av 0 rfl rfl (av 100001 rfl rfl Av.nil)) rfl rfl (mv rfl rfl) (oc (av 0 rfl rfl (av 100001 rfl rfl Av.nil)) rfl rfl (mv rfl rfl) (oc (an 1 rfl rfl rfl (av 100001 rfl rfl Av.nil)) rfl rfl (ob_nilCheck rfl (.tmp rfl)) (oc (an 2 rfl rfl rfl (av 100001 rfl rfl Av.nil)) rfl rfl (ob_fieldAddr (off' := 73) rfl Tryd.underlying125 rfl sz3 (by decide) (.tmp rfl) rfl) (oc (an 3 rfl rfl rfl (av 100001 rfl rfl Av.nil)) rfl rfl (ob_load rfl tk3 (.tmp rfl) (.head _) (lg_digest_Hash_many p1)) (oc (av 1 rfl rfl (av 100001 rfl rfl Av.nil)) rfl rfl (mv rfl rfl) (oc (an 0 rfl rfl rfl (av 100001 rfl rfl Av.nil)) rfl rfl (ob_nilCheck rfl (.tmp rfl)) (oc (an 6 rfl rfl rfl (av 100001 rfl rfl Av.nil)) rfl rfl (ob_fieldAddr (off' := 9) rfl Tryd.underlying125 rfl sz122 (by decide) (.tmp rfl) rfl) opsS_nil)))))))) (out_old (t := 0) rfl rfl (out_new (i := 4) (by decide) rfl rfl (out_new (i := 5) (by decide) rfl rfl (out_new (i := 7) (by decide) rfl rfl (out_old (t := 100001) rfl rfl out_nil))))) fun _ _ s3 => ?_
 obtain ⟨g1, h1⟩ := guard_some h0; clear h0
 obtain ⟨x1, e_x1, h2⟩ := bind_some h1; clear h1
 refine qs s3 (.c1 rfl (ob_indexAddr rfl Tryd.underlying122 sz5 (.tmp rfl) (.tmp rfl) g1.1 g1.2 rfl) .cz) fun _ _ s4 => ?_; clear s3
 refine seq_opx0 (B' := (fun _ : Unit => [BF b00 125 k_digest_Hash ({ p1 with rest := x1 })])) s4 rfl rfl (ob_store (A := []) rfl tk5 (.tmp rfl) (.tmp rfl) rfl (LS.trans (lg_digest_Hash_rest p1) (LS.arrS e_x1) (ls_digest_Hash_rest p1 x1)) rfl) fun _ a5 w5 s5 => ?_; clear s4
 refine wn hK1 ?_
 have s6 := s5.sub (u 0 rfl (u 100001 rfl .nil)); clear s5
 obtain ⟨x2, e_x2, h3⟩ := bind_some h2; clear h2; replace e_x2 := Option.some.inj e_x2
 refine wp_seq_k fun K2 hK2 => wp_region_lit (qs s6 (.c1 rfl (mv rfl rfl) (.c1 rfl (ob_nilCheck rfl (.tmp rfl)) (.c1 rfl (ob_fieldAddr (off' := 73) rfl Tryd.underlying125 rfl sz3 (by decide) (.tmp rfl) rfl) (.c1 rfl (ob_load rfl tk3 (.tmp rfl) (.head _) (lg_digest_Hash_many ({ p1 with rest := x1 }))) (.c1 rfl (ob_add rfl (.tmp rfl) (opd_int rfl)) (.c1 rfl (ob_nilCheck rfl (.tmp rfl)) (.c1 rfl (ob_fieldAddr (off' := 73) rfl Tryd.underlying125 rfl sz3 (by decide) (.tmp rfl) rfl) .cz))))))) fun _ _ s13 => ?_); clear s6
 refine seq_opx0 (B' := (fun _ : Unit => [BF b00 125 k_digest_Hash x2])) s13 rfl rfl (ob_store (A := []) rfl tk3 (.tmp rfl) (.tmp rfl) rfl (LS.to (ls_digest_Hash_many ({ p1 with rest := x1 }) (iadd .i64 (({ p1 with rest := x1 }).many) (1 : Int))) e_x2) rfl) fun _ a14 w14 s14 => ?_; clear s13
 refine wn hK2 ?_
 have s15 := s14.sub (u 0 rfl (u 100001 rfl .nil)); clear s14
 refine wp_seq_k fun K3 hK3 => wp_region_lit (qs s15 (.c1 rfl (mv rfl rfl) (.c1 rfl (ob_nilCheck rfl (.tmp rfl)) (.c1 rfl (ob_fieldAddr (off' := 73) rfl Tryd.underlying125 rfl sz3 (by decide) (.tmp rfl) rfl) (.c1 rfl (ob_load rfl tk3 (.tmp rfl) (.head _) (lg_digest_Hash_many x2)) (.c1 rfl (ob_eql rfl (.tmp rfl) (opd_int rfl)) (.ce (u 0 rfl (u 24 rfl (u 100001 rfl .nil))))))))) fun _ _ s21 => wn hK3 ?_); clear s15
 refine cond_split s21 (.tmp rfl) (fun hc1 => ?_) (fun hc1 => ?_)
 ·have h4 := ite_t hc1 h3; clear h3
  obtain ⟨x3, e_x3, h5⟩ := bind_some h4; clear h4
  refine wp_region_lit (qs s21 (.c1 rfl (mv rfl rfl) .cz) fun _ _ s22 => ?_); clear s21
  refine qx (B' := (fun _ : Unit => [BF b00 125 k_digest_Hash x3])) s22 rfl (ob_callL0 (args := [_]) (L := [_]) rfl .direct hb93 (List.Perm.refl _) (fun a w s => by exact c_digest_Hash_take k _ _ e_x3 _ _ (s.env _ _ (show get _ 100001 = _ from rfl)) _ _ (ownL s) (disL s) (nodL s) (s.arg (.tmp rfl))) (by exact fun _ => rfl)) fun _ _ _ s23 => ?_; clear s22
  refine wpList_nil ?_
  obtain rfl := Option.some.inj h5
  exact leaveXD (D := []) () s23 rfl (.inr rfl) rfl .nil rfl
 ·have h6 := ite_f hc1 h3; clear h3
  refine wp_skip ?_
  obtain rfl := Option.some.inj h6
  exact leaveXD (D := []) () s21 rfl (.inr rfl) rfl .nil rfl
theorem c_digest_Hash_Write (k : Nat) (p1 : digest_Hash) (p2 : (List (List Int))) (r : digest_Hash) (h0 : digest_Hash_Write k p1 p2 = some r) (ok : Ok) (w0 : World) (gl0 : (ptrTo (karr 8 (kint .u32)) G_digest_first).holds ok w0 (.pointer (some ⟨0, 0, none⟩))) (gl1 : (ptrTo (karr 64 (kint .u32)) G_digest_rounds).holds ok w0 (.pointer (some ⟨1, 0, none⟩))) (z0 : Value) (z1 : Value) (b00 : Nat) (l0 : ∀ q, q ∈ [BF b00 125 k_digest_Hash p1] → q.holds ok w0) (d0 : ∀ c, c ∈ idsOf [BF b00 125 k_digest_Hash p1] → ¬ ok c) (nd : (idsOf [BF b00 125 k_digest_Hash p1]).Nodup) (u0 : (ptrB b00 0).holds ok w0 z0) (u1 : ((ksl kstr).V p2).holds ok w0 z1) :
 GivesX Tryd.prog 81 [z0, z1] ok w0 [BF b00 125 k_digest_Hash p1] (fun g : Unit => resFact []) (fun g : Unit => [BF b00 125 k_digest_Hash r]) := by
 unfold digest_Hash_Write at h0
 refine enterX (N := 39) Tryd.func81 rfl rfl (of_decide_eq_true rfl) (.cons u0 (.cons u1 .nil)) nd l0 d0 fun a1 s1 => ?_
 have s2 := s1.keepKnown 100000 gl0 (okInX (L := [BF b00 125 k_digest_Hash p1]) d0); clear s1
 have s3 := s2.keepKnown 100001 gl1 (okInX (L := [BF b00 125 k_digest_Hash p1]) d0); clear s2
 refine wp_seq_k fun K1 hK1 => wp_seq_k fun K2 hK2 => ?_
 refine wp_region_lit (qs s3 (.c1 rfl (mv rfl rfl) (.c1 rfl (ob_ptrNil (p := some _) rfl pt136 (.tmp rfl) opd_is) (.ce (u 0 rfl (u 1 rfl (u 8 rfl (u 100000 rfl (u 100001 rfl .nil)))))))) fun _ _ s6 => wn hK2 ?_); clear s3
 refine cond_f s6 (.tmp rfl) ?_
 refine wp_skip ?_
 refine then_normal (hK1 _ _ ?_)
 have s7 := s6.sub (u 0 rfl (u 1 rfl (u 100000 rfl (u 100001 rfl .nil)))); clear s6
 obtain ⟨x1, e_x1, h1⟩ := bind_some h0; clear h0
 refine wp_seq_k fun K3 hK3 => wp_region_lit (qs s7 (.c1 rfl (mv rfl rfl) .cz) fun _ _ s8 => ?_); clear s7
 refine qx (B' := (fun _ : Unit => [BF b00 125 k_digest_Hash x1])) s8 rfl (ob_callL0 (args := [_]) (L := [_]) rfl .direct hb89 (List.Perm.refl _) (fun a w s => by exact c_digest_Hash_begin k _ _ e_x1 _ _ (s.env _ _ (show get _ 100000 = _ from rfl)) _ _ (ownL s) (disL s) (nodL s) (s.arg (.tmp rfl))) (by exact fun _ => rfl)) fun _ _ _ s9 => ?_; clear s8
 refine wn hK3 ?_
 have s10 := s9.sub (u 0 rfl (u 1 rfl (u 100000 rfl (u 100001 rfl .nil)))); clear s9
 refine wp_seq_k fun K4 hK4 => wp_region_lit (qs s10 (.c1 rfl (mv rfl rfl) (.c1 rfl (ob_lens rfl Tryd.underlying30 (.tmp rfl)) (.c1 rfl (ob_move rfl (opd_int rfl)) (.ce (u 0 rfl (u 11 rfl (u 12 rfl (u 13 rfl (u 100000 rfl (u 100001 rfl .nil)))))))))) fun _ _ s14 => wn hK4 ?_); clear s10
 refine wp_block ?_
 refine wp_loop_fuel (fun m (q : Int × digest_Hash) => digest_Hash_Write.l1 k p2 m q.1 q.2) r (fun _ => rfl) (fun q a w => St ⟨39, w0, ok, (idsOf [BF b00 125 k_digest_Hash p1])⟩ [BF b00 125 k_digest_Hash q.2] [(0, (ptrB b00 0)), (11, ((ksl kstr).V p2)), (12, ((kint .i64).V (p2.length : Int))), (13, ((kint .i64).V q.1)), (100000, (known (.pointer (some ⟨0, 0, none⟩)) (ptrTo (karr 8 (kint .u32)) G_digest_first))), (100001, (known (.pointer (some ⟨1, 0, none⟩)) (ptrTo (karr 64 (kint .u32)) G_digest_rounds)))] a w) ?_ k ((0 : Int), x1) _ _ h1 (s14.sub (.cons rfl (.cons rfl (.cons rfl (.cons rfl (.cons rfl (.cons rfl .nil)))))))
 rintro n1 ⟨y1, y2⟩ a15 w15 h2 s15 K5 hK5
 replace h2 : digest_Hash_Write.l1 k p2 (n1 + 1) y1 y2 = some r := h2; rw [digest_Hash_Write.l1] at h2
 have h3 := h2; clear h2
 refine wp_seq_k fun K6 hK6 => wp_region_lit (qs s15 (.c1 rfl (ob_lss rfl (.tmp rfl) (.tmp rfl)) (.ce (u 0 rfl (u 11 rfl (u 12 rfl (u 13 rfl (u 14 rfl (u 100000 rfl (u 100001 rfl .nil))))))))) fun _ _ s17 => wn hK6 ?_); clear s15
 refine wp_seq_k fun K7 hK7 => ?_
 refine cond_split s17 (.tmp rfl) (fun hc2 => ?_) (fun hc2 => ?_)
 ·have h4 := ite_t hc2 h3; clear h3
  refine wp_skip ?_
  refine then_normal (hK7 _ _ ?_)
  have s18 := s17.sub (u 0 rfl (u 11 rfl (u 12 rfl (u 13 rfl (u 100000 rfl (u 100001 rfl .nil)))))); clear s17
  refine wp_seq_k fun K8 hK8 => ?_
  have hj1 : ∀ (y3 : digest_Hash) (a : Act) (w : World), (digest_Hash_Write.j1 k y1 (digest_Hash_Write.l1 k p2 n1)) y3 = some r → St ⟨39, w0, ok, (idsOf [BF b00 125 k_digest_Hash p1])⟩ [BF b00 125 k_digest_Hash y3] [(0, (ptrB b00 0)), (11, ((ksl kstr).V p2)), (12, ((kint .i64).V (p2.length : Int))), (13, ((kint .i64).V y1)), (100000, (known (.pointer (some ⟨0, 0, none⟩)) (ptrTo (karr 8 (kint .u32)) G_digest_first))), (100001, (known (.pointer (some ⟨1, 0, none⟩)) (ptrTo (karr 64 (kint .u32)) G_digest_rounds)))] a w → K8 a w := by
   intro y3 a19 w19 h5 s19
   unfold digest_Hash_Write.j1 at h5
   refine hK8 _ _ ?_
   refine wp_region_lit (qs s19 (.c1 rfl (ob_add rfl (.tmp rfl) (opd_int rfl)) (.c1 rfl (mv rfl rfl) .cz)) fun _ _ s21 => ?_); clear s19
   refine wpList_nil ?_
   refine then_normal ?_
   exact hK5 ((iadd .i64 y1 (1 : Int)), y3) _ _ h5 (s21.sub (.cons rfl (.cons rfl (.cons rfl (.cons rfl (.cons rfl (.cons rfl .nil)))))))
  refine wp_block ?_
  obtain ⟨x2, e_x2, h6⟩ := bind_some h4; clear h4
  refine wp_seq_k fun K9 hK9 => wp_region_lit (qs s18 (.c1 rfl (ob_indexAddrs rfl Tryd.underlying30 sz9 (.tmp rfl) (.tmp rfl) e_x2) (.c1 rfl (ob_loadr rfl tk9 (.tmp rfl)) (.c1 rfl (ob_assign rfl (.tmp rfl)) (.ce (u 0 rfl (u 5 rfl (u 11 rfl (u 12 rfl (u 13 rfl (u 100000 rfl (u 100001 rfl .nil))))))))))) fun _ _ s25 => wn hK9 ?_); clear s18
  refine wp_seq_k fun K10 hK10 => wp_seq_k fun K11 hK11 => ?_
  refine wp_region_lit (qs s25 (.c1 rfl (mv rfl rfl) (.c1 rfl (ob_lenStr rfl Tryd.underlying9 (.tmp rfl)) (.c1 rfl (ob_move rfl (opd_int rfl)) (.ce (u 0 rfl (u 5 rfl (u 11 rfl (u 12 rfl (u 13 rfl (u 18 rfl (u 19 rfl (u 100000 rfl (u 100001 rfl .nil))))))))))))) fun _ _ s29 => wn hK11 ?_); clear s25
  have hj2 : ∀ (y4 : digest_Hash) (a : Act) (w : World), (digest_Hash_Write.j2 k x2 y1 (digest_Hash_Write.l1 k p2 n1)) y4 = some r → St ⟨39, w0, ok, (idsOf [BF b00 125 k_digest_Hash p1])⟩ [BF b00 125 k_digest_Hash y4] [(0, (ptrB b00 0)), (5, (kstr.V x2)), (11, ((ksl kstr).V p2)), (12, ((kint .i64).V (p2.length : Int))), (13, ((kint .i64).V y1)), (100000, (known (.pointer (some ⟨0, 0, none⟩)) (ptrTo (karr 8 (kint .u32)) G_digest_first))), (100001, (known (.pointer (some ⟨1, 0, none⟩)) (ptrTo (karr 64 (kint .u32)) G_digest_rounds)))] a w → K10 a w := by
   intro y4 a30 w30 h7 s30
   unfold digest_Hash_Write.j2 at h7
   refine hK10 _ _ ?_
   obtain ⟨x3, e_x3, h8⟩ := bind_some h7; clear h7; replace e_x3 := Option.some.inj e_x3
   refine wp_region_lit (qs s30 (.c1 rfl (mv rfl rfl) (.c1 rfl (ob_nilCheck rfl (.tmp rfl)) (.c1 rfl (ob_fieldAddr (off' := 74) rfl Tryd.underlying125 rfl sz123 (by decide) (.tmp rfl) rfl) (.c1 rfl (ob_load rfl tk123 (.tmp rfl) (.head _) (lg_digest_Hash_taken y4)) (.c1 rfl (mv rfl rfl) (.c1 rfl (ob_lenStr rfl Tryd.underlying9 (.tmp rfl)) (.c1 rfl (ob_conv rfl _ Tryd.underlying3 Tryd.underlying123 (.tmp rfl)) (.c1 rfl (ob_add rfl (.tmp rfl) (.tmp rfl)) (.c1 rfl (ob_nilCheck rfl (.tmp rfl)) (.c1 rfl (ob_fieldAddr (off' := 74) rfl Tryd.underlying125 rfl sz123 (by decide) (.tmp rfl) rfl) .cz)))))))))) fun _ _ s40 => ?_); clear s30
   refine seq_opx0 (B' := (fun _ : Unit => [BF b00 125 k_digest_Hash x3])) s40 rfl rfl (ob_store (A := []) rfl tk123 (.tmp rfl) (.tmp rfl) rfl (LS.to (ls_digest_Hash_taken y4 (iadd .u64 y4.taken (IntKind.wrap .u64 (x2.length : Int)))) e_x3) rfl) fun _ a41 w41 s41 => ?_; clear s40
   refine wpList_nil ?_
   refine in_normal ?_
   refine then_normal ?_
   exact hj1 x3 _ _ h8 (s41.sub (.cons rfl (.cons rfl (.cons rfl (.cons rfl (.cons rfl (.cons rfl .nil)))))))
  refine wp_block ?_
  refine wp_loop_fuel (fun m (q : Int × digest_Hash) => digest_Hash_Write.l2 k x2 y1 (digest_Hash_Write.l1 k p2 n1) m q.1 q.2) r (fun _ => rfl) (fun q a w => St ⟨39, w0, ok, (idsOf [BF b00 125 k_digest_Hash p1])⟩ [BF b00 125 k_digest_Hash q.2] [(0, (ptrB b00 0)), (5, (kstr.V x2)), (11, ((ksl kstr).V p2)), (12, ((kint .i64).V (p2.length : Int))), (13, ((kint .i64).V y1)), (18, ((kint .i64).V (x2.length : Int))), (19, ((kint .i64).V q.1)), (100000, (known (.pointer (some ⟨0, 0, none⟩)) (ptrTo (karr 8 (kint .u32)) G_digest_first))), (100001, (known (.pointer (some ⟨1, 0, none⟩)) (ptrTo (karr 64 (kint .u32)) G_digest_rounds)))] a w) ?_ k ((0 : Int), y2) _ _ h6 (s29.sub (.cons rfl (.cons rfl (.cons rfl (.cons rfl (.cons rfl (.cons rfl (.cons rfl (.cons rfl (.cons rfl .nil))))))))))
  rintro n2 ⟨y5, y6⟩ a42 w42 h9 s42 K12 hK12
  replace h9 : digest_Hash_Write.l2 k x2 y1 (digest_Hash_Write.l1 k p2 n1) (n2 + 1) y5 y6 = some r := h9; rw [digest_Hash_Write.l2] at h9
  have h10 := h9; clear h9
  refine wp_seq_k fun K13 hK13 => wp_region_lit (qs s42 (.c1 rfl (ob_lss rfl (.tmp rfl) (.tmp rfl)) (.ce (u 0 rfl (u 5 rfl (u 11 rfl (u 12 rfl (u 13 rfl (u 18 rfl (u 19 rfl (u 20 rfl (u 100000 rfl (u 100001 rfl .nil)))))))))))) fun _ _ s44 => wn hK13 ?_); clear s42
  refine wp_seq_k fun K14 hK14 => ?_
  refine cond_split s44 (.tmp rfl) (fun hc3 => ?_) (fun hc3 => ?_)
  ·have h11 := ite_t hc3 h10; clear h10
   refine wp_skip ?_
   refine then_normal (hK14 _ _ ?_)
   have s45 := s44.sub (u 0 rfl (u 5 rfl (u 11 rfl (u 12 rfl (u 13 rfl (u 18 rfl (u 19 rfl (u 100000 rfl (u 100001 rfl .nil))))))))); clear s44
   refine wp_seq_k fun K15 hK15 => wp_block ?_
   refine wp_seq_k fun K16 hK16 => wp_region_lit (qs s45 (.c1 rfl (mv rfl rfl) (.c1 rfl (ob_assign rfl (.tmp rfl)) (.ce (u 0 rfl (u 5 rfl (u 6 rfl (u 11 rfl (u 12 rfl (u 13 rfl (u 18 rfl (u 19 rfl (u 100000 rfl (u 100001 rfl .nil))))))))))))) fun _ _ s48 => wn hK16 ?_); clear s45
   obtain ⟨x4, e_x4, h12⟩ := bind_some h11; clear h11
   obtain ⟨x5, e_x5, h13⟩ := bind_some h12; clear h12
   refine wp_region_lit (qs s48 (.c1 rfl (mv rfl rfl) (.c1 rfl (mv rfl rfl) (.c1 rfl (mv rfl rfl) (.c1 rfl (ob_indexStr rfl Tryd.underlying9 (.tmp rfl) (.tmp rfl) e_x4) .cz)))) fun _ _ s52 => ?_); clear s48
   refine qx (B' := (fun _ : Unit => [BF b00 125 k_digest_Hash x5])) s52 rfl (ob_callL0 (args := [_, _]) (L := [_]) rfl .direct hb90 (List.Perm.refl _) (fun a w s => by exact c_digest_Hash_put k _ _ _ e_x5 _ _ (s.env _ _ (show get _ 100001 = _ from rfl)) _ _ _ (ownL s) (disL s) (nodL s) (s.arg (.tmp rfl)) (s.arg (.tmp rfl))) (by exact fun _ => rfl)) fun _ _ _ s53 => ?_; clear s52
   refine wpList_nil ?_
   refine in_normal ?_
   refine then_normal (hK15 _ _ ?_)
   have s54 := s53.sub (u 0 rfl (u 5 rfl (u 11 rfl (u 12 rfl (u 13 rfl (u 18 rfl (u 19 rfl (u 100000 rfl (u 100001 rfl .nil))))))))); clear s53
   refine wp_region_lit (qs s54 (.c1 rfl (ob_add rfl (.tmp rfl) (opd_int rfl)) (.c1 rfl (mv rfl rfl) .cz)) fun _ _ s56 => ?_); clear s54
   refine wpList_nil ?_
   refine then_normal ?_
   exact hK12 ((iadd .i64 y5 (1 : Int)), x5) _ _ h13 (s56.sub (.cons rfl (.cons rfl (.cons rfl (.cons rfl (.cons rfl (.cons rfl (.cons rfl (.cons rfl (.cons rfl .nil))))))))))
  ·have h14 := ite_f hc3 h10; clear h10
   refine wp_exit ?_
   refine (then_exit (then_exit (in_here ?_)))
   refine then_normal ?_
   exact hj2 y6 _ _ h14 (s44.sub (.cons rfl (.cons rfl (.cons rfl (.cons rfl (.cons rfl (.cons rfl (.cons rfl .nil))))))))
 ·have h15 := ite_f hc2 h3; clear h3
  refine wp_exit ?_
  refine (then_exit (then_exit (in_here ?_)))
  obtain rfl := Option.some.inj h15
  exact leaveXD (D := []) () s17 rfl (.inr rfl) rfl .nil rfl
theorem c_digest_Hash_Sum (k : Nat) (p1 : digest_Hash) (r : (List Int)) (h0 : digest_Hash_Sum k p1 = some r) (ok : Ok) (w0 : World) (gl0 : (ptrTo (karr 8 (kint .u32)) G_digest_first).holds ok w0 (.pointer (some ⟨0, 0, none⟩))) (gl1 : (ptrTo (karr 64 (kint .u32)) G_digest_rounds).holds ok w0 (.pointer (some ⟨1, 0, none⟩))) (z0 : Value) (u0 : (ptrTo k_digest_Hash p1).holds ok w0 z0) :
 Gives Tryd.prog 82 [z0] ok w0 (resFact [(karr 32 (kint .u8)).V r]) := by
 unfold digest_Hash_Sum at h0
 refine enter (N := 64) Tryd.func82 rfl rfl (of_decide_eq_true rfl) (.cons u0 .nil) fun a1 s1 => ?_
 have s2 := s1.keepKnown 100000 gl0 okIn; clear s1
 have s3 := s2.keepKnown 100001 gl1 okIn; clear s2
 refine wp_seq_k fun K1 hK1 => wp_region_lit ?_
 refine qx (B' := (fun b1 : Nat => [BF b1 88 (karr 32 (kint .u8)) (List.replicate 32 (0 : Int))])) s3 rfl (ob_new (k := (karr 32 (kint .u8))) rfl zz88 (Zr.arr 32 (Zr.int .u8))) fun b1 _ _ s4 => ?_; clear s3
 refine wn hK1 ?_
 have s5 := s4.sub (u 0 rfl (u 2 rfl (u 100000 rfl (u 100001 rfl .nil)))); clear s4
 refine wp_seq_k fun K2 hK2 => wp_region_lit ?_
 refine qx (B' := (fun b2 : Nat => [BF b2 125 k_digest_Hash (⟨false, (List.replicate 8 (0 : Int)), (List.replicate 64 (0 : Int)), (0 : Int), (0 : Int)⟩ : digest_Hash), BF b1 88 (karr 32 (kint .u8)) (List.replicate 32 (0 : Int))])) s5 rfl (ob_new (k := k_digest_Hash) rfl zz125 (Zr.iso (f := t_digest_Hash) (x := (⟨false, (List.replicate 8 (0 : Int)), (List.replicate 64 (0 : Int)), (0 : Int), (0 : Int)⟩ : digest_Hash)) (Zr.pair Zr.bool (Zr.pair (Zr.arr 8 (Zr.int .u32)) (Zr.pair (Zr.arr 64 (Zr.int .u8)) (Zr.pair (Zr.int .i64) (Zr.pair (Zr.int .u64) Zr.nil))))))) fun b2 _ _ s6 => ?_; clear s5
 refine wn hK2 ?_
 have s7 := s6.sub (u 0 rfl (u 2 rfl (u 3 rfl (u 100000 rfl (u 100001 rfl .nil))))); clear s6
 refine wp_seq_k fun K3 hK3 => wp_seq_k fun K4 hK4 => ?_
 refine wp_region_lit (qs s7 (.c1 rfl (mv rfl rfl) (.c1 rfl (ob_ptrrNotNil rfl pt136 (.tmp rfl) opd_is) (.ce (u 0 rfl (u 2 rfl (u 3 rfl (u 9 rfl (u 100000 rfl (u 100001 rfl .nil))))))))) fun _ _ s10 => wn hK4 ?_); clear s7
 refine cond_t s10 (.tmp rfl) ?_
 refine wp_region_lit (qs s10 (.c1 rfl (mv rfl rfl) (.c1 rfl (ob_nilCheckr rfl (.tmp rfl)) (.c1 rfl (ob_loadr rfl tk125 (.tmp rfl)) .cz))) fun _ _ s13 => ?_); clear s10
 refine seq_opx0 (B' := (fun _ : Unit => [BF b2 125 k_digest_Hash p1, BF b1 88 (karr 32 (kint .u8)) (List.replicate 32 (0 : Int))])) s13 rfl rfl (ob_store (A := []) rfl tk125 (.tmp rfl) (.tmp rfl) rfl (LS.refl _ _ _) rfl) fun _ a14 w14 s14 => ?_; clear s13
 refine wn hK3 ?_
 have s15 := s14.sub (u 2 rfl (u 3 rfl (u 100000 rfl (u 100001 rfl .nil)))); clear s14
 refine wp_seq_k fun K5 hK5 => wp_region_lit ?_
 obtain ⟨x1, e_x1, h1⟩ := bind_some h0; clear h0
 refine qx (B' := (fun _ : Unit => [BF b2 125 k_digest_Hash x1, BF b1 88 (karr 32 (kint .u8)) (List.replicate 32 (0 : Int))])) s15 rfl (ob_callL0 (args := [_]) (L := [_]) rfl .direct hb89 (List.Perm.refl _) (fun a w s => by exact c_digest_Hash_begin k _ _ e_x1 _ _ (s.env _ _ (show get _ 100000 = _ from rfl)) _ _ (ownL s) (disL s) (nodL s) (s.arg (.tmp rfl))) (by exact fun _ => rfl)) fun _ _ _ s16 => ?_; clear s15
 refine wn hK5 ?_
 have s17 := s16.sub (u 2 rfl (u 3 rfl (u 100000 rfl (u 100001 rfl .nil)))); clear s16
 refine wp_seq_k fun K6 hK6 => wp_region_lit ?_
 obtain ⟨x2, e_x2, h2⟩ := bind_some h1; clear h1
 refine qx (B' := (fun _ : Unit => [BF b2 125 k_digest_Hash x2, BF b1 88 (karr 32 (kint .u8)) (List.replicate 32 (0 : Int))])) s17 rfl (ob_callL0 (args := [_, _]) (L := [_]) rfl .direct hb90 (List.Perm.refl _) (fun a w s => by exact c_digest_Hash_put k _ _ _ e_x2 _ _ (s.env _ _ (show get _ 100001 = _ from rfl)) _ _ _ (ownL s) (disL s) (nodL s) (s.arg (.tmp rfl)) (s.arg (opd_int rfl))) (by exact fun _ => rfl)) fun _ _ _ s18 => ?_; clear s17
 refine wn hK6 ?_
 have s19 := s18.sub (u 2 rfl (u 3 rfl (u 100000 rfl (u 100001 rfl .nil)))); clear s18
 refine wp_seq_k fun K7 hK7 => ?_
 have hj1 : ∀ (y1 : digest_Hash) (a : Act) (w : World), (digest_Hash_Sum.j1 k) y1 = some r → St ⟨64, w0, ok, []⟩ [BF b1 88 (karr 32 (kint .u8)) (List.replicate 32 (0 : Int)), BF b2 125 k_digest_Hash y1] [(2, (ptrB b1 0)), (3, (ptrB b2 0)), (100000, (known (.pointer (some ⟨0, 0, none⟩)) (ptrTo (karr 8 (kint .u32)) G_digest_first))), (100001, (known (.pointer (some ⟨1, 0, none⟩)) (ptrTo (karr 64 (kint .u32)) G_digest_rounds)))] a w → K7 a w := by
  intro y1 a20 w20 h3 s20
  unfold digest_Hash_Sum.j1 at h3
  refine hK7 _ _ ?_
  refine wp_seq_k fun K8 hK8 => wp_seq_k fun K9 hK9 => ?_
  refine wp_region_lit (qs s20 (.c1 rfl (ob_assign rfl (opd_int rfl)) (.ce (u 2 rfl (u 3 rfl (u 4 rfl (u 100000 rfl (u 100001 rfl .nil))))))) fun _ _ s22 => wn hK9 ?_); clear s20
  have hj2 : ∀ (y2 : digest_Hash) (a : Act) (w : World), (digest_Hash_Sum.j2 k) y2 = some r → St ⟨64, w0, ok, []⟩ [BF b1 88 (karr 32 (kint .u8)) (List.replicate 32 (0 : Int)), BF b2 125 k_digest_Hash y2] [(2, (ptrB b1 0)), (3, (ptrB b2 0)), (100000, (known (.pointer (some ⟨0, 0, none⟩)) (ptrTo (karr 8 (kint .u32)) G_digest_first))), (100001, (known (.pointer (some ⟨1, 0, none⟩)) (ptrTo (karr 64 (kint .u32)) G_digest_rounds)))] a w → K8 a w := by
   intro y2 a23 w23 h4 s23
   unfold digest_Hash_Sum.j2 at h4
   refine hK8 _ _ ?_
   refine wp_seq_k fun K10 hK10 => wp_region_lit ?_
   refine qx (B' := (fun b3 : Nat => [BF b3 88 (karr 32 (kint .u8)) (List.replicate 32 (0 : Int)), BF b1 88 (karr 32 (kint .u8)) (List.replicate 32 (0 : Int)), BF b2 125 k_digest_Hash y2])) s23 rfl (ob_new (k := (karr 32 (kint .u8))) rfl zz88 (Zr.arr 32 (Zr.int .u8))) fun b3 _ _ s24 => ?_; clear s23
   refine wn hK10 ?_
   have s25 := s24.sub (u 2 rfl (u 3 rfl (u 5 rfl (u 100000 rfl (u 100001 rfl .nil))))); clear s24
   refine wp_seq_k fun K11 hK11 => wp_seq_k fun K12 hK12 => ?_
   refine wp_region_lit (qs s25 (.c1 rfl (ob_fieldAddr (off' := 1) rfl Tryd.underlying125 rfl sz119 (by decide) (.tmp rfl) rfl) (.c1 rfl (ob_load rfl tk119 (.tmp rfl) (.tail _ (.tail _ (.head _))) (lg_digest_Hash_state y2)) (.c1 rfl (ob_move rfl (opd_int rfl)) (.ce (u 2 rfl (u 5 rfl (u 31 rfl (u 32 rfl (u 100000 rfl (u 100001 rfl .nil)))))))))) fun _ _ s29 => wn hK12 ?_); clear s25
   have s30 := St.drop (A := [_, _]) s29; clear s29
   have hj3 : ∀ (y3 : (List Int)) (a : Act) (w : World), (digest_Hash_Sum.j3 k) y3 = some r → St ⟨64, w0, ok, []⟩ [BF b1 88 (karr 32 (kint .u8)) (List.replicate 32 (0 : Int)), BF b3 88 (karr 32 (kint .u8)) y3] [(2, (ptrB b1 0)), (5, (ptrB b3 0)), (100000, (known (.pointer (some ⟨0, 0, none⟩)) (ptrTo (karr 8 (kint .u32)) G_digest_first))), (100001, (known (.pointer (some ⟨1, 0, none⟩)) (ptrTo (karr 64 (kint .u32)) G_digest_rounds)))] a w → K11 a w := by
    intro y3 a31 w31 h5 s31
    unfold digest_Hash_Sum.j3 at h5
    refine hK11 _ _ ?_
    refine wp_seq_k fun K13 hK13 => wp_region_lit (qs s31 (.c1 rfl (ob_load rfl tk88 (.tmp rfl) (.tail _ (.head _)) (LG.refl _ _)) .cz) fun _ _ s32 => ?_); clear s31
    refine seq_opx0 (B' := (fun _ : Unit => [BF b1 88 (karr 32 (kint .u8)) y3, BF b3 88 (karr 32 (kint .u8)) y3])) s32 rfl rfl (ob_store (A := []) rfl tk88 (.tmp rfl) (.tmp rfl) rfl (LS.refl _ _ _) rfl) fun _ a33 w33 s33 => ?_; clear s32
    refine wn hK13 ?_
    have s34 := s33.sub (u 2 rfl (u 100000 rfl (u 100001 rfl .nil))); clear s33
    have s35 := St.drop (A := [_]) s34; clear s34
    refine wp_ret ?_
    obtain rfl := Option.some.inj h5
    exact leave s35 (.inl rfl) rfl (.cons (.cell rfl tk88 (.head _) (LG.refl _ _)) .nil)
   refine wp_block ?_
   have s36 := s30.perm (toFront [_] (toFront [] (List.Perm.refl _))); clear s30
   refine wp_loop_fuel (fun m (q : Int × (List Int)) => digest_Hash_Sum.l1 k y2 m q.1 q.2) r (fun _ => rfl) (fun q a w => St ⟨64, w0, ok, []⟩ [BF b1 88 (karr 32 (kint .u8)) (List.replicate 32 (0 : Int)), BF b3 88 (karr 32 (kint .u8)) q.2] [(2, (ptrB b1 0)), (5, (ptrB b3 0)), (31, ((karr 8 (kint .u32)).V y2.state)), (32, ((kint .i64).V q.1)), (100000, (known (.pointer (some ⟨0, 0, none⟩)) (ptrTo (karr 8 (kint .u32)) G_digest_first))), (100001, (known (.pointer (some ⟨1, 0, none⟩)) (ptrTo (karr 64 (kint .u32)) G_digest_rounds)))] a w) ?_ k ((0 : Int), (List.replicate 32 (0 : Int))) _ _ h4 (s36.sub (.cons rfl (.cons rfl (.cons rfl (.cons rfl (.cons rfl (.cons rfl .nil)))))))
   rintro n1 ⟨y4, y5⟩ a37 w37 h6 s37 K14 hK14
   replace h6 : digest_Hash_Sum.l1 k y2 (n1 + 1) y4 y5 = some r := h6; rw [digest_Hash_Sum.l1] at h6
   have h7 := h6; clear h6
   refine wp_seq_k fun K15 hK15 => wp_region_lit (qs s37 (.c1 rfl (ob_lss rfl (.tmp rfl) (opd_int rfl)) (.ce (u 2 rfl (u 5 rfl (u 31 rfl (u 32 rfl (u 33 rfl (u 100000 rfl (u 100001 rfl .nil))))))))) fun _ _ s39 => wn hK15 ?_); clear s37
   refine wp_seq_k fun K16 hK16 => ?_
   refine cond_split s39 (.tmp rfl) (fun hc2 => ?_) (fun hc2 => ?_)
   ·have h8 := ite_t hc2 h7; clear h7
    refine wp_skip ?_
    refine then_normal (hK16 _ _ ?_)
    have s40 := s39.sub (u 2 rfl (u 5 rfl (u 31 rfl (u 32 rfl (u 100000 rfl (u 100001 rfl .nil)))))); clear s39
    refine wp_seq_k fun K17 hK17 => wp_block ?_
    obtain ⟨x3, e_x3, h9⟩ := bind_some h8; clear h8
    obtain ⟨g1, h10⟩ := guard_some h9; clear h9
    refine wp_seq_k fun K18 hK18 => wp_region_lit (qs s40 (.c1 rfl (mv rfl rfl) (.c1 rfl (ob_index rfl Tryd.underlying119 tk116 (.tmp rfl) (.tmp rfl) g1 e_x3) (.c1 rfl (ob_assign rfl (.tmp rfl)) (.c1 rfl (ob_assign rfl (.tmp rfl)) (.ce (u 2 rfl (u 5 rfl (u 6 rfl (u 7 rfl (u 31 rfl (u 32 rfl (u 100000 rfl (u 100001 rfl .nil))))))))))))) fun _ _ s45 => wn hK18 ?_); clear s40
    obtain ⟨g2, h11⟩ := guard_some h10; clear h10
    obtain ⟨x4, e_x4, h12⟩ := bind_some h11; clear h11
    refine wp_region_lit (qs s45 (.c1 rfl (mv rfl rfl) (.c1 rfl (ob_mul rfl (opd_int rfl) (.tmp rfl)) (.c1 rfl (mv rfl rfl) (.c1 rfl (ob_mul rfl (opd_int rfl) (.tmp rfl)) (.c1 rfl (ob_add rfl (.tmp rfl) (opd_int rfl)) (.c1 rfl (mv rfl rfl) (.c1 rfl (ob_mul rfl (opd_int rfl) (.tmp rfl)) (.c1 rfl (ob_add rfl (.tmp rfl) (opd_int rfl)) (.c1 rfl (mv rfl rfl) (.c1 rfl (ob_mul rfl (opd_int rfl) (.tmp rfl)) (.c1 rfl (ob_add rfl (.tmp rfl) (opd_int rfl)) (.c1 rfl (mv rfl rfl) (.c1 rfl (ob_shr rfl (.tmp rfl) (opd_int rfl) (by decide)) (.c1 rfl (ob_conv rfl _ Tryd.underlying116 Tryd.underlying5 (.tmp rfl)) (.c1 rfl (mv rfl rfl) (.c1 rfl (ob_shr rfl (.tmp rfl) (opd_int rfl) (by decide)) (.c1 rfl (ob_conv rfl _ Tryd.underlying116 Tryd.underlying5 (.tmp rfl)) (.c1 rfl (mv rfl rfl) (.c1 rfl (ob_shr rfl (.tmp rfl) (opd_int rfl) (by decide)) (.c1 rfl (ob_conv rfl _ Tryd.underlying116 Tryd.underlying5 (.tmp rfl)) (.c1 rfl (mv rfl rfl) (.c1 rfl (ob_conv rfl _ Tryd.underlying116 Tryd.underlying5 (.tmp rfl)) (.c1 rfl (ob_indexAddr rfl Tryd.underlying88 sz5 (.tmp rfl) (.tmp rfl) g2.1 g2.2 (Nat.zero_add _)) .cz))))))))))))))))))))))) fun _ _ s68 => ?_); clear s45
    refine seq_opx0 (B' := (fun _ : Unit => [BF b1 88 (karr 32 (kint .u8)) (List.replicate 32 (0 : Int)), BF b3 88 (karr 32 (kint .u8)) x4])) s68 rfl rfl (ob_store (A := [_]) rfl tk5 (.tmp rfl) (.tmp rfl) rfl (LS.arrS e_x4) rfl) fun _ a69 w69 s69 => ?_; clear s68
    obtain ⟨g3, h13⟩ := guard_some h12; clear h12
    obtain ⟨x5, e_x5, h14⟩ := bind_some h13; clear h13
    refine qs s69 (.c1 rfl (ob_indexAddr rfl Tryd.underlying88 sz5 (.tmp rfl) (.tmp rfl) g3.1 g3.2 (Nat.zero_add _)) .cz) fun _ _ s70 => ?_; clear s69
    refine seq_opx0 (B' := (fun _ : Unit => [BF b1 88 (karr 32 (kint .u8)) (List.replicate 32 (0 : Int)), BF b3 88 (karr 32 (kint .u8)) x5])) s70 rfl rfl (ob_store (A := [_]) rfl tk5 (.tmp rfl) (.tmp rfl) rfl (LS.arrS e_x5) rfl) fun _ a71 w71 s71 => ?_; clear s70
    obtain ⟨g4, h15⟩ := guard_some h14; clear h14
    obtain ⟨x6, e_x6, h16⟩ := bind_some h15; clear h15
    refine qs s71 (.c1 rfl (ob_indexAddr rfl Tryd.underlying88 sz5 (.tmp rfl) (.tmp rfl) g4.1 g4.2 (Nat.zero_add _)) .cz) fun _ _ s72 => ?_; clear s71
    refine seq_opx0 (B' := (fun _ : Unit => [BF b1 88 (karr 32 (kint .u8)) (List.replicate 32 (0 : Int)), BF b3 88 (karr 32 (kint .u8)) x6])) s72 rfl rfl (ob_store (A := [_]) rfl tk5 (.tmp rfl) (.tmp rfl) rfl (LS.arrS e_x6) rfl) fun _ a73 w73 s73 => ?_; clear s72
    obtain ⟨g5, h17⟩ := guard_some h16; clear h16
    obtain ⟨x7, e_x7, h18⟩ := bind_some h17; clear h17
    refine qs s73 (.c1 rfl (ob_indexAddr rfl Tryd.underlying88 sz5 (.tmp rfl) (.tmp rfl) g5.1 g5.2 (Nat.zero_add _)) .cz) fun _ _ s74 => ?_; clear s73
    refine seq_opx0 (B' := (fun _ : Unit => [BF b1 88 (karr 32 (kint .u8)) (List.replicate 32 (0 : Int)), BF b3 88 (karr 32 (kint .u8)) x7])) s74 rfl rfl (ob_store (A := [_]) rfl tk5 (.tmp rfl) (.tmp rfl) rfl (LS.arrS e_x7) rfl) fun _ a75 w75 s75 => ?_; clear s74
    refine wpList_nil ?_
    refine in_normal ?_
    refine then_normal (hK17 _ _ ?_)
    have s76 := s75.sub (u 2 rfl (u 5 rfl (u 31 rfl (u 32 rfl (u 100000 rfl (u 100001 rfl .nil)))))); clear s75
    refine wp_region_lit (qs s76 (.c1 rfl (ob_add rfl (.tmp rfl) (opd_int rfl)) (.c1 rfl (mv rfl rfl) .cz)) fun _ _ s78 => ?_); clear s76
    refine wpList_nil ?_
    refine then_normal ?_
    exact hK14 ((iadd .i64 y4 (1 : Int)), x7) _ _ h18 (s78.sub (.cons rfl (.cons rfl (.cons rfl (.cons rfl (.cons rfl (.cons rfl .nil)))))))
   ·have h19 := ite_f hc2 h7; clear h7
    refine wp_exit ?_
    refine (then_exit (then_exit (in_here ?_)))
    refine then_normal ?_
    exact hj3 y5 _ _ h19 (s39.sub (.cons rfl (.cons rfl (.cons rfl (.cons rfl .nil)))))
  refine wp_block ?_
  refine wp_loop_fuel (fun m (q : Int × digest_Hash) => digest_Hash_Sum.l2 k m q.1 q.2) r (fun _ => rfl) (fun q a w => St ⟨64, w0, ok, []⟩ [BF b1 88 (karr 32 (kint .u8)) (List.replicate 32 (0 : Int)), BF b2 125 k_digest_Hash q.2] [(2, (ptrB b1 0)), (3, (ptrB b2 0)), (4, ((kint .i64).V q.1)), (100000, (known (.pointer (some ⟨0, 0, none⟩)) (ptrTo (karr 8 (kint .u32)) G_digest_first))), (100001, (known (.pointer (some ⟨1, 0, none⟩)) (ptrTo (karr 64 (kint .u32)) G_digest_rounds)))] a w) ?_ k ((56 : Int), y1) _ _ h3 (s22.sub (.cons rfl (.cons rfl (.cons rfl (.cons rfl (.cons rfl .nil))))))
  rintro n2 ⟨y6, y7⟩ a79 w79 h20 s79 K19 hK19
  replace h20 : digest_Hash_Sum.l2 k (n2 + 1) y6 y7 = some r := h20; rw [digest_Hash_Sum.l2] at h20
  have h21 := h20; clear h20
  refine wp_seq_k fun K20 hK20 => wp_seq_k fun K21 hK21 => ?_
  refine wp_region_lit (qs s79 (.c1 rfl (mv rfl rfl) (.c1 rfl (ob_geq rfl (.tmp rfl) (opd_int rfl)) (.ce (u 2 rfl (u 3 rfl (u 4 rfl (u 20 rfl (u 100000 rfl (u 100001 rfl .nil))))))))) fun _ _ s82 => wn hK21 ?_); clear s79
  refine cond_split s82 (.tmp rfl) (fun hc3 => ?_) (fun hc3 => ?_)
  ·have h22 := ite_t hc3 h21; clear h21
   refine wp_skip ?_
   refine then_normal (hK20 _ _ ?_)
   have s83 := s82.sub (u 2 rfl (u 3 rfl (u 4 rfl (u 100000 rfl (u 100001 rfl .nil))))); clear s82
   refine wp_seq_k fun K22 hK22 => wp_block ?_
   obtain ⟨g6, h23⟩ := guard_some h22; clear h22
   obtain ⟨x8, e_x8, h24⟩ := bind_some h23; clear h23
   refine wp_region_lit (qs s83 (.c1 rfl (ob_fieldAddr (off' := 74) rfl Tryd.underlying125 rfl sz123 (by decide) (.tmp rfl) rfl) (.c1 rfl (ob_load rfl tk123 (.tmp rfl) (.tail _ (.head _)) (lg_digest_Hash_taken y7)) (.c1 rfl (ob_mul rfl (opd_int rfl) (.tmp rfl)) (.c1 rfl (mv rfl rfl) (.c1 rfl (ob_shr rfl (.tmp rfl) (.tmp rfl) g6) (.c1 rfl (ob_conv rfl _ Tryd.underlying123 Tryd.underlying5 (.tmp rfl)) .cz)))))) fun _ _ s89 => ?_); clear s83
   refine qx (B' := (fun _ : Unit => [BF b2 125 k_digest_Hash x8, BF b1 88 (karr 32 (kint .u8)) (List.replicate 32 (0 : Int))])) s89 rfl (ob_callL0 (args := [_, _]) (L := [_]) rfl .direct hb90 (toFront [_] (List.Perm.refl _)) (fun a w s => by exact c_digest_Hash_put k _ _ _ e_x8 _ _ (s.env _ _ (show get _ 100001 = _ from rfl)) _ _ _ (ownL s) (disL s) (nodL s) (s.arg (.tmp rfl)) (s.arg (.tmp rfl))) (by exact fun _ => rfl)) fun _ _ _ s90 => ?_; clear s89
   refine wpList_nil ?_
   refine in_normal ?_
   refine then_normal (hK22 _ _ ?_)
   have s91 := s90.sub (u 2 rfl (u 3 rfl (u 4 rfl (u 100000 rfl (u 100001 rfl .nil))))); clear s90
   refine wp_region_lit (qs s91 (.c1 rfl (mv rfl rfl) (.c1 rfl (ob_sub rfl (.tmp rfl) (opd_int rfl)) (.c1 rfl (ob_assign rfl (.tmp rfl)) .cz))) fun _ _ s94 => ?_); clear s91
   refine wpList_nil ?_
   refine then_normal ?_
   have s95 := s94.perm (toFront [_] (toFront [] (List.Perm.refl _))); clear s94
   exact hK19 ((isub .i64 y6 (8 : Int)), x8) _ _ h24 (s95.sub (.cons rfl (.cons rfl (.cons rfl (.cons rfl (.cons rfl .nil))))))
  ·have h25 := ite_f hc3 h21; clear h21
   refine wp_exit ?_
   refine (then_exit (then_exit (in_here ?_)))
   refine then_normal ?_
   exact hj2 y7 _ _ h25 (s82.sub (.cons rfl (.cons rfl (.cons rfl (.cons rfl .nil)))))
 refine wp_block ?_
 have s96 := s19.perm (toFront [_] (toFront [] (List.Perm.refl _))); clear s19
 refine wp_loop_fuel (fun m (q : digest_Hash) => digest_Hash_Sum.l3 k m q) r (fun _ => rfl) (fun q a w => St ⟨64, w0, ok, []⟩ [BF b1 88 (karr 32 (kint .u8)) (List.replicate 32 (0 : Int)), BF b2 125 k_digest_Hash q] [(2, (ptrB b1 0)), (3, (ptrB b2 0)), (100000, (known (.pointer (some ⟨0, 0, none⟩)) (ptrTo (karr 8 (kint .u32)) G_digest_first))), (100001, (known (.pointer (some ⟨1, 0, none⟩)) (ptrTo (karr 64 (kint .u32)) G_digest_rounds)))] a w) ?_ k x2 _ _ h2 (s96.sub (.cons rfl (.cons rfl (.cons rfl (.cons rfl .nil)))))
 rintro n3 y8 a97 w97 h26 s97 K23 hK23
 replace h26 : digest_Hash_Sum.l3 k (n3 + 1) y8 = some r := h26; rw [digest_Hash_Sum.l3] at h26
 have h27 := h26; clear h26
 refine wp_seq_k fun K24 hK24 => wp_seq_k fun K25 hK25 => ?_
 refine wp_region_lit (qs s97 (.c1 rfl (ob_fieldAddr (off' := 73) rfl Tryd.underlying125 rfl sz3 (by decide) (.tmp rfl) rfl) (.c1 rfl (ob_load rfl tk3 (.tmp rfl) (.tail _ (.head _)) (lg_digest_Hash_many y8)) (.c1 rfl (ob_neq rfl (.tmp rfl) (opd_int rfl)) (.ce (u 2 rfl (u 3 rfl (u 17 rfl (u 100000 rfl (u 100001 rfl .nil))))))))) fun _ _ s101 => wn hK25 ?_); clear s97
 refine cond_split s101 (.tmp rfl) (fun hc4 => ?_) (fun hc4 => ?_)
 ·have h28 := ite_t hc4 h27; clear h27
  refine wp_skip ?_
  refine then_normal (hK24 _ _ ?_)
  have s102 := s101.sub (u 2 rfl (u 3 rfl (u 100000 rfl (u 100001 rfl .nil)))); clear s101
  refine wp_block ?_
  refine wp_region_lit ?_
  obtain ⟨x9, e_x9, h29⟩ := bind_some h28; clear h28
  refine qx (B' := (fun _ : Unit => [BF b2 125 k_digest_Hash x9, BF b1 88 (karr 32 (kint .u8)) (List.replicate 32 (0 : Int))])) s102 rfl (ob_callL0 (args := [_, _]) (L := [_]) rfl .direct hb90 (toFront [_] (List.Perm.refl _)) (fun a w s => by exact c_digest_Hash_put k _ _ _ e_x9 _ _ (s.env _ _ (show get _ 100001 = _ from rfl)) _ _ _ (ownL s) (disL s) (nodL s) (s.arg (.tmp rfl)) (s.arg (opd_int rfl))) (by exact fun _ => rfl)) fun _ _ _ s103 => ?_; clear s102
  refine wpList_nil ?_
  refine in_normal ?_
  refine then_normal ?_
  have s104 := s103.perm (toFront [_] (toFront [] (List.Perm.refl _))); clear s103
  exact hK23 x9 _ _ h29 (s104.sub (.cons rfl (.cons rfl (.cons rfl (.cons rfl .nil)))))
 ·have h30 := ite_f hc4 h27; clear h27
  refine wp_exit ?_
  refine (then_exit (then_exit (in_here ?_)))
  refine then_normal ?_
  exact hj1 y8 _ _ h30 (s101.sub (.cons rfl (.cons rfl (.cons rfl (.cons rfl .nil)))))
theorem c_digest_Sum (k : Nat) (p1 : (List (List Int))) (r : (List Int)) (h0 : digest_Sum k p1 = some r) (ok : Ok) (w0 : World) (gl0 : (ptrTo (karr 8 (kint .u32)) G_digest_first).holds ok w0 (.pointer (some ⟨0, 0, none⟩))) (gl1 : (ptrTo (karr 64 (kint .u32)) G_digest_rounds).holds ok w0 (.pointer (some ⟨1, 0, none⟩))) (z0 : Value) (u0 : ((ksl kstr).V p1).holds ok w0 z0) :
 Gives Tryd.prog 61 [z0] ok w0 (resFact [(karr 32 (kint .u8)).V r]) := by
 unfold digest_Sum at h0
 refine enter (N := 7) Tryd.func61 rfl rfl (of_decide_eq_true rfl) (.cons u0 .nil) fun a1 s1 => ?_
 have s2 := s1.keepKnown 100000 gl0 okIn; clear s1
 have s3 := s2.keepKnown 100001 gl1 okIn; clear s2
 refine wp_seq_k fun K1 hK1 => wp_region_lit ?_
 refine qx (B' := (fun b1 : Nat => [BF b1 88 (karr 32 (kint .u8)) (List.replicate 32 (0 : Int))])) s3 rfl (ob_new (k := (karr 32 (kint .u8))) rfl zz88 (Zr.arr 32 (Zr.int .u8))) fun b1 _ _ s4 => ?_; clear s3
 refine wn hK1 ?_
 have s5 := s4.sub (u 0 rfl (u 2 rfl (u 100000 rfl (u 100001 rfl .nil)))); clear s4
 refine wp_seq_k fun K2 hK2 => wp_region_lit ?_
 refine qx (B' := (fun b2 : Nat => [BF b2 125 k_digest_Hash (⟨false, (List.replicate 8 (0 : Int)), (List.replicate 64 (0 : Int)), (0 : Int), (0 : Int)⟩ : digest_Hash), BF b1 88 (karr 32 (kint .u8)) (List.replicate 32 (0 : Int))])) s5 rfl (ob_new (k := k_digest_Hash) rfl zz125 (Zr.iso (f := t_digest_Hash) (x := (⟨false, (List.replicate 8 (0 : Int)), (List.replicate 64 (0 : Int)), (0 : Int), (0 : Int)⟩ : digest_Hash)) (Zr.pair Zr.bool (Zr.pair (Zr.arr 8 (Zr.int .u32)) (Zr.pair (Zr.arr 64 (Zr.int .u8)) (Zr.pair (Zr.int .i64) (Zr.pair (Zr.int .u64) Zr.nil))))))) fun b2 _ _ s6 => ?_; clear s5
 refine wn hK2 ?_
 have s7 := s6.sub (u 0 rfl (u 2 rfl (u 3 rfl (u 100000 rfl (u 100001 rfl .nil))))); clear s6
 obtain ⟨x1, e_x1, h1⟩ := bind_some h0; clear h0
 refine wp_seq_k fun K3 hK3 => wp_region_lit (qs s7 (.c1 rfl (mv rfl rfl) .cz) fun _ _ s8 => ?_); clear s7
 refine qx (B' := (fun _ : Unit => [BF b2 125 k_digest_Hash x1, BF b1 88 (karr 32 (kint .u8)) (List.replicate 32 (0 : Int))])) s8 rfl (ob_callL0 (args := [_, _]) (L := [_]) rfl .direct hb81 (List.Perm.refl _) (fun a w s => by exact c_digest_Hash_Write k _ _ _ e_x1 _ _ (s.env _ _ (show get _ 100000 = _ from rfl)) (s.env _ _ (show get _ 100001 = _ from rfl)) _ _ _ (ownL s) (disL s) (nodL s) (s.arg (.tmp rfl)) (s.arg (.tmp rfl))) (by exact fun _ => rfl)) fun _ _ _ s9 => ?_; clear s8
 refine wn hK3 ?_
 have s10 := s9.sub (u 2 rfl (u 3 rfl (u 100000 rfl (u 100001 rfl .nil)))); clear s9
 obtain ⟨x2, e_x2, h2⟩ := bind_some h1; clear h1
 refine wp_seq_k fun K4 hK4 => wp_region_lit (qs s10 (.c1 rfl ((ob_lendG (L := [_]) (List.Perm.refl _) (.cons (t := 3) rfl (lendPtrB (.head _) (LG.refl _ _)) .nil) (Flat.res1 (Flat.V (KFlat.arr (KFlat.int _)))) (fun _ => ob_callD0 (args := [_]) rfl .direct hb82 (fun a w s => by exact c_digest_Hash_Sum k _ _ e_x2 _ _ (s.env _ _ (show get _ 100000 = _ from rfl)) (s.env _ _ (show get _ 100001 = _ from rfl)) _ (s.arg (.tmp rfl)))))) .cz) fun _ _ s11 => ?_); clear s10
 refine seq_opx0 (B' := (fun _ : Unit => [BF b2 125 k_digest_Hash x1, BF b1 88 (karr 32 (kint .u8)) x2])) s11 rfl rfl (ob_store (A := [_]) rfl tk88 (.tmp rfl) (.tmp rfl) rfl (LS.refl _ _ _) rfl) fun _ a12 w12 s12 => ?_; clear s11
 refine wn hK4 ?_
 have s13 := s12.sub (u 2 rfl (u 100000 rfl (u 100001 rfl .nil))); clear s12
 have s14 := St.drop (A := []) s13; clear s13
 refine wp_ret ?_
 obtain rfl := Option.some.inj h2
 exact leave s14 (.inl rfl) rfl (.cons (.cell rfl tk88 (.head _) (LG.refl _ _)) .nil)
theorem c_journal_mark (k : Nat) (p1 : Int) (p2 : Int) (r : (List Int)) (h0 : journal_mark k p1 p2 = some r) (ok : Ok) (w0 : World) (gl0 : (ptrTo (karr 8 (kint .u32)) G_digest_first).holds ok w0 (.pointer (some ⟨0, 0, none⟩))) (gl1 : (ptrTo (karr 64 (kint .u32)) G_digest_rounds).holds ok w0 (.pointer (some ⟨1, 0, none⟩))) (z0 : Value) (z1 : Value) (u0 : ((kint .i64).V p1).holds ok w0 z0) (u1 : ((kint .i64).V p2).holds ok w0 z1) :
 Gives Tryd.prog 33 [z0, z1] ok w0 (resFact [kstr.V r]) := by
 unfold journal_mark at h0
 refine enter (N := 31) Tryd.func33 rfl rfl (of_decide_eq_true rfl) (.cons u0 (.cons u1 .nil)) fun a1 s1 => ?_
 have s2 := s1.keepKnown 100000 gl0 okIn; clear s1
 have s3 := s2.keepKnown 100001 gl1 okIn; clear s2
 refine wp_seq_k fun K1 hK1 => wp_region_lit (qs s3 (.c1 rfl (ob_assign rfl (opd_str (by rfl) (by decide))) (.ce (u 0 rfl (u 1 rfl (u 100000 rfl (u 100001 rfl .nil)))))) fun _ _ s5 => wn hK1 ?_); clear s3
 obtain ⟨x1, e_x1, h1⟩ := bind_some h0; clear h0; replace e_x1 := Option.some.inj e_x1
 obtain ⟨g1, h2⟩ := guard_some h1; clear h1
 refine wp_seq_k fun K2 hK2 => wp_region_lit (qs s5 (.c1 rfl (mv rfl rfl) (.c1 rfl (ob_conv rfl _ Tryd.underlying3 Tryd.underlying5 (.tmp rfl)) (.c1 rfl (mv rfl rfl) (.c1 rfl (ob_shr rfl (.tmp rfl) (opd_int rfl) (by decide)) (.c1 rfl (ob_conv rfl _ Tryd.underlying3 Tryd.underlying5 (.tmp rfl)) (.c1 rfl (mv rfl rfl) (.c1 rfl (ob_shr rfl (.tmp rfl) (opd_int rfl) (by decide)) (.c1 rfl (ob_conv rfl _ Tryd.underlying3 Tryd.underlying5 (.tmp rfl)) (.c1 rfl (mv rfl rfl) (.c1 rfl (ob_shr rfl (.tmp rfl) (opd_int rfl) (by decide)) (.c1 rfl (ob_conv rfl _ Tryd.underlying3 Tryd.underlying5 (.tmp rfl)) (.c1 rfl (mv rfl rfl) (.c1 rfl (ob_conv rfl _ Tryd.underlying3 Tryd.underlying5 (.tmp rfl)) (.c1 rfl ((ob_mkSlice (k := (kint .u8)) (xs := ([(IntKind.wrap .u8 p1), (IntKind.wrap .u8 (ishr .i64 p2 (24 : Int))), (IntKind.wrap .u8 (ishr .i64 p2 (16 : Int))), (IntKind.wrap .u8 (ishr .i64 p2 (8 : Int))), (IntKind.wrap .u8 p2)] : (List Int))) rfl Tryd.underlying31 zz5 sz5 (Zr.int .u8) (by decide) (by decide) (.cons (.tmp rfl) rfl (LS.arr' (i := 0) (ys := ([(IntKind.wrap .u8 p1), (0 : Int), (0 : Int), (0 : Int), (0 : Int)] : (List Int))) (by simp) (by rfl)) (.cons (.tmp rfl) rfl (LS.arr' (i := 1) (ys := ([(IntKind.wrap .u8 p1), (IntKind.wrap .u8 (ishr .i64 p2 (24 : Int))), (0 : Int), (0 : Int), (0 : Int)] : (List Int))) (by simp) (by rfl)) (.cons (.tmp rfl) rfl (LS.arr' (i := 2) (ys := ([(IntKind.wrap .u8 p1), (IntKind.wrap .u8 (ishr .i64 p2 (24 : Int))), (IntKind.wrap .u8 (ishr .i64 p2 (16 : Int))), (0 : Int), (0 : Int)] : (List Int))) (by simp) (by rfl)) (.cons (.tmp rfl) rfl (LS.arr' (i := 3) (ys := ([(IntKind.wrap .u8 p1), (IntKind.wrap .u8 (ishr .i64 p2 (24 : Int))), (IntKind.wrap .u8 (ishr .i64 p2 (16 : Int))), (IntKind.wrap .u8 (ishr .i64 p2 (8 : Int))), (0 : Int)] : (List Int))) (by simp) (by rfl)) (.cons (.tmp rfl) rfl (LS.arr' (i := 4) (ys := ([(IntKind.wrap .u8 p1), (IntKind.wrap .u8 (ishr .i64 p2 (24 : Int))), (IntKind.wrap .u8 (ishr .i64 p2 (16 : Int))), (IntKind.wrap .u8 (ishr .i64 p2 (8 : Int))), (IntKind.wrap .u8 p2)] : (List Int))) (by simp) (by rfl)) (.nil _))))))).nm e_x1) (.c1 rfl (ob_bytesToStr rfl Tryd.underlying31 Tryd.underlying9 Tryd.underlying5 (.tmp rfl)) (.c1 rfl (ob_cat rfl (opd_str (by rfl) (by decide)) (.tmp rfl) g1) (.c1 rfl (ob_assign rfl (.tmp rfl)) (.ce (u 5 rfl (u 100000 rfl (u 100001 rfl .nil))))))))))))))))))))) fun _ _ s23 => wn hK2 ?_); clear s5
 obtain ⟨x2, e_x2, h3⟩ := bind_some h2; clear h2
 refine wp_seq_k fun K3 hK3 => wp_region_lit (qs s23 (.c1 rfl (mv rfl rfl) (.c1 rfl (ob_mkSlice (k := kstr) (xs := ([(([109, 97, 114, 107] : List Int) ++ x1)] : (List (List Int)))) rfl Tryd.underlying30 zz9 sz9 Zr.str (by decide) (by decide) (.cons (.tmp rfl) rfl (LS.arr' (i := 0) (ys := ([(([109, 97, 114, 107] : List Int) ++ x1)] : (List (List Int)))) (by simp) (by rfl)) (.nil _))) (.c1 rfl (ob_callD0 (args := [_]) rfl .direct hb61 (fun a w s => by exact c_digest_Sum k _ _ e_x2 _ _ (s.env _ _ (show get _ 100000 = _ from rfl)) (s.env _ _ (show get _ 100001 = _ from rfl)) _ (s.arg (.tmp rfl)))) .cz))) fun _ _ s26 => ?_); clear s23
 refine qx (B' := (fun b1 : Nat => [BF b1 88 (karr 32 (kint .u8)) (List.replicate 32 (0 : Int))])) s26 rfl (ob_new (k := (karr 32 (kint .u8))) rfl zz88 (Zr.arr 32 (Zr.int .u8))) fun b1 _ _ s27 => ?_; clear s26
 refine seq_opx0 (B' := (fun _ : Unit => [BF b1 88 (karr 32 (kint .u8)) x2])) s27 rfl rfl (ob_store (A := []) rfl tk88 (.tmp rfl) (.tmp rfl) rfl (LS.refl _ _ _) rfl) fun _ a28 w28 s28 => ?_; clear s27
 refine wn hK3 ?_
 have s29 := s28.sub (u 5 rfl (u 6 rfl (u 100000 rfl (u 100001 rfl .nil)))); clear s28
 obtain ⟨x3, e_x3, h4⟩ := bind_some h3; clear h3
 obtain ⟨g2, h5⟩ := guard_some h4; clear h4
 obtain ⟨x4, e_x4, h6⟩ := bind_some h5; clear h5
 refine wp_seq_k fun K4 hK4 => wp_region_lit (qs s29 (.c1 rfl (mv rfl rfl) (.c1 rfl (ob_sliceArr rfl Tryd.underlying88 sz5 (.tmp rfl) .none (.some (opd_int rfl)) (show (0 : Int) ≤ (0 : Int) ∧ (0 : Int) ≤ (8 : Int) ∧ (8 : Int) ≤ ((32 : Nat) : Int) by decide)) (.c1 rfl ((ob_lendG (L := [_]) (List.Perm.refl _) (.cons (t := 27) rfl (lendSlB (.head _) (LG.refl _ _) e_x3 rfl (cut_len e_x3) (cut_cap e_x3 (show (0 : Int) ≤ (0 : Int) ∧ (0 : Int) ≤ (8 : Int) ∧ (8 : Int) ≤ ((32 : Nat) : Int) by decide) (by decide))) .nil) (Flat.V KFlat.str) (fun _ => ob_bytesToStr rfl Tryd.underlying31 Tryd.underlying9 Tryd.underlying5 (.tmp rfl)))) (.c1 rfl (ob_cat rfl (.tmp rfl) (.tmp rfl) g2) (.c1 rfl (ob_callD0 (args := [_, _]) rfl .direct hb32 (fun a w s => by exact c_journal_filled k _ _ _ e_x4 _ _ _ _ (s.arg (.tmp rfl)) (s.arg (opd_int rfl)))) (.c1 rfl (ob_assign rfl (.tmp rfl)) (.ce (u 4 rfl (u 100000 rfl (u 100001 rfl .nil)))))))))) fun _ _ s36 => wn hK4 ?_); clear s29
 have s37 := St.drop (A := []) s36; clear s36
 refine wp_ret ?_
 obtain rfl := Option.some.inj h6
 exact leave s37 (.inl rfl) rfl (.cons (.tmp rfl) .nil)
theorem c_journal_blocks (k : Nat) (p1 : disk_Disk) (r : Int) (h0 : journal_blocks k p1 = some r) (ok : Ok) (w0 : World) (z0 : Value) (u0 : (ptrTo k_disk_Disk p1).holds ok w0 z0) :
 Gives Tryd.prog 34 [z0] ok w0 (resFact [(kint .i64).V r]) := by
 unfold journal_blocks at h0
 refine enter (N := 7) Tryd.func34 rfl rfl (of_decide_eq_true rfl) (.cons u0 .nil) fun a1 s1 => ?_
 refine wp_seq_k fun K1 hK1 => wp_region_lit (qs s1 (.c1 rfl (ob_assign rfl (opd_int rfl)) (.ce (u 0 rfl .nil))) fun _ _ s3 => wn hK1 ?_); clear s1
 obtain ⟨x1, e_x1, h1⟩ := bind_some h0; clear h0
 refine wp_seq_k fun K2 hK2 => wp_region_lit (qs s3 (.c1 rfl (mv rfl rfl) (.c1 rfl (ob_callD0 (args := [_]) rfl .direct hb30 (fun a w s => by exact c_disk_Disk_Blocks k _ _ e_x1 _ _ _ (s.arg (.tmp rfl)))) (.c1 rfl (ob_sub rfl (.tmp rfl) (opd_int rfl)) (.c1 rfl (ob_quo rfl (.tmp rfl) (opd_int rfl) (by decide)) (.c1 rfl (ob_assign rfl (.tmp rfl)) (.ce (u 2 rfl .nil))))))) fun _ _ s9 => wn hK2 ?_); clear s3
 refine wp_ret ?_
 obtain rfl := Option.some.inj h1
 exact leave s9 (.inl rfl) rfl (.cons (.tmp rfl) .nil)
theorem c_strings_Builder_Len (k : Nat) (p1 : strings_Builder) (r : (Int × strings_Builder)) (h0 : strings_Builder_Len k p1 = some r) (ok : Ok) (w0 : World) (z0 : Value) (b00 : Nat) (w0_1 : Value) (l0 : ∀ q, q ∈ [BF b00 106 (ko_strings_Builder_1 b00 w0_1) (⟨p1.addr, []⟩ : strings_Builder), RowF w0_1 5 (kint .u8) p1.buf] → q.holds ok w0) (d0 : ∀ c, c ∈ idsOf [BF b00 106 (ko_strings_Builder_1 b00 w0_1) (⟨p1.addr, []⟩ : strings_Builder), RowF w0_1 5 (kint .u8) p1.buf] → ¬ ok c) (nd : (idsOf [BF b00 106 (ko_strings_Builder_1 b00 w0_1) (⟨p1.addr, []⟩ : strings_Builder), RowF w0_1 5 (kint .u8) p1.buf]).Nodup) (u0 : (ptrB b00 0).holds ok w0 z0) :
 GivesX Tryd.prog 62 [z0] ok w0 [BF b00 106 (ko_strings_Builder_1 b00 w0_1) (⟨p1.addr, []⟩ : strings_Builder), RowF w0_1 5 (kint .u8) p1.buf] (fun g : Value => resFact [(kint .i64).V r.1]) (fun g : Value => [BF b00 106 (ko_strings_Builder_1 b00 (g)) (⟨r.2.addr, []⟩ : strings_Builder), RowF (g) 5 (kint .u8) r.2.buf]) := by
 unfold strings_Builder_Len at h0
 refine enterX (N := 8) Tryd.func62 rfl rfl (of_decide_eq_true rfl) (.cons u0 .nil) nd l0 d0 fun a1 s1 => ?_
 refine wp_seq_k fun K1 hK1 => wp_region_lit (qs s1 (.c1 rfl (ob_assign rfl (opd_int rfl)) (.ce (u 0 rfl .nil))) fun _ _ s3 => wn hK1 ?_); clear s1
 refine wp_seq_k fun K2 hK2 => wp_region_lit (qs s3 (.c1 rfl (mv rfl rfl) (.c1 rfl (ob_nilCheck rfl (.tmp rfl)) (.c1 rfl (ob_fieldAddr (off' := 1) rfl Tryd.underlying106 rfl sz31 (by decide) (.tmp rfl) rfl) (.c1 rfl (ob_loadRowV rfl (tkr31 _) (.tmp rfl) (.head _) (lgo_strings_Builder_1_buf (⟨p1.addr, []⟩ : strings_Builder))) (.c1 rfl (ob_lenRow rfl Tryd.underlying31 (.tmp rfl) (.tail _ (.head _))) (.c1 rfl (ob_assign rfl (.tmp rfl)) (.ce (u 2 rfl .nil)))))))) fun _ _ s10 => wn hK2 ?_); clear s3
 refine wp_ret ?_
 obtain rfl := Option.some.inj h0
 exact leaveXD (D := []) w0_1 s10 rfl (.inl rfl) rfl (.cons (.tmp rfl) .nil) rfl
theorem c_journal_Journal_place (k : Nat) (p1 : journal_Journal) (p2 : Int) (p3 : Int) (p4 : disk_Disk) (r : Int) (h0 : journal_Journal_place k p1 p2 p3 p4 = some r) (ok : Ok) (w0 : World) (z0 : Value) (z1 : Value) (z2 : Value) (b00 : Nat) (b01 : Nat) (w1_0 : Value) (w1_1 : Value) (l0 : ∀ q, q ∈ [BF b00 70 (ko_journal_Journal_0 (.pointer (some ⟨b01, 0, none⟩))) (⟨(), p1.area, p1.bytes, p1.l⟩ : journal_Journal), BF b01 68 (ko_disk_Disk_0_1 w1_0 w1_1) (⟨[], [], p4.fuse, p4.dead⟩ : disk_Disk), RowF w1_0 100 (karr 256 (kint .u8)) p4.firm, RowF w1_1 102 k_disk_write p4.loose] → q.holds ok w0) (d0 : ∀ c, c ∈ idsOf [BF b00 70 (ko_journal_Journal_0 (.pointer (some ⟨b01, 0, none⟩))) (⟨(), p1.area, p1.bytes, p1.l⟩ : journal_Journal), BF b01 68 (ko_disk_Disk_0_1 w1_0 w1_1) (⟨[], [], p4.fuse, p4.dead⟩ : disk_Disk), RowF w1_0 100 (karr 256 (kint .u8)) p4.firm, RowF w1_1 102 k_disk_write p4.loose] → ¬ ok c) (nd : (idsOf [BF b00 70 (ko_journal_Journal_0 (.pointer (some ⟨b01, 0, none⟩))) (⟨(), p1.area, p1.bytes, p1.l⟩ : journal_Journal), BF b01 68 (ko_disk_Disk_0_1 w1_0 w1_1) (⟨[], [], p4.fuse, p4.dead⟩ : disk_Disk), RowF w1_0 100 (karr 256 (kint .u8)) p4.firm, RowF w1_1 102 k_disk_write p4.loose]).Nodup) (u0 : (ptrB b00 0).holds ok w0 z0) (u1 : ((kint .i64).V p2).holds ok w0 z1) (u2 : ((kint .i64).V p3).holds ok w0 z2) :
 GivesX Tryd.prog 63 [z0, z1, z2] ok w0 [BF b00 70 (ko_journal_Journal_0 (.pointer (some ⟨b01, 0, none⟩))) (⟨(), p1.area, p1.bytes, p1.l⟩ : journal_Journal), BF b01 68 (ko_disk_Disk_0_1 w1_0 w1_1) (⟨[], [], p4.fuse, p4.dead⟩ : disk_Disk), RowF w1_0 100 (karr 256 (kint .u8)) p4.firm, RowF w1_1 102 k_disk_write p4.loose] (fun g : Unit => resFact [(kint .i64).V r]) (fun g : Unit => [BF b00 70 (ko_journal_Journal_0 (.pointer (some ⟨b01, 0, none⟩))) (⟨(), p1.area, p1.bytes, p1.l⟩ : journal_Journal), BF b01 68 (ko_disk_Disk_0_1 w1_0 w1_1) (⟨[], [], p4.fuse, p4.dead⟩ : disk_Disk), RowF w1_0 100 (karr 256 (kint .u8)) p4.firm, RowF w1_1 102 k_disk_write p4.loose]) := by
 unfold journal_Journal_place at h0
 refine enterX (N := 17) Tryd.func63 rfl rfl (of_decide_eq_true rfl) (.cons u0 (.cons u1 (.cons u2 .nil))) nd l0 d0 fun a1 s1 => ?_
 refine wp_seq_k fun K1 hK1 => wp_region_lit (qs s1 (.c1 rfl (ob_assign rfl (opd_int rfl)) (.ce (u 0 rfl (u 1 rfl (u 2 rfl .nil))))) fun _ _ s3 => wn hK1 ?_); clear s1
 obtain ⟨x1, e_x1, h1⟩ := bind_some h0; clear h0
 refine wp_seq_k fun K2 hK2 => wp_region_lit (qs s3 (.c1 rfl (mv rfl rfl) (.c1 rfl (mv rfl rfl) (.c1 rfl (ob_nilCheck rfl (.tmp rfl)) (.c1 rfl (ob_fieldAddr (off' := 0) rfl Tryd.underlying70 rfl sz24 (by decide) (.tmp rfl) rfl) (.c1 rfl (ob_loadRowV rfl (tkr24 _) (.tmp rfl) (.head _) (lgo_journal_Journal_0_d (⟨(), p1.area, p1.bytes, p1.l⟩ : journal_Journal))) (.c1 rfl ((ob_lendG (L := [_, _, _]) (toFront [_] (toFront [_] (toFront [_] (List.Perm.refl _)))) (.cons (t := 11) rfl (lendObj (K' := k_disk_Disk) (X' := p4) (.head _) rfl (upo_disk_Disk_0_1 rfl (.row (LetAll.row (.tail _ (.head _)))) (.row (LetAll.row (.tail _ (.tail _ (.head _))))))) .nil) (Flat.res1 (Flat.V (KFlat.int _))) (fun _ => ob_callD0 (args := [_]) rfl .direct hb34 (fun a w s => by exact c_journal_blocks k _ _ e_x1 _ _ _ (s.arg (.tmp rfl)))))) (.c1 rfl (ob_mul rfl (.tmp rfl) (.tmp rfl)) (.c1 rfl (ob_add rfl (opd_int rfl) (.tmp rfl)) (.c1 rfl (mv rfl rfl) (.c1 rfl (ob_add rfl (.tmp rfl) (.tmp rfl)) (.c1 rfl (ob_assign rfl (.tmp rfl)) (.ce (u 6 rfl .nil))))))))))))) fun _ _ s15 => wn hK2 ?_); clear s3
 refine wp_ret ?_
 obtain rfl := Option.some.inj h1
 exact leaveXD (D := []) () s15 rfl (.inl rfl) rfl (.cons (.tmp rfl) .nil) rfl
theorem c_strings_Builder_copyCheck (k : Nat) (p1 : strings_Builder) (r : strings_Builder) (h0 : strings_Builder_copyCheck k p1 = some r) (ok : Ok) (w0 : World) (z0 : Value) (b00 : Nat) (w0_1 : Value) (l0 : ∀ q, q ∈ [BF b00 106 (ko_strings_Builder_1 b00 w0_1) (⟨p1.addr, []⟩ : strings_Builder), RowF w0_1 5 (kint .u8) p1.buf] → q.holds ok w0) (d0 : ∀ c, c ∈ idsOf [BF b00 106 (ko_strings_Builder_1 b00 w0_1) (⟨p1.addr, []⟩ : strings_Builder), RowF w0_1 5 (kint .u8) p1.buf] → ¬ ok c) (nd : (idsOf [BF b00 106 (ko_strings_Builder_1 b00 w0_1) (⟨p1.addr, []⟩ : strings_Builder), RowF w0_1 5 (kint .u8) p1.buf]).Nodup) (u0 : (ptrB b00 0).holds ok w0 z0) :
 GivesX Tryd.prog 83 [z0] ok w0 [BF b00 106 (ko_strings_Builder_1 b00 w0_1) (⟨p1.addr, []⟩ : strings_Builder), RowF w0_1 5 (kint .u8) p1.buf] (fun g : Value => resFact []) (fun g : Value => [BF b00 106 (ko_strings_Builder_1 b00 (g)) (⟨r.addr, []⟩ : strings_Builder), RowF (g) 5 (kint .u8) r.buf]) := by
 unfold strings_Builder_copyCheck at h0
 refine enterX (N := 20) Tryd.func83 rfl rfl (of_decide_eq_true rfl) (.cons u0 .nil) nd l0 d0 fun a1 s1 => ?_
 refine wp_seq_k fun K1 hK1 => wp_region_lit (qs s1 (.c1 rfl (mv rfl rfl) (.c1 rfl (ob_nilCheck rfl (.tmp rfl)) (.c1 rfl (ob_fieldAddr (off' := 0) rfl Tryd.underlying106 rfl sz104 (by decide) (.tmp rfl) rfl) (.c1 rfl ((ob_load rfl (tkb104 _) (.tmp rfl) (.head _) (lgo_strings_Builder_1_addr (⟨p1.addr, []⟩ : strings_Builder))).as V_kbad) (.c1 rfl (ob_badNil rfl pt104 (.tmp rfl) opd_is) (.ce (u 0 rfl (u 6 rfl .nil)))))))) fun _ _ s7 => wn hK1 ?_); clear s1
 refine cond_split s7 (.tmp rfl) (fun hc1 => ?_) (fun hc1 => ?_)
 ·have h1 := ite_t hc1 h0; clear h0
  refine wp_region_lit (qs s7 (.c1 rfl (mv rfl rfl) (.c1 rfl (mv rfl rfl) (.c1 rfl (ob_toUnsafe rfl Tryd.underlying104 Tryd.underlying138 (by kernel_rfl) (.tmp rfl) (.head _) (Nat.zero_lt_succ _)) (.c1 rfl (ob_noEscape rfl ne91 (.tmp rfl)) (.c1 rfl (ob_fromUnsafe rfl Tryd.underlying138 Tryd.underlying104 (by kernel_rfl) (.tmp rfl) (.head _) (by kernel_rfl)) (.c1 rfl (ob_nilCheck rfl (.tmp rfl)) (.c1 rfl (ob_fieldAddr (off' := 0) rfl Tryd.underlying106 rfl sz104 (by decide) (.tmp rfl) rfl) .cz))))))) fun _ _ s14 => ?_); clear s7
  refine seq_opx0 (B' := (fun _ : Unit => [BF b00 106 (ko_strings_Builder_1 b00 w0_1) (⟨true, []⟩ : strings_Builder), RowF w0_1 5 (kint .u8) p1.buf])) s14 rfl rfl (ob_store (A := []) rfl (tkb104 _) (.tmp rfl) (.conv (.tmp rfl) self_bad) rfl (lso_strings_Builder_1_addr (⟨p1.addr, []⟩ : strings_Builder) true) rfl) fun _ a15 w15 s15 => ?_; clear s14
  refine wpList_nil ?_
  obtain rfl := Option.some.inj h1
  exact leaveXD (D := []) w0_1 s15 rfl (.inr rfl) rfl .nil rfl
 ·have h2 := ite_f hc1 h0; clear h0
  refine wp_seq_k fun K2 hK2 => wp_region_lit (qs s7 (.c1 rfl (mv rfl rfl) (.c1 rfl (ob_nilCheck rfl (.tmp rfl)) (.c1 rfl (ob_fieldAddr (off' := 0) rfl Tryd.underlying106 rfl sz104 (by decide) (.tmp rfl) rfl) (.c1 rfl ((ob_load rfl (tkb104 _) (.tmp rfl) (.head _) (lgo_strings_Builder_1_addr (⟨p1.addr, []⟩ : strings_Builder))).as V_kbad) (.c1 rfl (mv rfl rfl) (.c1 rfl (ob_badSelf rfl Tryd.underlying104 (by kernel_rfl) (.tmp rfl) (.tmp rfl)) (.ce (u 19 rfl .nil)))))))) fun _ _ s22 => wn hK2 ?_); clear s7
  refine cond_split s22 (.tmp rfl) (fun hc2 => ?_) (fun hc2 => ?_)
  ·have h3 := ite_t hc2 h2; clear h2
   cases h3
  ·have h4 := ite_f hc2 h2; clear h2
   refine wp_skip ?_
   obtain rfl := Option.some.inj h4
   exact leaveXD (D := []) w0_1 s22 rfl (.inr rfl) rfl .nil rfl
theorem c_strings_Builder_WriteString (k : Nat) (p1 : strings_Builder) (p2 : (List Int)) (r : (Int × Unit × strings_Builder)) (h0 : strings_Builder_WriteString k p1 p2 = some r) (ok : Ok) (w0 : World) (z0 : Value) (z1 : Value) (b00 : Nat) (w0_1 : Value) (l0 : ∀ q, q ∈ [BF b00 106 (ko_strings_Builder_1 b00 w0_1) (⟨p1.addr, []⟩ : strings_Builder), RowF w0_1 5 (kint .u8) p1.buf] → q.holds ok w0) (d0 : ∀ c, c ∈ idsOf [BF b00 106 (ko_strings_Builder_1 b00 w0_1) (⟨p1.addr, []⟩ : strings_Builder), RowF w0_1 5 (kint .u8) p1.buf] → ¬ ok c) (nd : (idsOf [BF b00 106 (ko_strings_Builder_1 b00 w0_1) (⟨p1.addr, []⟩ : strings_Builder), RowF w0_1 5 (kint .u8) p1.buf]).Nodup) (u0 : (ptrB b00 0).holds ok w0 z0) (u1 : (kstr.V p2).holds ok w0 z1) :
 GivesX Tryd.prog 64 [z0, z1] ok w0 [BF b00 106 (ko_strings_Builder_1 b00 w0_1) (⟨p1.addr, []⟩ : strings_Builder), RowF w0_1 5 (kint .u8) p1.buf] (fun g : Value => resFact [(kint .i64).V r.1, (kis .nilIface).V r.2.1]) (fun g : Value => [BF b00 106 (ko_strings_Builder_1 b00 (g)) (⟨r.2.2.addr, []⟩ : strings_Builder), RowF (g) 5 (kint .u8) r.2.2.buf]) := by
 unfold strings_Builder_WriteString at h0
 refine enterX (N := 19) Tryd.func64 rfl rfl (of_decide_eq_true rfl) (.cons u0 (.cons u1 .nil)) nd l0 d0 fun a1 s1 => ?_
 refine wp_seq_k fun K1 hK1 => wp_region_lit (qs s1 (.c1 rfl (ob_assign rfl (opd_int rfl)) (.c1 rfl (ob_assign rfl opd_nilIface) (.ce (u 0 rfl (u 1 rfl .nil))))) fun _ _ s4 => wn hK1 ?_); clear s1
 obtain ⟨x1, e_x1, h1⟩ := bind_some h0; clear h0
 refine wp_seq_k fun K2 hK2 => wp_region_lit (qs s4 (.c1 rfl (mv rfl rfl) .cz) fun _ _ s5 => ?_); clear s4
 refine qx (B' := (fun v1 : Value => [BF b00 106 (ko_strings_Builder_1 b00 v1) (⟨x1.addr, []⟩ : strings_Builder), RowF v1 5 (kint .u8) x1.buf])) s5 rfl (ob_callL0 (args := [_]) (L := [_, _]) rfl .direct hb83 (List.Perm.refl _) (fun a w s => by exact c_strings_Builder_copyCheck k _ _ e_x1 _ _ _ _ _ (ownL s) (disL s) (nodL s) (s.arg (.tmp rfl))) (by exact fun _ => rfl)) fun v1 _ _ s6 => ?_; clear s5
 refine wn hK2 ?_
 have s7 := s6.sub (u 0 rfl (u 1 rfl .nil)); clear s6
 obtain ⟨g1, h2⟩ := guard_some h1; clear h1
 refine wp_seq_k fun K3 hK3 => wp_region_lit (qs s7 (.c1 rfl (mv rfl rfl) (.c1 rfl (mv rfl rfl) (.c1 rfl (ob_nilCheck rfl (.tmp rfl)) (.c1 rfl (ob_fieldAddr (off' := 1) rfl Tryd.underlying106 rfl sz31 (by decide) (.tmp rfl) rfl) (.c1 rfl (ob_loadRowV rfl (tkr31 _) (.tmp rfl) (.head _) (lgo_strings_Builder_1_buf (⟨x1.addr, []⟩ : strings_Builder))) (.c1 rfl (mv rfl rfl) .cz)))))) fun _ _ s13 => ?_); clear s7
 refine qx (B' := (fun v2 : Value => [BF b00 106 (ko_strings_Builder_1 b00 v1) (⟨x1.addr, []⟩ : strings_Builder), RowF v2 5 (kint .u8) (x1.buf ++ p2)])) s13 rfl (ob_appendStr (A := [_]) rfl Tryd.underlying31 Tryd.underlying9 ap5 by5 (.tmp rfl) (.tmp rfl) rfl g1) fun v2 _ _ s14 => ?_; clear s13
 refine qs s14 (.c1 rfl (ob_nilCheck rfl (.tmp rfl)) (.c1 rfl (ob_fieldAddr (off' := 1) rfl Tryd.underlying106 rfl sz31 (by decide) (.tmp rfl) rfl) .cz)) fun _ _ s16 => ?_; clear s14
 refine seq_opx0 (B' := (fun _ : Unit => [BF b00 106 (ko_strings_Builder_1 b00 v2) (⟨x1.addr, []⟩ : strings_Builder), RowF v2 5 (kint .u8) (x1.buf ++ p2)])) s16 rfl rfl (ob_storeRowV (A := []) rfl (tkr31 _) (.tmp rfl) (.tmp rfl) (.tail _ (.head _)) rfl (lsk_strings_Builder_1_to_1_at1 (⟨x1.addr, []⟩ : strings_Builder)) rfl) fun _ a17 w17 s17 => ?_; clear s16
 refine wn hK3 ?_
 have s18 := s17.sub (u 1 rfl .nil); clear s17
 refine wp_seq_k fun K4 hK4 => wp_region_lit (qs s18 (.c1 rfl (mv rfl rfl) (.c1 rfl (ob_lenStr rfl Tryd.underlying9 (.tmp rfl)) (.c1 rfl (ob_assign rfl (.tmp rfl)) (.c1 rfl (ob_assign rfl opd_nilIface) (.ce (u 4 rfl (u 5 rfl .nil))))))) fun _ _ s23 => wn hK4 ?_); clear s18
 refine wp_ret ?_
 obtain rfl := Option.some.inj h2
 exact leaveXD (D := []) v2 s23 rfl (.inl rfl) rfl (.cons (.tmp rfl) (.cons (.tmp rfl) .nil)) rfl
theorem c_strings_Builder_String (k : Nat) (p1 : strings_Builder) (r : (List Int)) (h0 : strings_Builder_String k p1 = some r) (ok : Ok) (w0 : World) (z0 : Value) (b00 : Nat) (w0_1 : Value) (l0 : ∀ q, q ∈ [BF b00 106 (ko_strings_Builder_1 b00 w0_1) (⟨p1.addr, []⟩ : strings_Builder), RowF w0_1 5 (kint .u8) p1.buf] → q.holds ok w0) (d0 : ∀ c, c ∈ idsOf [BF b00 106 (ko_strings_Builder_1 b00 w0_1) (⟨p1.addr, []⟩ : strings_Builder), RowF w0_1 5 (kint .u8) p1.buf] → ¬ ok c) (nd : (idsOf [BF b00 106 (ko_strings_Builder_1 b00 w0_1) (⟨p1.addr, []⟩ : strings_Builder), RowF w0_1 5 (kint .u8) p1.buf]).Nodup) (u0 : (ptrB b00 0).holds ok w0 z0) :
 GivesX Tryd.prog 65 [z0] ok w0 [BF b00 106 (ko_strings_Builder_1 b00 w0_1) (⟨p1.addr, []⟩ : strings_Builder), RowF w0_1 5 (kint .u8) p1.buf] (fun g : Unit => resFact [kstr.V r]) (fun g : Unit => []) := by
 unfold strings_Builder_String at h0
 refine enterX (N := 14) Tryd.func65 rfl rfl (of_decide_eq_true rfl) (.cons u0 .nil) nd l0 d0 fun a1 s1 => ?_
 refine wp_seq_k fun K1 hK1 => wp_region_lit (qs s1 (.c1 rfl (ob_assign rfl (opd_str (by rfl) (by decide))) (.ce (u 0 rfl .nil))) fun _ _ s3 => wn hK1 ?_); clear s1
 refine wp_seq_k fun K2 hK2 => ?_
 refine wp_goes (Fs := [(ptrB b00 0), (ptrB b00 0), (ptrB b00 1), (is w0_1), (ptrS w0_1 p1.buf.length), (ptrB b00 0), (ptrB b00 0), (ptrB b00 1), (is w0_1), ((kint .i64).V (p1.buf.length : Int))]) (bits := [0, 1, 3, 7, 15, 0, 32, 96, 224, 480, 1023, 2047]) (m := 10) (todo := 0) mx s3 ?_; clear s3
 refine goes_last (by kernel_rfl) rfl (oc (av 0 rfl rfl Av.nil) rfl rfl (mv rfl rfl) (oc (an 0 rfl rfl rfl Av.nil) rfl rfl (ob_nilCheck rfl (.tmp rfl)) (oc (an 1 rfl rfl rfl Av.nil) rfl rfl (ob_fieldAddr (off' := 1) rfl Tryd.underlying106 rfl sz31 (by decide) (.tmp rfl) rfl) (oc (an 2 rfl rfl rfl Av.nil) rfl rfl (ob_loadRowV rfl (tkr31 _) (.tmp rfl) (.head _) (lgo_strings_Builder_1_buf (⟨p1.addr, []⟩ : strings_Builder))) (oc (an 3 rfl rfl rfl Av.nil) rfl rfl (ob_sliceDataS rfl Tryd.underlying127 (.tmp rfl) (.tail _ (.head _))) (oc (av 0 rfl rfl Av.nil) rfl rfl (mv rfl rfl) (oc (an 5 rfl rfl rfl Av.nil) rfl rfl (ob_nilCheck rfl (.tmp rfl)) (oc (an 6 rfl rfl rfl Av.nil) rfl rfl (ob_fieldAddr (off' := 1) rfl Tryd.underlying106 rfl sz31 (by decide) (.tmp rfl) rfl) (oc (an 7 rfl rfl rfl Av.nil) rfl rfl (ob_loadRowV rfl (tkr31 _) (.tmp rfl) (.head _) (lgo_strings_Builder_1_buf (⟨p1.addr, []⟩ : strings_Builder))) (oc (an 8 rfl rfl rfl Av.nil) rfl rfl (ob_lenRow rfl Tryd.underlying31 (.tmp rfl) (.tail _ (.head _))) opsS_nil)))))))))) (out_new (i := 4) (by decide) rfl rfl (out_new (i := 9) (by decide) rfl rfl out_nil)) fun _ _ s4 => ?_
 refine qx (B' := (fun _ : Unit => [BF b00 106 (ko_strings_Builder_1 b00 w0_1) (⟨p1.addr, []⟩ : strings_Builder)])) s4 rfl (ob_unsafeStringS (A := [_]) rfl Tryd.underlying127 co5 (.tmp rfl) (.tmp rfl) rfl) fun _ _ _ s5 => ?_; clear s4
 refine qs s5 (.c1 rfl (ob_assign rfl (.tmp rfl)) (.ce (u 2 rfl .nil))) fun _ _ s7 => wn hK2 ?_; clear s5
 have s8 := St.drop (A := []) s7; clear s7
 refine wp_ret ?_
 obtain rfl := Option.some.inj h0
 exact leaveXD (D := []) () s8 rfl (.inl rfl) rfl (.cons (.tmp rfl) .nil) rfl
theorem c_journal_Journal_read (k : Nat) (p1 : journal_Journal) (p2 : Int) (p3 : disk_Disk) (r : (List Int)) (h0 : journal_Journal_read k p1 p2 p3 = some r) (ok : Ok) (w0 : World) (z0 : Value) (z1 : Value) (b00 : Nat) (b01 : Nat) (w1_0 : Value) (w1_1 : Value) (l0 : ∀ q, q ∈ [BF b00 70 (ko_journal_Journal_0 (.pointer (some ⟨b01, 0, none⟩))) (⟨(), p1.area, p1.bytes, p1.l⟩ : journal_Journal), BF b01 68 (ko_disk_Disk_0_1 w1_0 w1_1) (⟨[], [], p3.fuse, p3.dead⟩ : disk_Disk), RowF w1_0 100 (karr 256 (kint .u8)) p3.firm, RowF w1_1 102 k_disk_write p3.loose] → q.holds ok w0) (d0 : ∀ c, c ∈ idsOf [BF b00 70 (ko_journal_Journal_0 (.pointer (some ⟨b01, 0, none⟩))) (⟨(), p1.area, p1.bytes, p1.l⟩ : journal_Journal), BF b01 68 (ko_disk_Disk_0_1 w1_0 w1_1) (⟨[], [], p3.fuse, p3.dead⟩ : disk_Disk), RowF w1_0 100 (karr 256 (kint .u8)) p3.firm, RowF w1_1 102 k_disk_write p3.loose] → ¬ ok c) (nd : (idsOf [BF b00 70 (ko_journal_Journal_0 (.pointer (some ⟨b01, 0, none⟩))) (⟨(), p1.area, p1.bytes, p1.l⟩ : journal_Journal), BF b01 68 (ko_disk_Disk_0_1 w1_0 w1_1) (⟨[], [], p3.fuse, p3.dead⟩ : disk_Disk), RowF w1_0 100 (karr 256 (kint .u8)) p3.firm, RowF w1_1 102 k_disk_write p3.loose]).Nodup) (u0 : (ptrB b00 0).holds ok w0 z0) (u1 : ((kint .i64).V p2).holds ok w0 z1) :
 GivesX Tryd.prog 35 [z0, z1] ok w0 [BF b00 70 (ko_journal_Journal_0 (.pointer (some ⟨b01, 0, none⟩))) (⟨(), p1.area, p1.bytes, p1.l⟩ : journal_Journal), BF b01 68 (ko_disk_Disk_0_1 w1_0 w1_1) (⟨[], [], p3.fuse, p3.dead⟩ : disk_Disk), RowF w1_0 100 (karr 256 (kint .u8)) p3.firm, RowF w1_1 102 k_disk_write p3.loose] (fun g : Unit => resFact [kstr.V r]) (fun g : Unit => [BF b00 70 (ko_journal_Journal_0 (.pointer (some ⟨b01, 0, none⟩))) (⟨(), p1.area, p1.bytes, p1.l⟩ : journal_Journal), BF b01 68 (ko_disk_Disk_0_1 w1_0 w1_1) (⟨[], [], p3.fuse, p3.dead⟩ : disk_Disk), RowF w1_0 100 (karr 256 (kint .u8)) p3.firm, RowF w1_1 102 k_disk_write p3.loose]) := by
 unfold journal_Journal_read at h0
 refine enterX (N := 34) Tryd.func35 rfl rfl (of_decide_eq_true rfl) (.cons u0 (.cons u1 .nil)) nd l0 d0 fun a1 s1 => ?_
 refine wp_seq_k fun K1 hK1 => wp_region_lit (qs s1 (.c1 rfl (ob_assign rfl (opd_str (by rfl) (by decide))) (.ce (u 0 rfl (u 1 rfl .nil)))) fun _ _ s3 => wn hK1 ?_); clear s1
 refine wp_seq_k fun K2 hK2 => wp_region_lit ?_
 have s4 := St.adopt s3 (G := RowF (nilRow 3) 5 (kint .u8) []) rfl (rowNilN _ _ _ _ _); clear s3
 refine qx (B' := (fun b1 : Nat => [BF b1 106 (ko_strings_Builder_1 b1 (nilRow 3)) (⟨false, []⟩ : strings_Builder), RowF (nilRow 3) 5 (kint .u8) ([] : (List Int)), BF b00 70 (ko_journal_Journal_0 (.pointer (some ⟨b01, 0, none⟩))) (⟨(), p1.area, p1.bytes, p1.l⟩ : journal_Journal), BF b01 68 (ko_disk_Disk_0_1 w1_0 w1_1) (⟨[], [], p3.fuse, p3.dead⟩ : disk_Disk), RowF w1_0 100 (karr 256 (kint .u8)) p3.firm, RowF w1_1 102 k_disk_write p3.loose])) s4 rfl (ob_newAt (kk := fun b => (ko_strings_Builder_1 b (nilRow 3))) (agg := true) rfl (fun _ => rfl) zz106 (fun _ => (Zr.iso (f := to_strings_Builder_1) (x := (⟨false, []⟩ : strings_Builder)) (Zr.pair (Zr.bad _) (Zr.pair (Zr.kis 3) Zr.nil))))) fun b1 _ _ s5 => ?_; clear s4
 refine wn hK2 ?_
 have s6 := s5.sub (u 0 rfl (u 1 rfl (u 5 rfl .nil))); clear s5
 refine wp_seq_k fun K3 hK3 => wp_seq_k fun K4 hK4 => ?_
 refine wp_region_lit (qs s6 (.c1 rfl (ob_assign rfl (opd_int rfl)) (.ce (u 0 rfl (u 1 rfl (u 5 rfl (u 6 rfl .nil)))))) fun _ _ s8 => wn hK4 ?_); clear s6
 have hj1 : ∀ (y1 : Bool) (y2 : (List Int)) (v1 : Value) (a : Act) (w : World), (journal_Journal_read.j1 k p2) y1 y2 = some r → St ⟨34, w0, ok, (idsOf [BF b00 70 (ko_journal_Journal_0 (.pointer (some ⟨b01, 0, none⟩))) (⟨(), p1.area, p1.bytes, p1.l⟩ : journal_Journal), BF b01 68 (ko_disk_Disk_0_1 w1_0 w1_1) (⟨[], [], p3.fuse, p3.dead⟩ : disk_Disk), RowF w1_0 100 (karr 256 (kint .u8)) p3.firm, RowF w1_1 102 k_disk_write p3.loose])⟩ [BF b1 106 (ko_strings_Builder_1 b1 v1) (⟨y1, []⟩ : strings_Builder), BF b00 70 (ko_journal_Journal_0 (.pointer (some ⟨b01, 0, none⟩))) (⟨(), p1.area, p1.bytes, p1.l⟩ : journal_Journal), BF b01 68 (ko_disk_Disk_0_1 w1_0 w1_1) (⟨[], [], p3.fuse, p3.dead⟩ : disk_Disk), RowF v1 5 (kint .u8) y2, RowF w1_0 100 (karr 256 (kint .u8)) p3.firm, RowF w1_1 102 k_disk_write p3.loose] [(1, ((kint .i64).V p2)), (5, (ptrB b1 0))] a w → K3 a w := by
  intro y1 y2 v1 a9 w9 h1 s9
  unfold journal_Journal_read.j1 at h1
  refine hK3 _ _ ?_
  refine wp_seq_k fun K5 hK5 => wp_region_lit ?_
  obtain ⟨x1, e_x1, h2⟩ := bind_some h1; clear h1
  refine qx (B' := (fun _ : Unit => [BF b00 70 (ko_journal_Journal_0 (.pointer (some ⟨b01, 0, none⟩))) (⟨(), p1.area, p1.bytes, p1.l⟩ : journal_Journal), BF b01 68 (ko_disk_Disk_0_1 w1_0 w1_1) (⟨[], [], p3.fuse, p3.dead⟩ : disk_Disk), RowF w1_0 100 (karr 256 (kint .u8)) p3.firm, RowF w1_1 102 k_disk_write p3.loose])) s9 rfl (ob_callL0 (args := [_]) (L := [_, _]) rfl .direct hb65 (toFront [] (toFront [_, _] (List.Perm.refl _))) (fun a w s => by exact c_strings_Builder_String k _ _ e_x1 _ _ _ _ _ (ownL s) (disL s) (nodL s) (s.arg (.tmp rfl))) (by exact fun _ => rfl)) fun _ _ _ s10 => ?_; clear s9
  obtain ⟨x2, e_x2, h3⟩ := bind_some h2; clear h2
  refine qs s10 (.c1 rfl (mv rfl rfl) (.c1 rfl (ob_cutStr rfl Tryd.underlying9 (.tmp rfl) .none (.some (.tmp rfl)) e_x2) (.c1 rfl (ob_assign rfl (.tmp rfl)) (.ce (u 4 rfl .nil))))) fun _ _ s14 => wn hK5 ?_; clear s10
  refine wp_ret ?_
  obtain rfl := Option.some.inj h3
  exact leaveXD (D := []) () s14 rfl (.inl rfl) rfl (.cons (.tmp rfl) .nil) rfl
 refine wp_block ?_
 have s15 := s8.perm (toFront [_, _] (toFront [] (toFront [_] (toFront [] (toFront [] (toFront [] (List.Perm.refl _))))))); clear s8
 refine wp_loop_fuel (fun m (q : Int × Bool × (List Int)) => journal_Journal_read.l1 k p2 p1 p3 m q.1 q.2.1 q.2.2) r (fun _ => rfl) (fun q a w => ∃ (v2 : Value), St ⟨34, w0, ok, (idsOf [BF b00 70 (ko_journal_Journal_0 (.pointer (some ⟨b01, 0, none⟩))) (⟨(), p1.area, p1.bytes, p1.l⟩ : journal_Journal), BF b01 68 (ko_disk_Disk_0_1 w1_0 w1_1) (⟨[], [], p3.fuse, p3.dead⟩ : disk_Disk), RowF w1_0 100 (karr 256 (kint .u8)) p3.firm, RowF w1_1 102 k_disk_write p3.loose])⟩ [BF b00 70 (ko_journal_Journal_0 (.pointer (some ⟨b01, 0, none⟩))) (⟨(), p1.area, p1.bytes, p1.l⟩ : journal_Journal), BF b1 106 (ko_strings_Builder_1 b1 v2) (⟨q.2.1, []⟩ : strings_Builder), BF b01 68 (ko_disk_Disk_0_1 w1_0 w1_1) (⟨[], [], p3.fuse, p3.dead⟩ : disk_Disk), RowF v2 5 (kint .u8) q.2.2, RowF w1_0 100 (karr 256 (kint .u8)) p3.firm, RowF w1_1 102 k_disk_write p3.loose] [(0, (ptrB b00 0)), (1, ((kint .i64).V p2)), (5, (ptrB b1 0)), (6, ((kint .i64).V q.1))] a w) ?_ k ((0 : Int), false, ([] : (List Int))) _ _ h0 ⟨(nilRow 3), (s15.sub (.cons rfl (.cons rfl (.cons rfl (.cons rfl .nil)))))⟩
 rintro n1 ⟨y3, y4, y5⟩ a16 w16 h4 ⟨v2, s16⟩ K6 hK6
 replace h4 : journal_Journal_read.l1 k p2 p1 p3 (n1 + 1) y3 y4 y5 = some r := h4; rw [journal_Journal_read.l1] at h4
 have h5 := h4; clear h4
 refine wp_seq_k fun K7 hK7 => wp_seq_k fun K8 hK8 => ?_
 refine wp_region_lit ?_
 obtain ⟨x3, e_x3, h6⟩ := bind_some h5; clear h5
 refine qx (B' := (fun v3 : Value => [BF b1 106 (ko_strings_Builder_1 b1 v3) (⟨x3.2.addr, []⟩ : strings_Builder), RowF v3 5 (kint .u8) x3.2.buf, BF b00 70 (ko_journal_Journal_0 (.pointer (some ⟨b01, 0, none⟩))) (⟨(), p1.area, p1.bytes, p1.l⟩ : journal_Journal), BF b01 68 (ko_disk_Disk_0_1 w1_0 w1_1) (⟨[], [], p3.fuse, p3.dead⟩ : disk_Disk), RowF w1_0 100 (karr 256 (kint .u8)) p3.firm, RowF w1_1 102 k_disk_write p3.loose])) s16 rfl (ob_callL0 (args := [_]) (L := [_, _]) rfl .direct hb62 (toFront [_] (toFront [_, _] (List.Perm.refl _))) (fun a w s => by exact c_strings_Builder_Len k _ _ e_x3 _ _ _ _ _ (ownL s) (disL s) (nodL s) (s.arg (.tmp rfl))) (by exact fun _ => rfl)) fun v3 _ _ s17 => ?_; clear s16
 refine qs s17 (.c1 rfl (mv rfl rfl) (.c1 rfl (ob_lss rfl (.tmp rfl) (.tmp rfl)) (.ce (u 0 rfl (u 1 rfl (u 5 rfl (u 6 rfl (u 11 rfl .nil)))))))) fun _ _ s20 => wn hK8 ?_; clear s17
 refine cond_split s20 (.tmp rfl) (fun hc1 => ?_) (fun hc1 => ?_)
 ·have h7 := ite_t hc1 h6; clear h6
  refine wp_skip ?_
  refine then_normal (hK7 _ _ ?_)
  have s21 := s20.sub (u 0 rfl (u 1 rfl (u 5 rfl (u 6 rfl .nil)))); clear s20
  refine wp_seq_k fun K9 hK9 => wp_block ?_
  refine wp_seq_k fun K10 hK10 => ?_
  obtain ⟨x4, e_x4, h8⟩ := bind_some h7; clear h7
  obtain ⟨x5, e_x5, h9⟩ := bind_some h8; clear h8
  refine wp_goes (Fs := [(ptrB b00 0), (ptrB b00 0), (ptrB b00 0), (ptrB b01 0), (ptrB b00 0), (ptrB b00 0), (ptrB b00 0), (ptrB b00 1), ((kint .i64).V p1.area), ((kint .i64).V y3), nofact, nofact, nofact, nofact, nofact, nofact]) (bits := [0, 1, 3, 7, 0, 0, 32, 96, 224, 0, 1008, 2047, 4095, 8191, 8191, 16383, 65535]) (m := 16) (todo := 1024) mx s21 ?_; clear s21
  refine goes_turn (B' := (fun _ : Unit => [BF b00 70 (ko_journal_Journal_0 (.pointer (some ⟨b01, 0, none⟩))) (⟨(), p1.area, p1.bytes, p1.l⟩ : journal_Journal), BF b01 68 (ko_disk_Disk_0_1 w1_0 w1_1) (⟨[], [], p3.fuse, p3.dead⟩ : disk_Disk), RowF w1_0 100 (karr 256 (kint .u8)) p3.firm, RowF w1_1 102 k_disk_write p3.loose, BF b1 106 (ko_strings_Builder_1 b1 v3) (⟨x3.2.addr, []⟩ : strings_Builder), RowF v3 5 (kint .u8) x3.2.buf])) (Fs' := (fun _ : Unit => setAll ([(ptrB b00 0), (ptrB b00 0), (ptrB b00 0), (ptrB b01 0), (ptrB b00 0), (ptrB b00 0), (ptrB b00 0), (ptrB b00 1), ((kint .i64).V p1.area), ((kint .i64).V y3), nofact, nofact, nofact, nofact, nofact, nofact]) [(10, ((kint .i64).V x4)), (11, (tup [(kstr.V x5.1), ((kint .i64).V x5.2)])), (12, (tup [(kstr.V x5.1), ((kint .i64).V x5.2)])), (13, (kstr.V x5.1)), (14, ((kint .i64).V x5.2)), (15, (kstr.V x5.1))])) 10 64512 2032 0 (by kernel_rfl) rfl rfl rfl (oc (av 0 rfl rfl Av.nil) rfl rfl (mv rfl rfl) (oc (an 0 rfl rfl rfl Av.nil) rfl rfl (ob_nilCheck rfl (.tmp rfl)) (oc (an 1 rfl rfl rfl Av.nil) rfl rfl (ob_fieldAddr (off' := 0) rfl Tryd.underlying70 rfl sz24 (by decide) (.tmp rfl) rfl) (oc (an 2 rfl rfl rfl Av.nil) rfl rfl (ob_loadRowV rfl (tkr24 _) (.tmp rfl) (.tail _ (.tail _ (.head _))) (lgo_journal_Journal_0_d (⟨(), p1.area, p1.bytes, p1.l⟩ : journal_Journal))) (oc (av 0 rfl rfl Av.nil) rfl rfl (mv rfl rfl) (oc (av 0 rfl rfl Av.nil) rfl rfl (mv rfl rfl) (oc (an 5 rfl rfl rfl Av.nil) rfl rfl (ob_nilCheck rfl (.tmp rfl)) (oc (an 6 rfl rfl rfl Av.nil) rfl rfl (ob_fieldAddr (off' := 1) rfl Tryd.underlying70 rfl sz3 (by decide) (.tmp rfl) rfl) (oc (an 7 rfl rfl rfl Av.nil) rfl rfl (ob_load rfl tk3 (.tmp rfl) (.tail _ (.tail _ (.head _))) (lgo_journal_Journal_0_area (⟨(), p1.area, p1.bytes, p1.l⟩ : journal_Journal))) (oc (av 6 rfl rfl Av.nil) rfl rfl (mv rfl rfl) (opsS_skip (by rfl) (opsS_skip (by rfl) (opsS_skip (by rfl) (opsS_skip (by rfl) (opsS_skip (by rfl) (opsS_skip (by rfl) opsS_nil)))))))))))))))) (.plain _ (an 4 rfl rfl rfl (an 8 rfl rfl rfl (an 9 rfl rfl rfl Av.nil))) rfl (fun _ => rfl) (fun R => ob_callL0 (args := [_, _, _]) (L := [_, _, _, _]) rfl .direct hb63 (toFront [_, _] (toFront [_, _] (toFront [_, _] (toFront [_, _] (List.Perm.refl _))))) (fun a w s => by exact c_journal_Journal_place k _ _ _ _ _ e_x4 _ _ _ _ _ _ _ _ _ (ownL s) (disL s) (nodL s) (s.arg (.tmp rfl)) (s.arg (.tmp rfl)) (s.arg (.tmp rfl))) (by exact fun _ => rfl))) (setAll_same (us := (fun _ : Unit => [(10, ((kint .i64).V x4)), (11, (tup [(kstr.V x5.1), ((kint .i64).V x5.2)])), (12, (tup [(kstr.V x5.1), ((kint .i64).V x5.2)])), (13, (kstr.V x5.1)), (14, ((kint .i64).V x5.2)), (15, (kstr.V x5.1))])) fun _ => by kernel_rfl) fun _ => ?_
  refine goes_last (by kernel_rfl) rfl (oc (av 0 rfl rfl Av.nil) rfl rfl (mv rfl rfl) (oc (an 0 rfl rfl rfl Av.nil) rfl rfl (ob_nilCheck rfl (.tmp rfl)) (oc (an 1 rfl rfl rfl Av.nil) rfl rfl (ob_fieldAddr (off' := 0) rfl Tryd.underlying70 rfl sz24 (by decide) (.tmp rfl) rfl) (oc (an 2 rfl rfl rfl Av.nil) rfl rfl (ob_loadRowV rfl (tkr24 _) (.tmp rfl) (.head _) (lgo_journal_Journal_0_d (⟨(), p1.area, p1.bytes, p1.l⟩ : journal_Journal))) (opsS_skip (by rfl) (opsS_skip (by rfl) (opsS_skip (by rfl) (opsS_skip (by rfl) (opsS_skip (by rfl) (opsS_skip (by rfl) (opsS_skip (by rfl) (oc (an 3 rfl rfl rfl (an 10 rfl rfl rfl Av.nil)) rfl rfl ((ob_lendG (L := [_, _, _]) (toFront [_] (toFront [_] (toFront [_] (List.Perm.refl _)))) (.cons (t := 18) rfl (lendObj (K' := k_disk_Disk) (X' := p3) (.head _) rfl (upo_disk_Disk_0_1 rfl (.row (LetAll.row (.tail _ (.head _)))) (.row (LetAll.row (.tail _ (.tail _ (.head _))))))) .nil) (Flat.res2 (Flat.V KFlat.str) (Flat.V (KFlat.int _))) (fun _ => ob_callD0 (args := [_, _]) rfl .direct hb31 (fun a w s => by exact c_disk_Disk_Read k _ _ _ e_x5 _ _ _ _ (s.arg (.tmp rfl)) (s.arg (.tmp rfl)))))) (oc (an 11 rfl rfl rfl Av.nil) rfl rfl (mv rfl rfl) (oc (an 12 rfl rfl rfl Av.nil) rfl rfl (ob_extract rfl (.tmp rfl) rfl) (oc (an 12 rfl rfl rfl Av.nil) rfl rfl (ob_extract rfl (.tmp rfl) rfl) (oc (an 13 rfl rfl rfl Av.nil) rfl rfl (ob_assign rfl (.tmp rfl)) opsS_nil)))))))))))))))) (out_old (t := 0) rfl rfl (out_old (t := 1) rfl rfl (out_old (t := 5) rfl rfl (out_old (t := 6) rfl rfl (out_new (i := 15) (by decide) rfl rfl (out_new (i := 14) (by decide) rfl rfl out_nil)))))) fun _ _ s22 => ?_
  refine qs s22 (.c1 rfl (ob_assign rfl (.tmp rfl)) (.ce (u 0 rfl (u 1 rfl (u 5 rfl (u 6 rfl (u 7 rfl .nil))))))) fun _ _ s24 => wn hK10 ?_; clear s22
  obtain ⟨x6, e_x6, h10⟩ := bind_some h9; clear h9
  refine wp_region_lit (qs s24 (.c1 rfl (mv rfl rfl) .cz) fun _ _ s25 => ?_); clear s24
  refine qx (B' := (fun v4 : Value => [BF b1 106 (ko_strings_Builder_1 b1 v4) (⟨x6.2.2.addr, []⟩ : strings_Builder), RowF v4 5 (kint .u8) x6.2.2.buf, BF b00 70 (ko_journal_Journal_0 (.pointer (some ⟨b01, 0, none⟩))) (⟨(), p1.area, p1.bytes, p1.l⟩ : journal_Journal), BF b01 68 (ko_disk_Disk_0_1 w1_0 w1_1) (⟨[], [], p3.fuse, p3.dead⟩ : disk_Disk), RowF w1_0 100 (karr 256 (kint .u8)) p3.firm, RowF w1_1 102 k_disk_write p3.loose])) s25 rfl (ob_callL0 (args := [_, _]) (L := [_, _]) rfl .direct hb64 (toFront [_, _, _, _] (toFront [_, _, _, _] (List.Perm.refl _))) (fun a w s => by exact c_strings_Builder_WriteString k _ _ _ e_x6 _ _ _ _ _ _ (ownL s) (disL s) (nodL s) (s.arg (.tmp rfl)) (s.arg (.tmp rfl))) (by exact fun _ => rfl)) fun v4 _ _ s26 => ?_; clear s25
  refine wpList_nil ?_
  refine in_normal ?_
  refine then_normal (hK9 _ _ ?_)
  have s27 := s26.sub (u 0 rfl (u 1 rfl (u 5 rfl (u 6 rfl .nil)))); clear s26
  refine wp_region_lit (qs s27 (.c1 rfl (mv rfl rfl) (.c1 rfl (ob_add rfl (.tmp rfl) (opd_int rfl)) (.c1 rfl (ob_assign rfl (.tmp rfl)) .cz))) fun _ _ s30 => ?_); clear s27
  refine wpList_nil ?_
  refine then_normal ?_
  have s31 := s30.perm (toFront [_, _] (toFront [] (toFront [_] (toFront [] (toFront [] (toFront [] (List.Perm.refl _))))))); clear s30
  exact hK6 ((iadd .i64 y3 (1 : Int)), x6.2.2.addr, x6.2.2.buf) _ _ h10 ⟨v4, (s31.sub (.cons rfl (.cons rfl (.cons rfl (.cons rfl .nil)))))⟩
 ·have h11 := ite_f hc1 h6; clear h6
  refine wp_exit ?_
  refine (then_exit (then_exit (in_here ?_)))
  refine then_normal ?_
  have s32 := s20.perm (toFront [] (toFront [_] (toFront [_] (toFront [] (toFront [] (toFront [] (List.Perm.refl _))))))); clear s20
  exact hj1 x3.2.addr x3.2.buf v3 _ _ h11 (s32.sub (.cons rfl (.cons rfl .nil)))
theorem c_wire_NewReader (k : Nat) (p1 : (List Int)) (r : wire_Reader) (h0 : wire_NewReader k p1 = some r) (ok : Ok) (w0 : World) (z0 : Value) (u0 : (kstr.V p1).holds ok w0 z0) :
 GivesX Tryd.prog 66 [z0] ok w0 [] (fun g : Nat => resFact [ptrB g 0]) (fun g : Nat => [BF g 129 k_wire_Reader r]) := by
 unfold wire_NewReader at h0
 refine enterX (N := 6) Tryd.func66 rfl rfl (of_decide_eq_true rfl) (.cons u0 .nil) List.nodup_nil (fun _ h => by cases h) (fun _ h => by cases h) fun a1 s1 => ?_
 refine wp_seq_k fun K1 hK1 => wp_region_lit (qs s1 (.c1 rfl (ob_assign rfl opd_is) (.ce (u 0 rfl .nil))) fun _ _ s3 => wn hK1 ?_); clear s1
 refine wp_seq_k fun K2 hK2 => wp_region_lit (qs s3 (.c1 rfl (mv rfl rfl) (.c1 rfl (ob_mkStruct (K := k_wire_Reader) (X0 := (⟨[], (0 : Int)⟩ : wire_Reader)) rfl Tryd.underlying129 zz129 rfl pl129 (Zr.iso (f := t_wire_Reader) (x := (⟨[], (0 : Int)⟩ : wire_Reader)) (Zr.pair Zr.str (Zr.pair (Zr.int .i64) Zr.nil))) (.cons (.tmp rfl) rfl (ls_wire_Reader_s (⟨[], (0 : Int)⟩ : wire_Reader) p1) (.nil _))) .cz)) fun _ _ s5 => ?_); clear s3
 refine qx (B' := (fun b1 : Nat => [BF b1 129 k_wire_Reader (⟨p1, (0 : Int)⟩ : wire_Reader)])) s5 rfl (ob_box rfl (.tmp rfl)) fun b1 _ _ s6 => ?_; clear s5
 refine qs s6 (.c1 rfl (ob_assign rfl (.tmp rfl)) (.ce (u 2 rfl .nil))) fun _ _ s8 => wn hK2 ?_; clear s6
 refine wp_ret ?_
 obtain rfl := Option.some.inj h0
 exact leaveXD (D := []) b1 s8 rfl (.inl rfl) rfl (.cons (.tmp rfl) .nil) rfl
theorem c_wire_Reader_Left (k : Nat) (p1 : wire_Reader) (r : Int) (h0 : wire_Reader_Left k p1 = some r) (ok : Ok) (w0 : World) (z0 : Value) (u0 : (ptrTo k_wire_Reader p1).holds ok w0 z0) :
 Gives Tryd.prog 67 [z0] ok w0 (resFact [(kint .i64).V r]) := by
 unfold wire_Reader_Left at h0
 refine enter (N := 8) Tryd.func67 rfl rfl (of_decide_eq_true rfl) (.cons u0 .nil) fun a1 s1 => ?_
 refine wp_seq_k fun K1 hK1 => wp_region_lit (qs s1 (.c1 rfl (ob_assign rfl (opd_int rfl)) (.ce (u 0 rfl .nil))) fun _ _ s3 => wn hK1 ?_); clear s1
 refine wp_seq_k fun K2 hK2 => wp_region_lit (qs s3 (.c1 rfl (mv rfl rfl) (.c1 rfl (ob_nilCheckr rfl (.tmp rfl)) (.c1 rfl (ob_fieldAddrr rfl Tryd.underlying129 rfl sz9 (by decide) (.tmp rfl) (lg_wire_Reader_s p1)) (.c1 rfl (ob_loadr rfl tk9 (.tmp rfl)) (.c1 rfl (ob_lenStr rfl Tryd.underlying9 (.tmp rfl)) (.c1 rfl (ob_assign rfl (.tmp rfl)) (.ce (u 2 rfl .nil)))))))) fun _ _ s10 => wn hK2 ?_); clear s3
 refine wp_ret ?_
 obtain rfl := Option.some.inj h0
 exact leave s10 (.inl rfl) rfl (.cons (.tmp rfl) .nil)
theorem c_wire_Reader_End (k : Nat) (p1 : wire_Reader) (r : Int) (h0 : wire_Reader_End k p1 = some r) (ok : Ok) (w0 : World) (z0 : Value) (u0 : (ptrTo k_wire_Reader p1).holds ok w0 z0) :
 Gives Tryd.prog 68 [z0] ok w0 (resFact [(kint .i64).V r]) := by
 unfold wire_Reader_End at h0
 refine enter (N := 20) Tryd.func68 rfl rfl (of_decide_eq_true rfl) (.cons u0 .nil) fun a1 s1 => ?_
 refine wp_seq_k fun K1 hK1 => wp_region_lit (qs s1 (.c1 rfl (ob_assign rfl (opd_int rfl)) (.ce (u 0 rfl .nil))) fun _ _ s3 => wn hK1 ?_); clear s1
 refine wp_seq_k fun K2 hK2 => wp_seq_k fun K3 hK3 => ?_
 obtain ⟨x1, e_x1, h1⟩ := bind_some h0; clear h0; replace e_x1 := Option.some.inj e_x1
 refine wp_region_lit (qs s3 (.c1 rfl (mv rfl rfl) (.c1 rfl (ob_nilCheckr rfl (.tmp rfl)) (.c1 rfl (ob_fieldAddrr rfl Tryd.underlying129 rfl sz27 (by decide) (.tmp rfl) (lg_wire_Reader_err p1)) (.c1 rfl (ob_loadr rfl tk27 (.tmp rfl)) (.c1 rfl (ob_eql rfl (.tmp rfl) (opd_int rfl)) (.c1 rfl (mv rfl rfl) (.cg rfl rfl rfl rfl (fun hb => ob_move rfl (.tmp rfl)) (.cg rfl rfl rfl rfl (fun hb => (Ob.uncond (t := 9) hb rfl (ob_nilCheckr rfl (.tmp rfl)))) (.cg rfl rfl rfl rfl (fun hb => (Ob.uncond (t := 10) hb rfl (ob_fieldAddrr rfl Tryd.underlying129 rfl sz9 (by decide) (.tmp rfl) (lg_wire_Reader_s p1)))) (.cg rfl rfl rfl rfl (fun hb => (Ob.uncond (t := 11) hb rfl (ob_loadr rfl tk9 (.tmp rfl)))) (.cg rfl rfl rfl rfl (fun hb => (Ob.uncond (t := 12) hb rfl (ob_lenStr rfl Tryd.underlying9 (.tmp rfl)))) (.cg rfl rfl rfl rfl (fun hb => (Ob.uncond (t := 13) hb rfl (ob_gtr rfl (.tmp rfl) (opd_int rfl)))) (.c1 rfl ((ob_and2 rfl (.tmp rfl) (.tmp rfl) opd_bool).nm e_x1) (.ce (u 0 rfl (u 15 rfl .nil)))))))))))))))) fun _ _ s17 => wn hK3 ?_); clear s3
 refine cond_split s17 (.tmp rfl) (fun hc1 => ?_) (fun hc1 => ?_)
 ·have h2 := ite_t hc1 h1; clear h1
  refine wp_seq_k fun K4 hK4 => wp_region_lit (qs s17 (.c1 rfl (ob_assign rfl (opd_int rfl)) (.ce (u 2 rfl .nil))) fun _ _ s19 => wn hK4 ?_); clear s17
  refine wp_ret ?_
  obtain rfl := Option.some.inj h2
  exact leave s19 (.inl rfl) rfl (.cons (.tmp rfl) .nil)
 ·have h3 := ite_f hc1 h1; clear h1
  refine wp_skip ?_
  refine then_normal (hK2 _ _ ?_)
  have s20 := s17.sub (u 0 rfl .nil); clear s17
  refine wp_seq_k fun K5 hK5 => wp_region_lit (qs s20 (.c1 rfl (mv rfl rfl) (.c1 rfl (ob_nilCheckr rfl (.tmp rfl)) (.c1 rfl (ob_fieldAddrr rfl Tryd.underlying129 rfl sz27 (by decide) (.tmp rfl) (lg_wire_Reader_err p1)) (.c1 rfl (ob_loadr rfl tk27 (.tmp rfl)) (.c1 rfl (ob_assign rfl (.tmp rfl)) (.ce (u 2 rfl .nil))))))) fun _ _ s26 => wn hK5 ?_); clear s20
  refine wp_ret ?_
  obtain rfl := Option.some.inj h3
  exact leave s26 (.inl rfl) rfl (.cons (.tmp rfl) .nil)
theorem c_wire_Reader_number (k : Nat) (p1 : wire_Reader) (r : (Int × Int × Int)) (h0 : wire_Reader_number k p1 = some r) (ok : Ok) (w0 : World) (z0 : Value) (u0 : (ptrTo k_wire_Reader p1).holds ok w0 z0) :
 Gives Tryd.prog 94 [z0] ok w0 (resFact [(kint .u32).V r.1, (kint .i64).V r.2.1, (kint .i64).V r.2.2]) := by
 unfold wire_Reader_number at h0
 refine enter (N := 53) Tryd.func94 rfl rfl (of_decide_eq_true rfl) (.cons u0 .nil) fun a1 s1 => ?_
 refine wp_seq_k fun K1 hK1 => wp_region_lit (qs s1 (.c1 rfl (ob_assign rfl (opd_int rfl)) (.c1 rfl (ob_assign rfl (opd_int rfl)) (.c1 rfl (ob_assign rfl (opd_int rfl)) (.ce (u 0 rfl .nil))))) fun _ _ s5 => wn hK1 ?_); clear s1
 refine wp_scope_straight ?_
 refine wp_seq_k fun K2 hK2 => wp_region_lit (qs s5 (.c1 rfl (ob_assign rfl (opd_int rfl)) (.ce (u 0 rfl (u 5 rfl .nil)))) fun _ _ s7 => wn hK2 ?_); clear s5
 refine wp_seq_k fun K3 hK3 => wp_region_lit (qs s7 (.c1 rfl (ob_assign rfl (opd_int rfl)) (.ce (u 0 rfl (u 5 rfl (u 6 rfl .nil))))) fun _ _ s9 => wn hK3 ?_); clear s7
 refine wp_seq_k fun K4 hK4 => ?_
 refine wp_label ?_
 refine then_normal (hK4 _ _ ?_)
 have s10 := s9.sub (u 0 rfl (u 5 rfl (u 6 rfl .nil))); clear s9
 refine wp_seq_k fun K5 hK5 => wp_seq_k fun K6 hK6 => ?_
 refine wp_region_lit (qs s10 (.c1 rfl (mv rfl rfl) (.c1 rfl (ob_nilCheckr rfl (.tmp rfl)) (.c1 rfl (ob_fieldAddrr rfl Tryd.underlying129 rfl sz9 (by decide) (.tmp rfl) (lg_wire_Reader_s p1)) (.c1 rfl (ob_loadr rfl tk9 (.tmp rfl)) (.c1 rfl (ob_lenStr rfl Tryd.underlying9 (.tmp rfl)) (.c1 rfl (ob_move rfl (opd_int rfl)) (.ce (u 0 rfl (u 5 rfl (u 6 rfl (u 13 rfl (u 14 rfl .nil)))))))))))) fun _ _ s17 => wn hK6 ?_); clear s10
 have hj1 : ∀ (y1 : Int) (a : Act) (w : World), (wire_Reader_number.j1 k) y1 = some r → St ⟨53, w0, ok, []⟩ [] [(6, ((kint .i64).V y1))] a w → K5 a w := by
  intro y1 a18 w18 h1 s18
  unfold wire_Reader_number.j1 at h1
  refine hK5 _ _ ?_
  refine wp_seq_k fun K7 hK7 => wp_region_lit (qs s18 (.c1 rfl (mv rfl rfl) (.c1 rfl (ob_assign rfl (opd_int rfl)) (.c1 rfl (ob_assign rfl (opd_int rfl)) (.c1 rfl (ob_assign rfl (.tmp rfl)) (.ce (u 2 rfl (u 3 rfl (u 4 rfl .nil)))))))) fun _ _ s23 => wn hK7 ?_); clear s18
  refine wp_ret ?_
  obtain rfl := Option.some.inj h1
  exact leave s23 (.inl rfl) rfl (.cons (.tmp rfl) (.cons (.tmp rfl) (.cons (.tmp rfl) .nil)))
 refine wp_block ?_
 refine wp_loop_fuel (fun m (q : Int × Int) => wire_Reader_number.l1 k p1 m q.1 q.2) r (fun _ => rfl) (fun q a w => St ⟨53, w0, ok, []⟩ [] [(0, (ptrTo k_wire_Reader p1)), (5, ((kint .u64).V q.1)), (6, ((kint .i64).V (3 : Int))), (13, ((kint .i64).V (p1.s.length : Int))), (14, ((kint .i64).V q.2))] a w) ?_ k ((0 : Int), (0 : Int)) _ _ h0 (s17.sub (.cons rfl (.cons rfl (.cons rfl (.cons rfl (.cons rfl .nil))))))
 rintro n1 ⟨y2, y3⟩ a24 w24 h2 s24 K8 hK8
 replace h2 : wire_Reader_number.l1 k p1 (n1 + 1) y2 y3 = some r := h2; rw [wire_Reader_number.l1] at h2
 have h3 := h2; clear h2
 refine wp_seq_k fun K9 hK9 => wp_region_lit (qs s24 (.c1 rfl (ob_lss rfl (.tmp rfl) (.tmp rfl)) (.ce (u 0 rfl (u 5 rfl (u 6 rfl (u 13 rfl (u 14 rfl (u 15 rfl .nil)))))))) fun _ _ s26 => wn hK9 ?_); clear s24
 refine wp_seq_k fun K10 hK10 => ?_
 refine cond_split s26 (.tmp rfl) (fun hc1 => ?_) (fun hc1 => ?_)
 ·have h4 := ite_t hc1 h3; clear h3
  refine wp_skip ?_
  refine then_normal (hK10 _ _ ?_)
  have s27 := s26.sub (u 0 rfl (u 5 rfl (u 6 rfl (u 13 rfl (u 14 rfl .nil))))); clear s26
  refine wp_seq_k fun K11 hK11 => wp_block ?_
  refine wp_seq_k fun K12 hK12 => wp_region_lit (qs s27 (.c1 rfl (mv rfl rfl) (.c1 rfl (ob_assign rfl (.tmp rfl)) (.ce (u 0 rfl (u 5 rfl (u 6 rfl (u 7 rfl (u 13 rfl (u 14 rfl .nil))))))))) fun _ _ s30 => wn hK12 ?_); clear s27
  obtain ⟨x1, e_x1, h5⟩ := bind_some h4; clear h4
  refine wp_seq_k fun K13 hK13 => wp_region_lit (qs s30 (.c1 rfl (mv rfl rfl) (.c1 rfl (ob_nilCheckr rfl (.tmp rfl)) (.c1 rfl (ob_fieldAddrr rfl Tryd.underlying129 rfl sz9 (by decide) (.tmp rfl) (lg_wire_Reader_s p1)) (.c1 rfl (ob_loadr rfl tk9 (.tmp rfl)) (.c1 rfl (mv rfl rfl) (.c1 rfl (ob_indexStr rfl Tryd.underlying9 (.tmp rfl) (.tmp rfl) e_x1) (.c1 rfl (ob_assign rfl (.tmp rfl)) (.ce (u 0 rfl (u 5 rfl (u 6 rfl (u 7 rfl (u 8 rfl (u 13 rfl (u 14 rfl .nil))))))))))))))) fun _ _ s38 => wn hK13 ?_); clear s30
  obtain ⟨x2, e_x2, h6⟩ := bind_some h5; clear h5; replace e_x2 := Option.some.inj e_x2
  refine wp_seq_k fun K14 hK14 => wp_region_lit (qs s38 (.c1 rfl (mv rfl rfl) (.c1 rfl (ob_shl rfl (.tmp rfl) (opd_int rfl) (by decide)) (.c1 rfl (mv rfl rfl) (.c1 rfl (ob_andNot rfl (.tmp rfl) (opd_int rfl)) (.c1 rfl (ob_conv rfl _ Tryd.underlying5 Tryd.underlying123 (.tmp rfl)) (.c1 rfl ((ob_or rfl (.tmp rfl) (.tmp rfl)).nm e_x2) (.c1 rfl (ob_assign rfl (.tmp rfl)) (.ce (u 0 rfl (u 5 rfl (u 6 rfl (u 7 rfl (u 8 rfl (u 13 rfl (u 14 rfl .nil))))))))))))))) fun _ _ s46 => wn hK14 ?_); clear s38
  refine wp_block ?_
  refine wp_seq_k fun K15 hK15 => wp_seq_k fun K16 hK16 => ?_
  refine wp_region_lit (qs s46 (.c1 rfl (mv rfl rfl) (.c1 rfl (ob_eql rfl (.tmp rfl) (opd_int rfl)) (.c1 rfl (mv rfl rfl) (.cg rfl rfl rfl rfl (fun hb => ob_move rfl (.tmp rfl)) (.cg rfl rfl rfl rfl (fun hb => (Ob.uncond (t := 33) hb rfl (ob_eql rfl (.tmp rfl) (opd_int rfl)))) (.c1 rfl (ob_and2 rfl (.tmp rfl) (.tmp rfl) opd_bool) (.c1 rfl (ob_assign rfl (.tmp rfl)) (.ce (u 0 rfl (u 5 rfl (u 6 rfl (u 7 rfl (u 8 rfl (u 13 rfl (u 14 rfl (u 29 rfl .nil)))))))))))))))) fun _ _ s54 => wn hK16 ?_); clear s46
  have hj2 : ∀ (y4 : Bool) (a : Act) (w : World), (wire_Reader_number.j2 k x1 x2 y3 (wire_Reader_number.l1 k p1 n1)) y4 = some r → St ⟨53, w0, ok, []⟩ [] [(0, (ptrTo k_wire_Reader p1)), (5, ((kint .u64).V x2)), (6, ((kint .i64).V (3 : Int))), (7, ((kint .i64).V y3)), (8, ((kint .u8).V x1)), (13, ((kint .i64).V (p1.s.length : Int))), (14, ((kint .i64).V y3)), (29, (kbool.V y4))] a w → K15 a w := by
   intro y4 a55 w55 h7 s55
   unfold wire_Reader_number.j2 at h7
   refine hK15 _ _ ?_
   refine cond_split s55 (.tmp rfl) (fun hc2 => ?_) (fun hc2 => ?_)
   ·have h8 := ite_t hc2 h7; clear h7
    refine wp_seq_k fun K17 hK17 => wp_region_lit (qs s55 (.c1 rfl (ob_assign rfl (opd_int rfl)) (.ce (u 6 rfl .nil))) fun _ _ s57 => wn hK17 ?_); clear s55
    refine wp_exit ?_
    refine (in_other (by decide) (in_other (by decide) (then_exit (then_exit (in_here ?_)))))
    refine then_normal ?_
    exact hj1 (4 : Int) _ _ h8 (s57.sub (.cons rfl .nil))
   ·have h9 := ite_f hc2 h7; clear h7
    refine wp_seq_k fun K18 hK18 => wp_region_lit (qs s55 (.c1 rfl (mv rfl rfl) (.c1 rfl (ob_lss rfl (.tmp rfl) (opd_int rfl)) (.c1 rfl (ob_assign rfl (.tmp rfl)) (.ce (u 0 rfl (u 5 rfl (u 6 rfl (u 7 rfl (u 13 rfl (u 14 rfl (u 44 rfl .nil))))))))))) fun _ _ s61 => wn hK18 ?_); clear s55
    refine cond_split s61 (.tmp rfl) (fun hc3 => ?_) (fun hc3 => ?_)
    ·have h10 := ite_t hc3 h9; clear h9
     refine wp_seq_k fun K19 hK19 => wp_region_lit (qs s61 (.c1 rfl (mv rfl rfl) (.c1 rfl (ob_conv rfl _ Tryd.underlying123 Tryd.underlying116 (.tmp rfl)) (.c1 rfl (mv rfl rfl) (.c1 rfl (ob_add rfl (.tmp rfl) (opd_int rfl)) (.c1 rfl (ob_assign rfl (.tmp rfl)) (.c1 rfl (ob_assign rfl (.tmp rfl)) (.c1 rfl (ob_assign rfl (opd_int rfl)) (.ce (u 2 rfl (u 3 rfl (u 4 rfl .nil))))))))))) fun _ _ s69 => wn hK19 ?_); clear s61
     refine wp_ret ?_
     obtain rfl := Option.some.inj h10
     exact leave s69 (.inl rfl) rfl (.cons (.tmp rfl) (.cons (.tmp rfl) (.cons (.tmp rfl) .nil)))
    ·have h11 := ite_f hc3 h9; clear h9
     refine wp_skip ?_
     refine in_normal ?_
     refine in_normal ?_
     refine then_normal (hK11 _ _ ?_)
     have s70 := s61.sub (u 0 rfl (u 5 rfl (u 6 rfl (u 13 rfl (u 14 rfl (u 44 rfl .nil)))))); clear s61
     refine wp_region_lit (qs s70 (.c1 rfl (ob_add rfl (.tmp rfl) (opd_int rfl)) (.c1 rfl (mv rfl rfl) .cz)) fun _ _ s72 => ?_); clear s70
     refine wpList_nil ?_
     refine then_normal ?_
     exact hK8 (x2, (iadd .i64 y3 (1 : Int))) _ _ h11 (s72.sub (.cons rfl (.cons rfl (.cons rfl (.cons rfl (.cons rfl .nil))))))
  refine cond_split s54 (.tmp rfl) (fun hc4 => ?_) (fun hc4 => ?_)
  ·have h12 := ite_t hc4 h6; clear h6
   refine wp_skip ?_
   refine then_normal ?_
   exact hj2 (if (x1 == (128 : Int)) then (y3 == (0 : Int)) else false) _ _ h12 (s54.sub (.cons rfl (.cons rfl (.cons rfl (.cons rfl (.cons rfl (.cons rfl (.cons rfl (.cons rfl .nil)))))))))
  ·have h13 := ite_f hc4 h6; clear h6
   refine wp_seq_k fun K20 hK20 => wp_region_lit (qs s54 (.c1 rfl (mv rfl rfl) (.c1 rfl (ob_geq rfl (.tmp rfl) (opd_int rfl)) (.c1 rfl (ob_assign rfl (.tmp rfl)) (.ce (u 0 rfl (u 5 rfl (u 6 rfl (u 7 rfl (u 8 rfl (u 13 rfl (u 14 rfl (u 29 rfl .nil)))))))))))) fun _ _ s76 => wn hK20 ?_); clear s54
   refine cond_split s76 (.tmp rfl) (fun hc5 => ?_) (fun hc5 => ?_)
   ·have h14 := ite_t hc5 h13; clear h13
    refine wp_skip ?_
    refine then_normal ?_
    exact hj2 (decide (x2 ≥ (4294967296 : Int))) _ _ h14 (s76.sub (.cons rfl (.cons rfl (.cons rfl (.cons rfl (.cons rfl (.cons rfl (.cons rfl (.cons rfl .nil)))))))))
   ·have h15 := ite_f hc5 h13; clear h13
    refine wp_region_lit (qs s76 (.c1 rfl (mv rfl rfl) (.c1 rfl (ob_eql rfl (.tmp rfl) (opd_int rfl)) (.c1 rfl (mv rfl rfl) (.cg rfl rfl rfl rfl (fun hb => ob_move rfl (.tmp rfl)) (.cg rfl rfl rfl rfl (fun hb => (Ob.uncond (t := 41) hb rfl (ob_geq rfl (.tmp rfl) (opd_int rfl)))) (.c1 rfl (ob_and2 rfl (.tmp rfl) (.tmp rfl) opd_bool) (.c1 rfl (ob_assign rfl (.tmp rfl)) .cz))))))) fun _ _ s83 => ?_); clear s76
    refine wpList_nil ?_
    refine then_normal ?_
    exact hj2 (if (y3 == (4 : Int)) then (decide (x1 ≥ (128 : Int))) else false) _ _ h15 (s83.sub (.cons rfl (.cons rfl (.cons rfl (.cons rfl (.cons rfl (.cons rfl (.cons rfl (.cons rfl .nil)))))))))
 ·have h16 := ite_f hc1 h3; clear h3
  refine wp_exit ?_
  refine (then_exit (then_exit (in_here ?_)))
  refine then_normal ?_
  exact hj1 (3 : Int) _ _ h16 (s26.sub (.cons rfl .nil))
end Go.Proofs.YtjbjladhgmknnaaDoor
