/- Several parts of this proof in one file. No condition. -/
import Derived.Test.YtjbjladhgmknnaaDoorOWk4
namespace Go.Proofs.YtjbjladhgmknnaaDoor
open Go Go.RowKit Go.Proofs.Kit Go.Proofs.Pure
set_option linter.unusedVariables false
set_option linter.unusedSimpArgs false
set_option maxRecDepth 100000
set_option maxHeartbeats 2000000
theorem c_cabalref13_Open (k : Nat) (p1 : cabalref12_Disk) (r : (Bool × cabalref13_Journal × Int × cabalref12_Disk)) (h0 : cabalref13_Open k p1 = some r) (ok : Ok) (w0 : World) (z0 : Value) (b00 : Nat) (w0_0 : Value) (w0_1 : Value) (w0_2 : Value) (l0 : ∀ q, q ∈ [BF b00 49 (ko_cabalref12_Disk_0_1_2 w0_0 w0_1 w0_2) (⟨[], [], [], p1.Fuse, p1.Dead⟩ : cabalref12_Disk), RowF w0_0 9 kstr p1.Firm, RowF w0_1 3 (kint .i64) p1.At, RowF w0_2 9 kstr p1.Data] → q.holds ok w0) (d0 : ∀ c, c ∈ idsOf [BF b00 49 (ko_cabalref12_Disk_0_1_2 w0_0 w0_1 w0_2) (⟨[], [], [], p1.Fuse, p1.Dead⟩ : cabalref12_Disk), RowF w0_0 9 kstr p1.Firm, RowF w0_1 3 (kint .i64) p1.At, RowF w0_2 9 kstr p1.Data] → ¬ ok c) (nd : (idsOf [BF b00 49 (ko_cabalref12_Disk_0_1_2 w0_0 w0_1 w0_2) (⟨[], [], [], p1.Fuse, p1.Dead⟩ : cabalref12_Disk), RowF w0_0 9 kstr p1.Firm, RowF w0_1 3 (kint .i64) p1.At, RowF w0_2 9 kstr p1.Data]).Nodup) (u0 : (ptrB b00 0).holds ok w0 z0) :
 GivesX Tryd.prog 19 [z0] ok w0 [BF b00 49 (ko_cabalref12_Disk_0_1_2 w0_0 w0_1 w0_2) (⟨[], [], [], p1.Fuse, p1.Dead⟩ : cabalref12_Disk), RowF w0_0 9 kstr p1.Firm, RowF w0_1 3 (kint .i64) p1.At, RowF w0_2 9 kstr p1.Data] (fun g : Nat × Value × Value × Value => resFact [ptrO r.1 g.1, (kint .i64).V r.2.2.1]) (fun g : Nat × Value × Value × Value => [whenO r.1 (BF g.1 56 (ko_cabalref13_Journal_0 (.pointer (some ⟨b00, 0, none⟩))) (⟨(), r.2.1.Area, r.2.1.L⟩ : cabalref13_Journal)), BF b00 49 (ko_cabalref12_Disk_0_1_2 (g.2.1) (g.2.2.1) (g.2.2.2)) (⟨[], [], [], r.2.2.2.Fuse, r.2.2.2.Dead⟩ : cabalref12_Disk), RowF (g.2.1) 9 kstr r.2.2.2.Firm, RowF (g.2.2.1) 3 (kint .i64) r.2.2.2.At, RowF (g.2.2.2) 9 kstr r.2.2.2.Data]) := by
 unfold cabalref13_Open at h0
 refine enterX (N := 121) Tryd.func19 rfl rfl (of_decide_eq_true rfl) (.cons u0 .nil) nd l0 d0 fun a1 s1 => ?_
 refine wp_seq_k fun K1 hK1 => wp_region_lit (qs s1 (.c1 rfl (ob_assign rfl opd_is) (.c1 rfl (ob_assign rfl (opd_int rfl)) (.ce (u 0 rfl .nil)))) fun _ _ s4 => wn hK1 ?_); clear s1
 refine wp_seq_k fun K2 hK2 => wp_seq_k fun K3 hK3 => ?_
 refine wp_region_lit (qs s4 (.c1 rfl (mv rfl rfl) (.c1 rfl (ob_nilCheck rfl (.tmp rfl)) (.c1 rfl (ob_fieldAddr (off' := 0) rfl Tryd.underlying49 rfl sz30 (by decide) (.tmp rfl) rfl) (.c1 rfl (ob_loadRowV rfl (tkr30 _) (.tmp rfl) (.head _) (lgo_cabalref12_Disk_0_1_2_Firm (⟨[], [], [], p1.Fuse, p1.Dead⟩ : cabalref12_Disk))) (.c1 rfl (ob_lenRow rfl Tryd.underlying30 (.tmp rfl) (.tail _ (.head _))) (.c1 rfl (ob_lss rfl (.tmp rfl) (opd_int rfl)) (.ce (u 0 rfl (u 17 rfl .nil))))))))) fun _ _ s11 => wn hK3 ?_); clear s4
 refine cond_split s11 (.tmp rfl) (fun hc1 => ?_) (fun hc1 => ?_)
 ·have h1 := ite_t hc1 h0; clear h0
  refine wp_seq_k fun K4 hK4 => wp_region_lit (qs s11 (.c1 rfl (ob_assign rfl opd_is) (.c1 rfl (ob_assign rfl (opd_int rfl)) (.ce (u 2 rfl (u 3 rfl .nil))))) fun _ _ s14 => wn hK4 ?_); clear s11
  refine wp_ret ?_
  have s15 := St.addNo (q := BF 0 56 (ko_cabalref13_Journal_0 (.pointer (some ⟨b00, 0, none⟩))) (⟨(), (0 : Int), []⟩ : cabalref13_Journal)) s14; clear s14
  obtain rfl := Option.some.inj h1
  exact leaveXD (D := []) ⟨0, w0_0, w0_1, w0_2⟩ s15 rfl (.inl rfl) rfl (.cons (.tmp rfl) (.cons (.tmp rfl) .nil)) rfl
 ·have h2 := ite_f hc1 h0; clear h0
  refine wp_skip ?_
  refine then_normal (hK2 _ _ ?_)
  have s16 := s11.sub (u 0 rfl .nil); clear s11
  obtain ⟨x1, e_x1, h3⟩ := bind_some h2; clear h2
  obtain ⟨x2, e_x2, h4⟩ := bind_some h3; clear h3
  refine wp_seq_k fun K5 hK5 => wp_region_lit (qs s16 (.c1 rfl (mv rfl rfl) (.c1 rfl ((ob_lendG (L := [_, _, _, _]) (List.Perm.refl _) (.cons (t := 18) rfl (lendObj (K' := k_cabalref12_Disk) (X' := p1) (.head _) rfl (upo_cabalref12_Disk_0_1_2 rfl (.row (LetAll.row (.tail _ (.head _)))) (.row (LetAll.row (.tail _ (.tail _ (.head _))))) (.row (LetAll.row (.tail _ (.tail _ (.tail _ (.head _)))))))) .nil) (Flat.res1 (Flat.V KFlat.str)) (fun _ => ob_callD0 (args := [_, _]) rfl .direct hb53 (fun a w s => by exact c_cabalref12_Disk_Read k _ _ _ e_x1 _ _ _ _ (s.arg (.tmp rfl)) (s.arg (opd_int rfl)))))) (.c1 rfl (ob_cutStr rfl Tryd.underlying9 (.tmp rfl) .none (.some (opd_int rfl)) e_x2) (.c1 rfl (ob_assign rfl (.tmp rfl)) (.ce (u 0 rfl (u 4 rfl .nil))))))) fun _ _ s21 => wn hK5 ?_); clear s16
  refine wp_seq_k fun K6 hK6 => wp_seq_k fun K7 hK7 => ?_
  obtain ⟨x3, e_x3, h5⟩ := bind_some h4; clear h4
  refine wp_region_lit (qs s21 (.c1 rfl (mv rfl rfl) (.c1 rfl (ob_callD0 (args := [_, _]) rfl .direct hb47 (fun a w s => by exact c_cabalref13_filled k _ _ _ e_x3 _ _ _ _ (s.arg (opd_str (by rfl) (by decide))) (s.arg (opd_int rfl)))) (.c1 rfl (ob_seql rfl (.tmp rfl) (.tmp rfl)) (.ce (u 0 rfl (u 4 rfl (u 23 rfl .nil))))))) fun _ _ s25 => wn hK7 ?_); clear s21
  refine cond_split s25 (.tmp rfl) (fun hc2 => ?_) (fun hc2 => ?_)
  ·have h6 := ite_t hc2 h5; clear h5
   refine wp_seq_k fun K8 hK8 => wp_region_lit (qs s25 (.c1 rfl (mv rfl rfl) (.c1 rfl ((ob_mkObj (K0 := (ko_cabalref13_Journal_0 (.pointer none))) (K := (ko_cabalref13_Journal_0 (.pointer (some ⟨b00, 0, none⟩)))) (X := (⟨(), (0 : Int), []⟩ : cabalref13_Journal)) rfl Tryd.underlying56 zz56 rfl rfl pl56 (Zr.iso (f := to_cabalref13_Journal_0) (x := (⟨(), (0 : Int), []⟩ : cabalref13_Journal)) (Zr.pair Zr.nilPtr (Zr.pair (Zr.int .i64) (Zr.pair (Zr.sl _) Zr.nil)))) (.cons (.conv (.tmp rfl) (is_kis rfl rfl rfl)) rfl (lsk_cabalref13_Journal_0_to_0_at0 (⟨(), (0 : Int), []⟩ : cabalref13_Journal)) (.nil _ _)))) .cz)) fun _ _ s27 => ?_); clear s25
   refine qx (B' := (fun b2 : Nat => [BF b2 56 (ko_cabalref13_Journal_0 (.pointer (some ⟨b00, 0, none⟩))) (⟨(), (0 : Int), []⟩ : cabalref13_Journal), BF b00 49 (ko_cabalref12_Disk_0_1_2 w0_0 w0_1 w0_2) (⟨[], [], [], p1.Fuse, p1.Dead⟩ : cabalref12_Disk), RowF w0_0 9 kstr p1.Firm, RowF w0_1 3 (kint .i64) p1.At, RowF w0_2 9 kstr p1.Data])) s27 rfl (ob_box rfl (.tmp rfl)) fun b2 _ _ s28 => ?_; clear s27
   refine qs s28 (.c1 rfl (ob_assign rfl (.tmp rfl)) (.c1 rfl (ob_assign rfl (opd_int rfl)) (.ce (u 2 rfl (u 3 rfl .nil))))) fun _ _ s31 => wn hK8 ?_; clear s28
   refine wp_ret ?_
   have s32 := St.addYes (s31.perm (List.Perm.refl _)); clear s31
   obtain rfl := Option.some.inj h6
   exact leaveXD (D := []) ⟨b2, w0_0, w0_1, w0_2⟩ s32 rfl (.inl rfl) rfl (.cons (.tmp rfl) (.cons (.tmp rfl) .nil)) rfl
  ·have h7 := ite_f hc2 h5; clear h5
   refine wp_skip ?_
   refine then_normal (hK6 _ _ ?_)
   have s33 := s25.sub (u 0 rfl (u 4 rfl .nil)); clear s25
   obtain ⟨x4, e_x4, h8⟩ := bind_some h7; clear h7
   refine wp_seq_k fun K9 hK9 => wp_region_lit (qs s33 (.c1 rfl (mv rfl rfl) (.c1 rfl (ob_indexStr rfl Tryd.underlying9 (.tmp rfl) (opd_int rfl) e_x4) (.c1 rfl (ob_conv rfl _ Tryd.underlying5 Tryd.underlying3 (.tmp rfl)) (.c1 rfl (ob_assign rfl (.tmp rfl)) (.ce (u 0 rfl (u 4 rfl (u 5 rfl .nil)))))))) fun _ _ s38 => wn hK9 ?_); clear s33
   refine wp_seq_k fun K10 hK10 => ?_
   obtain ⟨x5, e_x5, h9⟩ := bind_some h8; clear h8
   obtain ⟨x6, e_x6, h10⟩ := bind_some h9; clear h9
   obtain ⟨x7, e_x7, h11⟩ := bind_some h10; clear h10; replace e_x7 := Option.some.inj e_x7
   obtain ⟨x8, e_x8, h12⟩ := bind_some h11; clear h11
   obtain ⟨x9, e_x9, h13⟩ := bind_some h12; clear h12
   refine wp_goes (Fs := [(kstr.V x2), ((kint .u8).V x5), ((kint .i64).V (IntKind.wrap .i64 x5)), ((kint .i64).V (imul .i64 (IntKind.wrap .i64 x5) (16777216 : Int))), (kstr.V x2), ((kint .u8).V x6), ((kint .i64).V (IntKind.wrap .i64 x6)), ((kint .i64).V (imul .i64 (IntKind.wrap .i64 x6) (65536 : Int))), ((kint .i64).V x7), (kstr.V x2), ((kint .u8).V x8), ((kint .i64).V (IntKind.wrap .i64 x8)), ((kint .i64).V (imul .i64 (IntKind.wrap .i64 x8) (256 : Int))), ((kint .i64).V (iadd .i64 x7 (imul .i64 (IntKind.wrap .i64 x8) (256 : Int)))), (kstr.V x2), ((kint .u8).V x9), ((kint .i64).V (IntKind.wrap .i64 x9))]) (bits := [0, 1, 3, 7, 0, 16, 48, 112, 255, 0, 512, 1536, 3584, 8191, 0, 16384, 49152, 131071, 262143]) (m := 17) (todo := 0) mx s38 ?_; clear s38
   refine goes_last (by kernel_rfl) rfl (oc (av 4 rfl rfl Av.nil) rfl rfl (mv rfl rfl) (oc (an 0 rfl rfl rfl Av.nil) rfl rfl (ob_indexStr rfl Tryd.underlying9 (.tmp rfl) (opd_int rfl) e_x5) (oc (an 1 rfl rfl rfl Av.nil) rfl rfl (ob_conv rfl _ Tryd.underlying5 Tryd.underlying3 (.tmp rfl)) (oc (an 2 rfl rfl rfl Av.nil) rfl rfl (ob_mul rfl (.tmp rfl) (opd_int rfl)) (oc (av 4 rfl rfl Av.nil) rfl rfl (mv rfl rfl) (oc (an 4 rfl rfl rfl Av.nil) rfl rfl (ob_indexStr rfl Tryd.underlying9 (.tmp rfl) (opd_int rfl) e_x6) (oc (an 5 rfl rfl rfl Av.nil) rfl rfl (ob_conv rfl _ Tryd.underlying5 Tryd.underlying3 (.tmp rfl)) (oc (an 6 rfl rfl rfl Av.nil) rfl rfl (ob_mul rfl (.tmp rfl) (opd_int rfl)) (oc (an 3 rfl rfl rfl (an 7 rfl rfl rfl Av.nil)) rfl rfl ((ob_add rfl (.tmp rfl) (.tmp rfl)).nm e_x7) (oc (av 4 rfl rfl Av.nil) rfl rfl (mv rfl rfl) (oc (an 9 rfl rfl rfl Av.nil) rfl rfl (ob_indexStr rfl Tryd.underlying9 (.tmp rfl) (opd_int rfl) e_x8) (oc (an 10 rfl rfl rfl Av.nil) rfl rfl (ob_conv rfl _ Tryd.underlying5 Tryd.underlying3 (.tmp rfl)) (oc (an 11 rfl rfl rfl Av.nil) rfl rfl (ob_mul rfl (.tmp rfl) (opd_int rfl)) (oc (an 8 rfl rfl rfl (an 12 rfl rfl rfl Av.nil)) rfl rfl (ob_add rfl (.tmp rfl) (.tmp rfl)) (oc (av 4 rfl rfl Av.nil) rfl rfl (mv rfl rfl) (oc (an 14 rfl rfl rfl Av.nil) rfl rfl (ob_indexStr rfl Tryd.underlying9 (.tmp rfl) (opd_int rfl) e_x9) (oc (an 15 rfl rfl rfl Av.nil) rfl rfl (ob_conv rfl _ Tryd.underlying5 Tryd.underlying3 (.tmp rfl)) opsS_nil))))))))))))))))) (out_old (t := 0) rfl rfl (out_old (t := 4) rfl rfl (out_old (t := 5) rfl rfl (out_new (i := 13) (by decide) rfl rfl (out_new (i := 16) (by decide) rfl rfl out_nil))))) fun _ _ s39 => ?_
   obtain ⟨x10, e_x10, h14⟩ := bind_some h13; clear h13; replace e_x10 := Option.some.inj e_x10
   refine qs s39 (.c1 rfl ((ob_add rfl (.tmp rfl) (.tmp rfl)).nm e_x10) (.c1 rfl (ob_assign rfl (.tmp rfl)) (.ce (u 0 rfl (u 4 rfl (u 5 rfl (u 6 rfl .nil))))))) fun _ _ s42 => wn hK10 ?_; clear s39
   refine wp_seq_k fun K11 hK11 => wp_seq_k fun K12 hK12 => ?_
   obtain ⟨x11, e_x11, h15⟩ := bind_some h14; clear h14
   obtain ⟨x12, e_x12, h16⟩ := bind_some h15; clear h15; replace e_x12 := Option.some.inj e_x12
   obtain ⟨x13, e_x13, h17⟩ := bind_some h16; clear h16
   refine wp_region_lit (qs s42 (.c1 rfl (mv rfl rfl) (.c1 rfl (ob_gtr rfl (.tmp rfl) (opd_int rfl)) (.c1 rfl (mv rfl rfl) (.cg rfl rfl rfl rfl (fun hb => ob_move rfl (.tmp rfl)) (.cg rfl rfl rfl rfl (fun hb => ob_move rfl (.tmp rfl)) (.cg rfl rfl rfl rfl (fun hb => ob_move rfl (.tmp rfl)) (.cg rfl rfl rfl rfl (fun hb => (Ob.uncond (t := 53) hb rfl ((Ob.uncond (t := 52) hb rfl (ob_callD0 (args := [_, _]) rfl .direct hb16 (fun a w s => by exact c_cabalref13_Mark k _ _ _ (ite_t hb e_x11) _ _ _ _ (s.arg (.tmp rfl)) (s.arg (.tmp rfl)))))))) (.cg rfl rfl rfl rfl (fun hb => (Ob.uncond (t := 54) hb rfl ((Ob.uncond (t := 51) hb rfl (ob_sneq rfl (.tmp rfl) (.tmp rfl)))))) (.c1 rfl ((ob_or2 rfl (.tmp rfl) opd_bool (.tmp rfl)).nm e_x12) (.c1 rfl (mv rfl rfl) (.cg rfl rfl rfl rfl (fun hb => ob_move rfl (.tmp rfl)) (.cg rfl rfl rfl rfl (fun hb => ob_move rfl (.tmp rfl)) (.cg rfl rfl rfl rfl (fun hb => (Ob.uncond (t := 59) hb rfl ((ob_lendG (L := [_, _, _, _]) (List.Perm.refl _) (.cons (t := 59) rfl (lendObj (K' := k_cabalref12_Disk) (X' := p1) (.head _) rfl (upo_cabalref12_Disk_0_1_2 rfl (.row (LetAll.row (.tail _ (.head _)))) (.row (LetAll.row (.tail _ (.tail _ (.head _))))) (.row (LetAll.row (.tail _ (.tail _ (.tail _ (.head _)))))))) .nil) (Flat.res1 (Flat.V (KFlat.int _))) (fun _ => ob_callD0 (args := [_]) rfl .direct hb18 (fun a w s => by exact c_cabalref13_Half k _ _ (ite_t hb e_x13) _ _ _ (s.arg (.tmp rfl)))))))) (.cg rfl rfl rfl rfl (fun hb => (Ob.uncond (t := 60) hb rfl (ob_mul rfl (.tmp rfl) (opd_int rfl)))) (.cg rfl rfl rfl rfl (fun hb => (Ob.uncond (t := 61) hb rfl ((Ob.uncond (t := 58) hb rfl (ob_gtr rfl (.tmp rfl) (.tmp rfl)))))) (.c1 rfl (ob_or2 rfl (.tmp rfl) opd_bool (.tmp rfl)) (.ce (u 0 rfl (u 5 rfl (u 6 rfl (u 63 rfl .nil))))))))))))))))))))) fun _ _ s59 => wn hK12 ?_); clear s42
   refine cond_split s59 (.tmp rfl) (fun hc3 => ?_) (fun hc3 => ?_)
   ·have h18 := ite_t hc3 h17; clear h17
    refine wp_seq_k fun K13 hK13 => wp_region_lit (qs s59 (.c1 rfl (ob_assign rfl opd_is) (.c1 rfl (ob_assign rfl (opd_int rfl)) (.ce (u 2 rfl (u 3 rfl .nil))))) fun _ _ s62 => wn hK13 ?_); clear s59
    refine wp_ret ?_
    have s63 := St.addNo (q := BF 0 56 (ko_cabalref13_Journal_0 (.pointer (some ⟨b00, 0, none⟩))) (⟨(), (0 : Int), []⟩ : cabalref13_Journal)) s62; clear s62
    obtain rfl := Option.some.inj h18
    exact leaveXD (D := []) ⟨0, w0_0, w0_1, w0_2⟩ s63 rfl (.inl rfl) rfl (.cons (.tmp rfl) (.cons (.tmp rfl) .nil)) rfl
   ·have h19 := ite_f hc3 h17; clear h17
    refine wp_skip ?_
    refine then_normal (hK11 _ _ ?_)
    have s64 := s59.sub (u 0 rfl (u 5 rfl (u 6 rfl .nil))); clear s59
    refine wp_seq_k fun K14 hK14 => wp_region_lit (qs s64 (.c1 rfl (ob_assign rfl (opd_str (by rfl) (by decide))) (.ce (u 0 rfl (u 5 rfl (u 6 rfl (u 7 rfl .nil)))))) fun _ _ s66 => wn hK14 ?_); clear s64
    refine wp_seq_k fun K15 hK15 => wp_seq_k fun K16 hK16 => ?_
    refine wp_region_lit (qs s66 (.c1 rfl (ob_assign rfl (opd_int rfl)) (.ce (u 0 rfl (u 5 rfl (u 6 rfl (u 7 rfl (u 8 rfl .nil))))))) fun _ _ s68 => wn hK16 ?_); clear s66
    have hj1 : ∀ (y1 : (List Int)) (a : Act) (w : World), (cabalref13_Open.j1 k x10 p1 x4) y1 = some r → St ⟨121, w0, ok, (idsOf [BF b00 49 (ko_cabalref12_Disk_0_1_2 w0_0 w0_1 w0_2) (⟨[], [], [], p1.Fuse, p1.Dead⟩ : cabalref12_Disk), RowF w0_0 9 kstr p1.Firm, RowF w0_1 3 (kint .i64) p1.At, RowF w0_2 9 kstr p1.Data])⟩ [BF b00 49 (ko_cabalref12_Disk_0_1_2 w0_0 w0_1 w0_2) (⟨[], [], [], p1.Fuse, p1.Dead⟩ : cabalref12_Disk), RowF w0_0 9 kstr p1.Firm, RowF w0_1 3 (kint .i64) p1.At, RowF w0_2 9 kstr p1.Data] [(0, (ptrB b00 0)), (5, ((kint .i64).V (IntKind.wrap .i64 x4))), (6, ((kint .i64).V x10)), (7, (kstr.V y1))] a w → K15 a w := by
     intro y1 a69 w69 h20 s69
     unfold cabalref13_Open.j1 at h20
     refine hK15 _ _ ?_
     obtain ⟨x14, e_x14, h21⟩ := bind_some h20; clear h20
     refine wp_seq_k fun K17 hK17 => wp_region_lit (qs s69 (.c1 rfl (mv rfl rfl) (.c1 rfl (mv rfl rfl) (.c1 rfl (ob_cutStr rfl Tryd.underlying9 (.tmp rfl) .none (.some (.tmp rfl)) e_x14) (.c1 rfl (ob_mkStruct (K := k_cabalref10_Reader) (X0 := (⟨[], (0 : Int)⟩ : cabalref10_Reader)) rfl Tryd.underlying96 zz96 rfl pl96 (Zr.iso (f := t_cabalref10_Reader) (x := (⟨[], (0 : Int)⟩ : cabalref10_Reader)) (Zr.pair Zr.str (Zr.pair (Zr.int .i64) Zr.nil))) (.cons (.tmp rfl) rfl (ls_cabalref10_Reader_S (⟨[], (0 : Int)⟩ : cabalref10_Reader) x14) (.nil _))) .cz)))) fun _ _ s73 => ?_); clear s69
     refine qx (B' := (fun b4 : Nat => [BF b4 96 k_cabalref10_Reader (⟨x14, (0 : Int)⟩ : cabalref10_Reader), BF b00 49 (ko_cabalref12_Disk_0_1_2 w0_0 w0_1 w0_2) (⟨[], [], [], p1.Fuse, p1.Dead⟩ : cabalref12_Disk), RowF w0_0 9 kstr p1.Firm, RowF w0_1 3 (kint .i64) p1.At, RowF w0_2 9 kstr p1.Data])) s73 rfl (ob_box rfl (.tmp rfl)) fun b4 _ _ s74 => ?_; clear s73
     refine qs s74 (.c1 rfl (ob_assign rfl (.tmp rfl)) (.ce (u 0 rfl (u 5 rfl (u 9 rfl .nil))))) fun _ _ s76 => wn hK17 ?_; clear s74
     refine wp_seq_k fun K18 hK18 => wp_region_lit (qs s76 (.c1 rfl (ob_assign rfl opd_is) .cz) fun _ _ s77 => ?_); clear s76
     have s78 := St.adopt s77 (G := RowF (nilRow 16) 9 kstr []) rfl (rowNilN _ _ _ _ _); clear s77
     refine wn hK18 ?_
     have s79 := s78.sub (u 0 rfl (u 5 rfl (u 9 rfl (u 10 rfl .nil)))); clear s78
     refine wp_seq_k fun K19 hK19 => ?_
     have hj2 : ∀ (y2 : cabalref10_Reader) (y3 : (List (List Int))) (v1 : Value) (a : Act) (w : World), (cabalref13_Open.j2 k p1 x4) y2 y3 = some r → St ⟨121, w0, ok, (idsOf [BF b00 49 (ko_cabalref12_Disk_0_1_2 w0_0 w0_1 w0_2) (⟨[], [], [], p1.Fuse, p1.Dead⟩ : cabalref12_Disk), RowF w0_0 9 kstr p1.Firm, RowF w0_1 3 (kint .i64) p1.At, RowF w0_2 9 kstr p1.Data])⟩ [BF b00 49 (ko_cabalref12_Disk_0_1_2 w0_0 w0_1 w0_2) (⟨[], [], [], p1.Fuse, p1.Dead⟩ : cabalref12_Disk), BF b4 96 k_cabalref10_Reader y2, RowF v1 9 kstr y3, RowF w0_0 9 kstr p1.Firm, RowF w0_1 3 (kint .i64) p1.At, RowF w0_2 9 kstr p1.Data] [(0, (ptrB b00 0)), (5, ((kint .i64).V (IntKind.wrap .i64 x4))), (9, (ptrB b4 0)), (10, (is v1))] a w → K19 a w := by
      intro y2 y3 v1 a80 w80 h22 s80
      unfold cabalref13_Open.j2 at h22
      refine hK19 _ _ ?_
      refine wp_seq_k fun K20 hK20 => wp_seq_k fun K21 hK21 => ?_
      refine wp_region_lit (qs s80 (.c1 rfl (mv rfl rfl) (.c1 rfl (ob_nilCheck rfl (.tmp rfl)) (.c1 rfl (ob_fieldAddr (off' := 1) rfl Tryd.underlying96 rfl sz3 (by decide) (.tmp rfl) rfl) (.c1 rfl (ob_load rfl tk3 (.tmp rfl) (.tail _ (.head _)) (lg_cabalref10_Reader_Err y2)) (.c1 rfl (ob_neq rfl (.tmp rfl) (opd_int rfl)) (.ce (u 0 rfl (u 5 rfl (u 10 rfl (u 115 rfl .nil)))))))))) fun _ _ s86 => wn hK21 ?_); clear s80
      have s87 := St.drop (A := [_]) s86; clear s86
      refine cond_split s87 (.tmp rfl) (fun hc4 => ?_) (fun hc4 => ?_)
      ·have h23 := ite_t hc4 h22; clear h22
       refine wp_seq_k fun K22 hK22 => wp_region_lit (qs s87 (.c1 rfl (ob_assign rfl opd_is) (.c1 rfl (ob_assign rfl (opd_int rfl)) (.ce (u 2 rfl (u 3 rfl .nil))))) fun _ _ s90 => wn hK22 ?_); clear s87
       have s91 := St.drop (A := [_]) s90; clear s90
       refine wp_ret ?_
       have s92 := St.addNo (q := BF 0 56 (ko_cabalref13_Journal_0 (.pointer (some ⟨b00, 0, none⟩))) (⟨(), (0 : Int), []⟩ : cabalref13_Journal)) s91; clear s91
       obtain rfl := Option.some.inj h23
       exact leaveXD (D := []) ⟨0, w0_0, w0_1, w0_2⟩ s92 rfl (.inl rfl) rfl (.cons (.tmp rfl) (.cons (.tmp rfl) .nil)) rfl
      ·have h24 := ite_f hc4 h22; clear h22
       refine wp_skip ?_
       refine then_normal (hK20 _ _ ?_)
       have s93 := s87.sub (u 0 rfl (u 5 rfl (u 10 rfl .nil))); clear s87
       refine wp_seq_k fun K23 hK23 => wp_region_lit (qs s93 (.c1 rfl (mv rfl rfl) (.c1 rfl (mv rfl rfl) (.c1 rfl (mv rfl rfl) .cz))) fun _ _ s96 => ?_); clear s93
       have s97 := St.freezeAllM (A := [_]) s96 (ts := [10, 118]) (.cons rfl (.cons rfl .nil)); clear s96
       refine qs s97 (.c1 rfl ((ob_mkObj (K0 := (ko_cabalref13_Journal_0 (.pointer none))) (K := (ko_cabalref13_Journal_0 (.pointer (some ⟨b00, 0, none⟩)))) (X := (⟨(), (IntKind.wrap .i64 x4), y3⟩ : cabalref13_Journal)) rfl Tryd.underlying56 zz56 rfl rfl pl56 (Zr.iso (f := to_cabalref13_Journal_0) (x := (⟨(), (0 : Int), []⟩ : cabalref13_Journal)) (Zr.pair Zr.nilPtr (Zr.pair (Zr.int .i64) (Zr.pair (Zr.sl _) Zr.nil)))) (.cons (.conv (.tmp rfl) (is_kis rfl rfl rfl)) rfl (lsk_cabalref13_Journal_0_to_0_at0 (⟨(), (0 : Int), []⟩ : cabalref13_Journal)) (.cons (.tmp rfl) rfl (LSK.of (lso_cabalref13_Journal_0_Area (⟨(), (0 : Int), []⟩ : cabalref13_Journal) (IntKind.wrap .i64 x4))) (.cons (.tmp rfl) rfl (LSK.of (lso_cabalref13_Journal_0_L (⟨(), (IntKind.wrap .i64 x4), []⟩ : cabalref13_Journal) y3)) (.nil _ _)))))) .cz) fun _ _ s98 => ?_; clear s97
       refine qx (B' := (fun b6 : Nat => [BF b6 56 (ko_cabalref13_Journal_0 (.pointer (some ⟨b00, 0, none⟩))) (⟨(), (IntKind.wrap .i64 x4), y3⟩ : cabalref13_Journal), BF b00 49 (ko_cabalref12_Disk_0_1_2 w0_0 w0_1 w0_2) (⟨[], [], [], p1.Fuse, p1.Dead⟩ : cabalref12_Disk), RowF w0_0 9 kstr p1.Firm, RowF w0_1 3 (kint .i64) p1.At, RowF w0_2 9 kstr p1.Data])) s98 rfl (ob_box rfl (.tmp rfl)) fun b6 _ _ s99 => ?_; clear s98
       refine qs s99 (.c1 rfl (ob_assign rfl (.tmp rfl)) (.c1 rfl (ob_assign rfl (opd_int rfl)) (.ce (u 2 rfl (u 3 rfl .nil))))) fun _ _ s102 => wn hK23 ?_; clear s99
       refine wp_ret ?_
       have s103 := St.addYes (s102.perm (List.Perm.refl _)); clear s102
       obtain rfl := Option.some.inj h24
       exact leaveXD (D := []) ⟨b6, w0_0, w0_1, w0_2⟩ s103 rfl (.inl rfl) rfl (.cons (.tmp rfl) (.cons (.tmp rfl) .nil)) rfl
     refine wp_block ?_
     have s104 := s79.perm (toFront [_, _] (toFront [_] (toFront [] (toFront [] (toFront [] (toFront [] (List.Perm.refl _))))))); clear s79
     refine wp_loop_fuel (fun m (q : cabalref10_Reader × (List (List Int))) => cabalref13_Open.l1 k p1 x4 m q.1 q.2) r (fun _ => rfl) (fun q a w => ∃ (v2 : Value), St ⟨121, w0, ok, (idsOf [BF b00 49 (ko_cabalref12_Disk_0_1_2 w0_0 w0_1 w0_2) (⟨[], [], [], p1.Fuse, p1.Dead⟩ : cabalref12_Disk), RowF w0_0 9 kstr p1.Firm, RowF w0_1 3 (kint .i64) p1.At, RowF w0_2 9 kstr p1.Data])⟩ [BF b00 49 (ko_cabalref12_Disk_0_1_2 w0_0 w0_1 w0_2) (⟨[], [], [], p1.Fuse, p1.Dead⟩ : cabalref12_Disk), BF b4 96 k_cabalref10_Reader q.1, RowF v2 9 kstr q.2, RowF w0_0 9 kstr p1.Firm, RowF w0_1 3 (kint .i64) p1.At, RowF w0_2 9 kstr p1.Data] [(0, (ptrB b00 0)), (5, ((kint .i64).V (IntKind.wrap .i64 x4))), (9, (ptrB b4 0)), (10, (is v2))] a w) ?_ k ((⟨x14, (0 : Int)⟩ : cabalref10_Reader), ([] : (List (List Int)))) _ _ h21 ⟨(nilRow 16), (s104.sub (.cons rfl (.cons rfl (.cons rfl (.cons rfl .nil)))))⟩
     rintro n1 ⟨y4, y5⟩ a105 w105 h25 ⟨v2, s105⟩ K24 hK24
     replace h25 : cabalref13_Open.l1 k p1 x4 (n1 + 1) y4 y5 = some r := h25; rw [cabalref13_Open.l1] at h25
     have h26 := h25; clear h25
     refine wp_seq_k fun K25 hK25 => wp_seq_k fun K26 hK26 => ?_
     obtain ⟨x15, e_x15, h27⟩ := bind_some h26; clear h26; replace e_x15 := Option.some.inj e_x15
     refine wp_region_lit (qs s105 (.c1 rfl (mv rfl rfl) (.c1 rfl (ob_nilCheck rfl (.tmp rfl)) (.c1 rfl (ob_fieldAddr (off' := 0) rfl Tryd.underlying96 rfl sz9 (by decide) (.tmp rfl) rfl) (.c1 rfl (ob_load rfl tk9 (.tmp rfl) (.tail _ (.head _)) (lg_cabalref10_Reader_S y4)) (.c1 rfl (ob_lenStr rfl Tryd.underlying9 (.tmp rfl)) (.c1 rfl (ob_gtr rfl (.tmp rfl) (opd_int rfl)) (.c1 rfl (mv rfl rfl) (.cg rfl rfl rfl rfl (fun hb => ob_move rfl (.tmp rfl)) (.cg rfl rfl rfl rfl (fun hb => (Ob.uncond (t := 99) hb rfl (ob_nilCheck rfl (.tmp rfl)))) (.cg rfl rfl rfl rfl (fun hb => (Ob.uncond (t := 100) hb rfl (ob_fieldAddr (off' := 1) rfl Tryd.underlying96 rfl sz3 (by decide) (.tmp rfl) rfl))) (.cg rfl rfl rfl rfl (fun hb => (Ob.uncond (t := 101) hb rfl (ob_load rfl tk3 (.tmp rfl) (.tail _ (.head _)) (lg_cabalref10_Reader_Err y4)))) (.cg rfl rfl rfl rfl (fun hb => (Ob.uncond (t := 102) hb rfl (ob_eql rfl (.tmp rfl) (opd_int rfl)))) (.c1 rfl ((ob_and2 rfl (.tmp rfl) (.tmp rfl) opd_bool).nm e_x15) (.ce (u 0 rfl (u 5 rfl (u 9 rfl (u 10 rfl (u 104 rfl .nil))))))))))))))))))) fun _ _ s119 => wn hK26 ?_); clear s105
     refine cond_split s119 (.tmp rfl) (fun hc5 => ?_) (fun hc5 => ?_)
     ·have h28 := ite_t hc5 h27; clear h27
      refine wp_skip ?_
      refine then_normal (hK25 _ _ ?_)
      have s120 := s119.sub (u 0 rfl (u 5 rfl (u 9 rfl (u 10 rfl .nil)))); clear s119
      refine wp_block ?_
      obtain ⟨x16, e_x16, h29⟩ := bind_some h28; clear h28
      refine wp_seq_k fun K27 hK27 => wp_region_lit (qs s120 (.c1 rfl (mv rfl rfl) .cz) fun _ _ s121 => ?_); clear s120
      refine qx (B' := (fun _ : Unit => [BF b4 96 k_cabalref10_Reader x16.2, BF b00 49 (ko_cabalref12_Disk_0_1_2 w0_0 w0_1 w0_2) (⟨[], [], [], p1.Fuse, p1.Dead⟩ : cabalref12_Disk), RowF v2 9 kstr y5, RowF w0_0 9 kstr p1.Firm, RowF w0_1 3 (kint .i64) p1.At, RowF w0_2 9 kstr p1.Data])) s121 rfl (ob_callL0 (args := [_, _]) (L := [_]) rfl .direct hb54 (toFront [_] (List.Perm.refl _)) (fun a w s => by exact c_cabalref10_Reader_Text k _ _ _ e_x16 _ _ _ _ _ (ownL s) (disL s) (nodL s) (s.arg (.tmp rfl)) (s.arg (opd_int rfl))) (by exact fun _ => rfl)) fun _ _ _ s122 => ?_; clear s121
      refine qs s122 (.c1 rfl (ob_assign rfl (.tmp rfl)) (.ce (u 0 rfl (u 5 rfl (u 9 rfl (u 10 rfl (u 11 rfl .nil))))))) fun _ _ s124 => wn hK27 ?_; clear s122
      obtain ⟨g1, h30⟩ := guard_some h29; clear h29
      refine wp_region_lit (qs s124 (.c1 rfl (mv rfl rfl) (.c1 rfl (mv rfl rfl) (.c1 rfl (ob_mkSlice (k := kstr) (xs := ([x16.1] : (List (List Int)))) rfl Tryd.underlying30 zz9 sz9 Zr.str (by decide) (by decide) (.cons (.tmp rfl) rfl (LS.arr' (i := 0) (ys := ([x16.1] : (List (List Int)))) (by simp) (by rfl)) (.nil _))) .cz))) fun _ _ s127 => ?_); clear s124
      refine qx (B' := (fun v3 : Value => [BF b4 96 k_cabalref10_Reader x16.2, BF b00 49 (ko_cabalref12_Disk_0_1_2 w0_0 w0_1 w0_2) (⟨[], [], [], p1.Fuse, p1.Dead⟩ : cabalref12_Disk), RowF v3 9 kstr (y5 ++ ([x16.1] : (List (List Int)))), RowF w0_0 9 kstr p1.Firm, RowF w0_1 3 (kint .i64) p1.At, RowF w0_2 9 kstr p1.Data])) s127 rfl (ob_appendL2 (A := [_, _]) rfl Tryd.underlying30 ap9 Zr.str (by decide) (.tmp rfl) (.tmp rfl) rfl g1) fun v3 _ _ s128 => ?_; clear s127
      refine qs s128 (.c1 rfl (ob_assign rfl (.tmp rfl)) .cz) fun _ _ s129 => ?_; clear s128
      refine wpList_nil ?_
      refine in_normal ?_
      refine then_normal ?_
      have s130 := s129.perm (toFront [_] (toFront [] (toFront [] (toFront [] (toFront [] (toFront [] (List.Perm.refl _))))))); clear s129
      exact hK24 (x16.2, (y5 ++ ([x16.1] : (List (List Int))))) _ _ h30 ⟨v3, (s130.sub (.cons rfl (.cons rfl (.cons rfl (.cons rfl .nil)))))⟩
     ·have h31 := ite_f hc5 h27; clear h27
      refine wp_exit ?_
      refine (then_exit (then_exit (in_here ?_)))
      refine then_normal ?_
      exact hj2 y4 y5 v2 _ _ h31 (s119.sub (.cons rfl (.cons rfl (.cons rfl (.cons rfl .nil)))))
    refine wp_block ?_
    refine wp_loop_fuel (fun m (q : (List Int) × Int) => cabalref13_Open.l2 k p1 x10 x4 m q.1 q.2) r (fun _ => rfl) (fun q a w => St ⟨121, w0, ok, (idsOf [BF b00 49 (ko_cabalref12_Disk_0_1_2 w0_0 w0_1 w0_2) (⟨[], [], [], p1.Fuse, p1.Dead⟩ : cabalref12_Disk), RowF w0_0 9 kstr p1.Firm, RowF w0_1 3 (kint .i64) p1.At, RowF w0_2 9 kstr p1.Data])⟩ [BF b00 49 (ko_cabalref12_Disk_0_1_2 w0_0 w0_1 w0_2) (⟨[], [], [], p1.Fuse, p1.Dead⟩ : cabalref12_Disk), RowF w0_0 9 kstr p1.Firm, RowF w0_1 3 (kint .i64) p1.At, RowF w0_2 9 kstr p1.Data] [(0, (ptrB b00 0)), (5, ((kint .i64).V (IntKind.wrap .i64 x4))), (6, ((kint .i64).V x10)), (7, (kstr.V q.1)), (8, ((kint .i64).V q.2))] a w) ?_ k (([] : List Int), (0 : Int)) _ _ h19 (s68.sub (.cons rfl (.cons rfl (.cons rfl (.cons rfl (.cons rfl .nil))))))
    rintro n2 ⟨y6, y7⟩ a131 w131 h32 s131 K28 hK28
    replace h32 : cabalref13_Open.l2 k p1 x10 x4 (n2 + 1) y6 y7 = some r := h32; rw [cabalref13_Open.l2] at h32
    have h33 := h32; clear h32
    refine wp_seq_k fun K29 hK29 => wp_seq_k fun K30 hK30 => ?_
    obtain ⟨x17, e_x17, h34⟩ := bind_some h33; clear h33
    obtain ⟨x18, e_x18, h35⟩ := bind_some h34; clear h34; replace e_x18 := Option.some.inj e_x18
    refine wp_region_lit (qs s131 (.c1 rfl (mv rfl rfl) (.c1 rfl (mv rfl rfl) (.c1 rfl ((ob_lendG (L := [_, _, _, _]) (List.Perm.refl _) (.cons (t := 65) rfl (lendObj (K' := k_cabalref12_Disk) (X' := p1) (.head _) rfl (upo_cabalref12_Disk_0_1_2 rfl (.row (LetAll.row (.tail _ (.head _)))) (.row (LetAll.row (.tail _ (.tail _ (.head _))))) (.row (LetAll.row (.tail _ (.tail _ (.tail _ (.head _)))))))) .nil) (Flat.res1 (Flat.V (KFlat.int _))) (fun _ => ob_callD0 (args := [_]) rfl .direct hb18 (fun a w s => by exact c_cabalref13_Half k _ _ e_x17 _ _ _ (s.arg (.tmp rfl)))))) (.c1 rfl (ob_lss rfl (.tmp rfl) (.tmp rfl)) (.c1 rfl (mv rfl rfl) (.cg rfl rfl rfl rfl (fun hb => ob_move rfl (.tmp rfl)) (.cg rfl rfl rfl rfl (fun hb => (Ob.uncond (t := 69) hb rfl (ob_lenStr rfl Tryd.underlying9 (.tmp rfl)))) (.cg rfl rfl rfl rfl (fun hb => ob_move rfl (.tmp rfl)) (.cg rfl rfl rfl rfl (fun hb => (Ob.uncond (t := 71) hb rfl ((Ob.uncond (t := 70) hb rfl (ob_lss rfl (.tmp rfl) (.tmp rfl)))))) (.c1 rfl ((ob_and2 rfl (.tmp rfl) (.tmp rfl) opd_bool).nm e_x18) (.ce (u 0 rfl (u 5 rfl (u 6 rfl (u 7 rfl (u 8 rfl (u 73 rfl .nil))))))))))))))))) fun _ _ s142 => wn hK30 ?_); clear s131
    refine cond_split s142 (.tmp rfl) (fun hc6 => ?_) (fun hc6 => ?_)
    ·have h36 := ite_t hc6 h35; clear h35
     refine wp_skip ?_
     refine then_normal (hK29 _ _ ?_)
     have s143 := s142.sub (u 0 rfl (u 5 rfl (u 6 rfl (u 7 rfl (u 8 rfl .nil))))); clear s142
     refine wp_seq_k fun K31 hK31 => wp_block ?_
     obtain ⟨x19, e_x19, h37⟩ := bind_some h36; clear h36
     obtain ⟨x20, e_x20, h38⟩ := bind_some h37; clear h37; replace e_x20 := Option.some.inj e_x20
     obtain ⟨x21, e_x21, h39⟩ := bind_some h38; clear h38
     obtain ⟨g2, h40⟩ := guard_some h39; clear h39
     refine wp_region_lit (qs s143 (.c1 rfl (mv rfl rfl) (.c1 rfl (mv rfl rfl) (.c1 rfl (mv rfl rfl) (.c1 rfl (mv rfl rfl) (.c1 rfl ((ob_lendG (L := [_, _, _, _]) (List.Perm.refl _) (.cons (t := 79) rfl (lendObj (K' := k_cabalref12_Disk) (X' := p1) (.head _) rfl (upo_cabalref12_Disk_0_1_2 rfl (.row (LetAll.row (.tail _ (.head _)))) (.row (LetAll.row (.tail _ (.tail _ (.head _))))) (.row (LetAll.row (.tail _ (.tail _ (.tail _ (.head _)))))))) .nil) (Flat.res1 (Flat.V (KFlat.int _))) (fun _ => ob_callD0 (args := [_]) rfl .direct hb18 (fun a w s => by exact c_cabalref13_Half k _ _ e_x19 _ _ _ (s.arg (.tmp rfl)))))) (.c1 rfl (ob_mul rfl (.tmp rfl) (.tmp rfl)) (.c1 rfl (ob_add rfl (opd_int rfl) (.tmp rfl)) (.c1 rfl (mv rfl rfl) (.c1 rfl ((ob_add rfl (.tmp rfl) (.tmp rfl)).nm e_x20) (.c1 rfl ((ob_lendG (L := [_, _, _, _]) (List.Perm.refl _) (.cons (t := 77) rfl (lendObj (K' := k_cabalref12_Disk) (X' := p1) (.head _) rfl (upo_cabalref12_Disk_0_1_2 rfl (.row (LetAll.row (.tail _ (.head _)))) (.row (LetAll.row (.tail _ (.tail _ (.head _))))) (.row (LetAll.row (.tail _ (.tail _ (.tail _ (.head _)))))))) .nil) (Flat.res1 (Flat.V KFlat.str)) (fun _ => ob_callD0 (args := [_, _]) rfl .direct hb53 (fun a w s => by exact c_cabalref12_Disk_Read k _ _ _ e_x21 _ _ _ _ (s.arg (.tmp rfl)) (s.arg (.tmp rfl)))))) (.c1 rfl (ob_cat rfl (.tmp rfl) (.tmp rfl) g2) (.c1 rfl (ob_assign rfl (.tmp rfl)) .cz)))))))))))) fun _ _ s155 => ?_); clear s143
     refine wpList_nil ?_
     refine in_normal ?_
     refine then_normal (hK31 _ _ ?_)
     have s156 := s155.sub (u 0 rfl (u 5 rfl (u 6 rfl (u 7 rfl (u 8 rfl .nil))))); clear s155
     refine wp_region_lit (qs s156 (.c1 rfl (mv rfl rfl) (.c1 rfl (ob_add rfl (.tmp rfl) (opd_int rfl)) (.c1 rfl (ob_assign rfl (.tmp rfl)) .cz))) fun _ _ s159 => ?_); clear s156
     refine wpList_nil ?_
     refine then_normal ?_
     exact hK28 ((y6 ++ x21), (iadd .i64 y7 (1 : Int))) _ _ h40 (s159.sub (.cons rfl (.cons rfl (.cons rfl (.cons rfl (.cons rfl .nil))))))
    ·have h41 := ite_f hc6 h35; clear h35
     refine wp_exit ?_
     refine (then_exit (then_exit (in_here ?_)))
     refine then_normal ?_
     exact hj1 y6 _ _ h41 (s142.sub (.cons rfl (.cons rfl (.cons rfl (.cons rfl .nil)))))
theorem c_cabalref13_Journal_Room (k : Nat) (p1 : cabalref13_Journal) (p2 : cabalref12_Disk) (r : Int) (h0 : cabalref13_Journal_Room k p1 p2 = some r) (ok : Ok) (w0 : World) (z0 : Value) (b00 : Nat) (b01 : Nat) (w1_0 : Value) (w1_1 : Value) (w1_2 : Value) (l0 : ∀ q, q ∈ [BF b00 56 (ko_cabalref13_Journal_0 (.pointer (some ⟨b01, 0, none⟩))) (⟨(), p1.Area, p1.L⟩ : cabalref13_Journal), BF b01 49 (ko_cabalref12_Disk_0_1_2 w1_0 w1_1 w1_2) (⟨[], [], [], p2.Fuse, p2.Dead⟩ : cabalref12_Disk), RowF w1_0 9 kstr p2.Firm, RowF w1_1 3 (kint .i64) p2.At, RowF w1_2 9 kstr p2.Data] → q.holds ok w0) (d0 : ∀ c, c ∈ idsOf [BF b00 56 (ko_cabalref13_Journal_0 (.pointer (some ⟨b01, 0, none⟩))) (⟨(), p1.Area, p1.L⟩ : cabalref13_Journal), BF b01 49 (ko_cabalref12_Disk_0_1_2 w1_0 w1_1 w1_2) (⟨[], [], [], p2.Fuse, p2.Dead⟩ : cabalref12_Disk), RowF w1_0 9 kstr p2.Firm, RowF w1_1 3 (kint .i64) p2.At, RowF w1_2 9 kstr p2.Data] → ¬ ok c) (nd : (idsOf [BF b00 56 (ko_cabalref13_Journal_0 (.pointer (some ⟨b01, 0, none⟩))) (⟨(), p1.Area, p1.L⟩ : cabalref13_Journal), BF b01 49 (ko_cabalref12_Disk_0_1_2 w1_0 w1_1 w1_2) (⟨[], [], [], p2.Fuse, p2.Dead⟩ : cabalref12_Disk), RowF w1_0 9 kstr p2.Firm, RowF w1_1 3 (kint .i64) p2.At, RowF w1_2 9 kstr p2.Data]).Nodup) (u0 : (ptrB b00 0).holds ok w0 z0) :
 GivesX Tryd.prog 22 [z0] ok w0 [BF b00 56 (ko_cabalref13_Journal_0 (.pointer (some ⟨b01, 0, none⟩))) (⟨(), p1.Area, p1.L⟩ : cabalref13_Journal), BF b01 49 (ko_cabalref12_Disk_0_1_2 w1_0 w1_1 w1_2) (⟨[], [], [], p2.Fuse, p2.Dead⟩ : cabalref12_Disk), RowF w1_0 9 kstr p2.Firm, RowF w1_1 3 (kint .i64) p2.At, RowF w1_2 9 kstr p2.Data] (fun g : Unit => resFact [(kint .i64).V r]) (fun g : Unit => [BF b00 56 (ko_cabalref13_Journal_0 (.pointer (some ⟨b01, 0, none⟩))) (⟨(), p1.Area, p1.L⟩ : cabalref13_Journal), BF b01 49 (ko_cabalref12_Disk_0_1_2 w1_0 w1_1 w1_2) (⟨[], [], [], p2.Fuse, p2.Dead⟩ : cabalref12_Disk), RowF w1_0 9 kstr p2.Firm, RowF w1_1 3 (kint .i64) p2.At, RowF w1_2 9 kstr p2.Data]) := by
 unfold cabalref13_Journal_Room at h0
 refine enterX (N := 16) Tryd.func22 rfl rfl (of_decide_eq_true rfl) (.cons u0 .nil) nd l0 d0 fun a1 s1 => ?_
 refine wp_seq_k fun K1 hK1 => wp_region_lit (qs s1 (.c1 rfl (ob_assign rfl (opd_int rfl)) (.ce (u 0 rfl .nil))) fun _ _ s3 => wn hK1 ?_); clear s1
 refine wp_seq_k fun K2 hK2 => ?_
 obtain ⟨x1, e_x1, h1⟩ := bind_some h0; clear h0
 obtain ⟨x2, e_x2, h2⟩ := bind_some h1; clear h1
 refine wp_goes (Fs := [(ptrB b00 0), (ptrB b00 0), (ptrB b00 0), (ptrB b01 0), ((kint .i64).V x1), ((kint .i64).V (imul .i64 x1 (256 : Int))), (ptrB b00 0), (ptrB b00 0), (ptrB b00 2), ((ksl kstr).V p1.L), (kstr.V x2), ((kint .i64).V (x2.length : Int))]) (bits := [0, 1, 3, 7, 15, 31, 0, 64, 192, 448, 991, 2015, 4095, 8191]) (m := 12) (todo := 0) mx s3 ?_; clear s3
 refine goes_last (by kernel_rfl) rfl (oc (av 0 rfl rfl Av.nil) rfl rfl (mv rfl rfl) (oc (an 0 rfl rfl rfl Av.nil) rfl rfl (ob_nilCheck rfl (.tmp rfl)) (oc (an 1 rfl rfl rfl Av.nil) rfl rfl (ob_fieldAddr (off' := 0) rfl Tryd.underlying56 rfl sz41 (by decide) (.tmp rfl) rfl) (oc (an 2 rfl rfl rfl Av.nil) rfl rfl (ob_loadRowV rfl (tkr41 _) (.tmp rfl) (.head _) (lgo_cabalref13_Journal_0_D (⟨(), p1.Area, p1.L⟩ : cabalref13_Journal))) (oc (an 3 rfl rfl rfl Av.nil) rfl rfl ((ob_lendG (L := [_, _, _, _]) (toFront [_] (toFront [_] (toFront [_] (toFront [_] (List.Perm.refl _))))) (.cons (t := 6) rfl (lendObj (K' := k_cabalref12_Disk) (X' := p2) (.head _) rfl (upo_cabalref12_Disk_0_1_2 rfl (.row (LetAll.row (.tail _ (.head _)))) (.row (LetAll.row (.tail _ (.tail _ (.head _))))) (.row (LetAll.row (.tail _ (.tail _ (.tail _ (.head _)))))))) .nil) (Flat.res1 (Flat.V (KFlat.int _))) (fun _ => ob_callD0 (args := [_]) rfl .direct hb18 (fun a w s => by exact c_cabalref13_Half k _ _ e_x1 _ _ _ (s.arg (.tmp rfl)))))) (oc (an 4 rfl rfl rfl Av.nil) rfl rfl (ob_mul rfl (.tmp rfl) (opd_int rfl)) (oc (av 0 rfl rfl Av.nil) rfl rfl (mv rfl rfl) (oc (an 6 rfl rfl rfl Av.nil) rfl rfl (ob_nilCheck rfl (.tmp rfl)) (oc (an 7 rfl rfl rfl Av.nil) rfl rfl (ob_fieldAddr (off' := 2) rfl Tryd.underlying56 rfl sz30 (by decide) (.tmp rfl) rfl) (oc (an 8 rfl rfl rfl Av.nil) rfl rfl (ob_load rfl tk30 (.tmp rfl) (.head _) (lgo_cabalref13_Journal_0_L (⟨(), p1.Area, p1.L⟩ : cabalref13_Journal))) (oc (an 9 rfl rfl rfl Av.nil) rfl rfl (ob_callD0 (args := [_]) rfl .direct hb15 (fun a w s => by exact c_cabalref13_Bytes k _ _ e_x2 _ _ _ (s.arg (.tmp rfl)))) (oc (an 10 rfl rfl rfl Av.nil) rfl rfl (ob_lenStr rfl Tryd.underlying9 (.tmp rfl)) opsS_nil)))))))))))) (out_new (i := 5) (by decide) rfl rfl (out_new (i := 11) (by decide) rfl rfl out_nil)) fun _ _ s4 => ?_
 refine qs s4 (.c1 rfl (ob_sub rfl (.tmp rfl) (.tmp rfl)) (.c1 rfl (ob_assign rfl (.tmp rfl)) (.ce (u 2 rfl .nil)))) fun _ _ s7 => wn hK2 ?_; clear s4
 refine wp_ret ?_
 obtain rfl := Option.some.inj h2
 exact leaveXD (D := []) () s7 rfl (.inl rfl) rfl (.cons (.tmp rfl) .nil) rfl
theorem c_journal_Journal_Records_nil (k : Nat) (r : (List (List Int))) (h0 : journal_Journal_Records_nil k = some r) (ok : Ok) (w0 : World) (z0 : Value) (u0 : (is (.pointer none)).holds ok w0 z0) :
 GivesX Tryd.prog 13 [z0] ok w0 [] (fun g : Value => resFact [is g]) (fun g : Value => [RowF (g) 9 kstr r]) := by
 unfold journal_Journal_Records_nil at h0
 refine enterX (N := 10) Tryd.func13 rfl rfl (of_decide_eq_true rfl) (.cons u0 .nil) List.nodup_nil (fun _ h => by cases h) (fun _ h => by cases h) fun a1 s1 => ?_
 refine wp_seq_k fun K1 hK1 => wp_region_lit (qs s1 (.c1 rfl (ob_assign rfl opd_is) .cz) fun _ _ s2 => ?_); clear s1
 have s3 := St.adopt s2 (G := RowF (nilRow 17) 9 kstr []) rfl (rowNilN _ _ _ _ _); clear s2
 refine wn hK1 ?_
 have s4 := s3.sub (u 0 rfl .nil); clear s3
 have s5 := St.drop (A := []) s4; clear s4
 refine wp_seq_k fun K2 hK2 => wp_seq_k fun K3 hK3 => ?_
 refine wp_region_lit (qs s5 (.c1 rfl (mv rfl rfl) (.c1 rfl (ob_ptrNil (p := none) rfl pt26 (.tmp rfl) opd_is) (.ce (u 0 rfl (u 4 rfl .nil))))) fun _ _ s8 => wn hK3 ?_); clear s5
 refine cond_t s8 (.tmp rfl) ?_
 refine wp_seq_k fun K4 hK4 => wp_region_lit (qs s8 (.c1 rfl (ob_assign rfl opd_is) .cz) fun _ _ s9 => ?_); clear s8
 have s10 := St.adopt s9 (G := RowF (nilRow 18) 9 kstr []) rfl (rowNilN _ _ _ _ _); clear s9
 refine wn hK4 ?_
 have s11 := s10.sub (u 2 rfl .nil); clear s10
 refine wp_ret ?_
 obtain rfl := Option.some.inj h0
 exact leaveXD (D := []) (nilRow 18) s11 rfl (.inl rfl) rfl (.cons (.tmp rfl) .nil) rfl
theorem c_journal_Journal_Room_nil (k : Nat) (r : Int) (h0 : journal_Journal_Room_nil k = some r) (ok : Ok) (w0 : World) (z0 : Value) (u0 : (is (.pointer none)).holds ok w0 z0) :
 Gives Tryd.prog 20 [z0] ok w0 (resFact [(kint .i64).V r]) := by
 unfold journal_Journal_Room_nil at h0
 refine enter (N := 13) Tryd.func20 rfl rfl (of_decide_eq_true rfl) (.cons u0 .nil) fun a1 s1 => ?_
 refine wp_seq_k fun K1 hK1 => wp_region_lit (qs s1 (.c1 rfl (ob_assign rfl (opd_int rfl)) (.ce (u 0 rfl .nil))) fun _ _ s3 => wn hK1 ?_); clear s1
 refine wp_seq_k fun K2 hK2 => wp_seq_k fun K3 hK3 => ?_
 refine wp_region_lit (qs s3 (.c1 rfl (mv rfl rfl) (.c1 rfl (ob_ptrNil (p := none) rfl pt26 (.tmp rfl) opd_is) (.ce (u 0 rfl (u 4 rfl .nil))))) fun _ _ s6 => wn hK3 ?_); clear s3
 refine cond_t s6 (.tmp rfl) ?_
 refine wp_seq_k fun K4 hK4 => wp_region_lit (qs s6 (.c1 rfl (ob_assign rfl (opd_int rfl)) (.ce (u 2 rfl .nil))) fun _ _ s8 => wn hK4 ?_); clear s6
 refine wp_ret ?_
 obtain rfl := Option.some.inj h0
 exact leave s8 (.inl rfl) rfl (.cons (.tmp rfl) .nil)
theorem c_journal_Journal_Append_nil (k : Nat) (p1 : (List (List Int))) (r : Int) (h0 : journal_Journal_Append_nil k p1 = some r) (ok : Ok) (w0 : World) (gl0 : (ptrTo (karr 8 (kint .u32)) G_digest_first).holds ok w0 (.pointer (some ⟨0, 0, none⟩))) (gl1 : (ptrTo (karr 64 (kint .u32)) G_digest_rounds).holds ok w0 (.pointer (some ⟨1, 0, none⟩))) (z0 : Value) (z1 : Value) (u0 : (is (.pointer none)).holds ok w0 z0) (u1 : ((ksl kstr).V p1).holds ok w0 z1) :
 Gives Tryd.prog 11 [z0, z1] ok w0 (resFact [(kint .i64).V r]) := by
 unfold journal_Journal_Append_nil at h0
 refine enter (N := 73) Tryd.func11 rfl rfl (of_decide_eq_true rfl) (.cons u0 (.cons u1 .nil)) fun a1 s1 => ?_
 have s2 := s1.keepKnown 100000 gl0 okIn; clear s1
 have s3 := s2.keepKnown 100001 gl1 okIn; clear s2
 refine wp_seq_k fun K1 hK1 => wp_region_lit (qs s3 (.c1 rfl (ob_assign rfl (opd_int rfl)) (.ce (u 0 rfl (u 1 rfl (u 100000 rfl (u 100001 rfl .nil)))))) fun _ _ s5 => wn hK1 ?_); clear s3
 refine wp_seq_k fun K2 hK2 => wp_region_lit ?_
 have s6 := St.adopt s5 (G := RowF (nilRow 19) 5 (kint .u8) []) rfl (rowNilN _ _ _ _ _); clear s5
 refine qx (B' := (fun b1 : Nat => [BF b1 79 (ko_wire_Writer_0 (nilRow 19)) (⟨[]⟩ : wire_Writer), RowF (nilRow 19) 5 (kint .u8) ([] : (List Int))])) s6 rfl (ob_new (k := (ko_wire_Writer_0 (nilRow 19))) rfl zz79 (Zr.iso (f := to_wire_Writer_0) (x := (⟨[]⟩ : wire_Writer)) (Zr.pair (Zr.kis 19) Zr.nil))) fun b1 _ _ s7 => ?_; clear s6
 refine wn hK2 ?_
 have s8 := s7.sub (u 0 rfl (u 1 rfl (u 5 rfl (u 100000 rfl (u 100001 rfl .nil))))); clear s7
 obtain ⟨x1, e_x1, h1⟩ := bind_some h0; clear h0
 refine wp_seq_k fun K3 hK3 => wp_region_lit (qs s8 (.c1 rfl (mv rfl rfl) .cz) fun _ _ s9 => ?_); clear s8
 refine qx (B' := (fun v1 : Value => [BF b1 79 (ko_wire_Writer_0 v1) (⟨[]⟩ : wire_Writer), RowF v1 5 (kint .u8) x1.out])) s9 rfl (ob_callL0 (args := [_, _]) (L := [_, _]) rfl .direct hb39 (List.Perm.refl _) (fun a w s => by exact c_wire_Writer_Texts k _ _ _ e_x1 _ _ _ _ _ _ (ownL s) (disL s) (nodL s) (s.arg (.tmp rfl)) (s.arg (.tmp rfl))) (by exact fun _ => rfl)) fun v1 _ _ s10 => ?_; clear s9
 refine wn hK3 ?_
 have s11 := s10.sub (u 0 rfl (u 1 rfl (u 5 rfl (u 100000 rfl (u 100001 rfl .nil))))); clear s10
 obtain ⟨x2, e_x2, h2⟩ := bind_some h1; clear h1
 refine wp_seq_k fun K4 hK4 => wp_region_lit (qs s11 (.c1 rfl ((ob_lendG (L := [_, _]) (List.Perm.refl _) (.cons (t := 5) rfl (lendObj (K' := k_wire_Writer) (X' := x1) (.head _) rfl (upo_wire_Writer_0 rfl (.row (LetAll.row (.tail _ (.head _)))))) .nil) (Flat.res1 (Flat.V KFlat.str)) (fun _ => ob_callD0 (args := [_]) rfl .direct hb40 (fun a w s => by exact c_wire_Writer_String k _ _ e_x2 _ _ _ (s.arg (.tmp rfl)))))) (.c1 rfl (ob_assign rfl (.tmp rfl)) (.ce (u 0 rfl (u 1 rfl (u 6 rfl (u 100000 rfl (u 100001 rfl .nil)))))))) fun _ _ s14 => wn hK4 ?_); clear s11
 have s15 := St.drop (A := []) s14; clear s14
 have s16 := St.drop (A := []) s15; clear s15
 refine wp_seq_k fun K5 hK5 => wp_block ?_
 refine wp_seq_k fun K6 hK6 => wp_region_lit (qs s16 (.c1 rfl (mv rfl rfl) (.c1 rfl (ob_ptrNil (p := none) rfl pt26 (.tmp rfl) opd_is) (.c1 rfl (ob_assign rfl (.tmp rfl)) (.ce (u 0 rfl (u 1 rfl (u 6 rfl (u 12 rfl (u 100000 rfl (u 100001 rfl .nil)))))))))) fun _ _ s20 => wn hK6 ?_); clear s16
 refine cond_t s20 (.tmp rfl) ?_
 refine wp_seq_k fun K7 hK7 => wp_region_lit (qs s20 (.c1 rfl (ob_assign rfl (opd_int rfl)) (.ce (u 4 rfl (u 100000 rfl (u 100001 rfl .nil))))) fun _ _ s22 => wn hK7 ?_); clear s20
 refine wp_ret ?_
 obtain rfl := Option.some.inj h2
 exact leave s22 (.inl rfl) rfl (.cons (.tmp rfl) .nil)
theorem c_journal_Journal_Snap_nil (k : Nat) (p1 : (List Int)) (r : Int) (h0 : journal_Journal_Snap_nil k p1 = some r) (ok : Ok) (w0 : World) (gl0 : (ptrTo (karr 8 (kint .u32)) G_digest_first).holds ok w0 (.pointer (some ⟨0, 0, none⟩))) (gl1 : (ptrTo (karr 64 (kint .u32)) G_digest_rounds).holds ok w0 (.pointer (some ⟨1, 0, none⟩))) (z0 : Value) (z1 : Value) (u0 : (is (.pointer none)).holds ok w0 z0) (u1 : (kstr.V p1).holds ok w0 z1) :
 Gives Tryd.prog 21 [z0, z1] ok w0 (resFact [(kint .i64).V r]) := by
 unfold journal_Journal_Snap_nil at h0
 refine enter (N := 51) Tryd.func21 rfl rfl (of_decide_eq_true rfl) (.cons u0 (.cons u1 .nil)) fun a1 s1 => ?_
 have s2 := s1.keepKnown 100000 gl0 okIn; clear s1
 have s3 := s2.keepKnown 100001 gl1 okIn; clear s2
 refine wp_seq_k fun K1 hK1 => wp_region_lit (qs s3 (.c1 rfl (ob_assign rfl (opd_int rfl)) (.ce (u 0 rfl (u 1 rfl (u 100000 rfl (u 100001 rfl .nil)))))) fun _ _ s5 => wn hK1 ?_); clear s3
 refine wp_seq_k fun K2 hK2 => wp_region_lit ?_
 have s6 := St.adopt s5 (G := RowF (nilRow 20) 5 (kint .u8) []) rfl (rowNilN _ _ _ _ _); clear s5
 refine qx (B' := (fun b1 : Nat => [BF b1 79 (ko_wire_Writer_0 (nilRow 20)) (⟨[]⟩ : wire_Writer), RowF (nilRow 20) 5 (kint .u8) ([] : (List Int))])) s6 rfl (ob_new (k := (ko_wire_Writer_0 (nilRow 20))) rfl zz79 (Zr.iso (f := to_wire_Writer_0) (x := (⟨[]⟩ : wire_Writer)) (Zr.pair (Zr.kis 20) Zr.nil))) fun b1 _ _ s7 => ?_; clear s6
 refine wn hK2 ?_
 have s8 := s7.sub (u 0 rfl (u 1 rfl (u 5 rfl (u 100000 rfl (u 100001 rfl .nil))))); clear s7
 obtain ⟨x1, e_x1, h1⟩ := bind_some h0; clear h0
 refine wp_seq_k fun K3 hK3 => wp_region_lit (qs s8 (.c1 rfl (mv rfl rfl) (.c1 rfl (ob_mkSlice (k := kstr) (xs := ([p1] : (List (List Int)))) rfl Tryd.underlying30 zz9 sz9 Zr.str (by decide) (by decide) (.cons (.tmp rfl) rfl (LS.arr' (i := 0) (ys := ([p1] : (List (List Int)))) (by simp) (by rfl)) (.nil _))) .cz)) fun _ _ s10 => ?_); clear s8
 refine qx (B' := (fun v1 : Value => [BF b1 79 (ko_wire_Writer_0 v1) (⟨[]⟩ : wire_Writer), RowF v1 5 (kint .u8) x1.out])) s10 rfl (ob_callL0 (args := [_, _]) (L := [_, _]) rfl .direct hb39 (List.Perm.refl _) (fun a w s => by exact c_wire_Writer_Texts k _ _ _ e_x1 _ _ _ _ _ _ (ownL s) (disL s) (nodL s) (s.arg (.tmp rfl)) (s.arg (.tmp rfl))) (by exact fun _ => rfl)) fun v1 _ _ s11 => ?_; clear s10
 refine wn hK3 ?_
 have s12 := s11.sub (u 0 rfl (u 1 rfl (u 5 rfl (u 100000 rfl (u 100001 rfl .nil))))); clear s11
 refine wp_seq_k fun K4 hK4 => wp_block ?_
 refine wp_seq_k fun K5 hK5 => wp_region_lit (qs s12 (.c1 rfl (mv rfl rfl) (.c1 rfl (ob_ptrNil (p := none) rfl pt26 (.tmp rfl) opd_is) (.c1 rfl (ob_assign rfl (.tmp rfl)) (.ce (u 0 rfl (u 1 rfl (u 5 rfl (u 10 rfl (u 100000 rfl (u 100001 rfl .nil)))))))))) fun _ _ s16 => wn hK5 ?_); clear s12
 refine cond_t s16 (.tmp rfl) ?_
 refine wp_seq_k fun K6 hK6 => wp_region_lit (qs s16 (.c1 rfl (ob_assign rfl (opd_int rfl)) (.ce (u 4 rfl (u 100000 rfl (u 100001 rfl .nil))))) fun _ _ s18 => wn hK6 ?_); clear s16
 have s19 := St.drop (A := []) s18; clear s18
 have s20 := St.drop (A := []) s19; clear s19
 refine wp_ret ?_
 obtain rfl := Option.some.inj h1
 exact leave s20 (.inl rfl) rfl (.cons (.tmp rfl) .nil)
theorem c_caballaw13_JournalOpens (k : Nat) (p1 : Int) (p2 : (List (List Int))) (p3 : (List Int)) (p4 : Bool) (p5 : Int) (p6 : Int) (p7 : Int) (r : Bool) (h0 : caballaw13_JournalOpens k p1 p2 p3 p4 p5 p6 p7 = some r) (ok : Ok) (w0 : World) (gl0 : (ptrTo (karr 8 (kint .u32)) G_digest_first).holds ok w0 (.pointer (some ⟨0, 0, none⟩))) (gl1 : (ptrTo (karr 64 (kint .u32)) G_digest_rounds).holds ok w0 (.pointer (some ⟨1, 0, none⟩))) (z0 : Value) (z1 : Value) (z2 : Value) (z3 : Value) (z4 : Value) (z5 : Value) (z6 : Value) (u0 : ((kint .i64).V p1).holds ok w0 z0) (u1 : ((ksl kstr).V p2).holds ok w0 z1) (u2 : (kstr.V p3).holds ok w0 z2) (u3 : (kbool.V p4).holds ok w0 z3) (u4 : ((kint .i64).V p5).holds ok w0 z4) (u5 : ((kint .i64).V p6).holds ok w0 z5) (u6 : ((kint .u8).V p7).holds ok w0 z6) :
 Gives Tryd.prog 4 [z0, z1, z2, z3, z4, z5, z6] ok w0 (resFact [kbool.V r]) := by
 unfold caballaw13_JournalOpens at h0
 refine enter (N := 202) Tryd.func4 rfl rfl (of_decide_eq_true rfl) (.cons u0 (.cons u1 (.cons u2 (.cons u3 (.cons u4 (.cons u5 (.cons u6 .nil))))))) fun a1 s1 => ?_
 have s2 := s1.keepKnown 100000 gl0 okIn; clear s1
 have s3 := s2.keepKnown 100001 gl1 okIn; clear s2
 refine wp_seq_k fun K1 hK1 => wp_region_lit (qs s3 (.c1 rfl (ob_assign rfl opd_bool) (.ce (u 0 rfl (u 1 rfl (u 2 rfl (u 3 rfl (u 4 rfl (u 5 rfl (u 6 rfl (u 100000 rfl (u 100001 rfl .nil))))))))))) fun _ _ s5 => wn hK1 ?_); clear s3
 refine wp_seq_k fun K2 hK2 => wp_seq_k fun K3 hK3 => ?_
 obtain ⟨x1, e_x1, h1⟩ := bind_some h0; clear h0
 refine wp_region_lit (qs s5 (.c1 rfl (ob_callD0 (args := []) rfl .direct hb6 (fun a w s => by exact c_caballaw13_alive k _ e_x1 _ _ (s.env _ _ (show get _ 100000 = _ from rfl)) (s.env _ _ (show get _ 100001 = _ from rfl)))) (.c1 rfl (ob_not rfl (.tmp rfl)) (.ce (u 0 rfl (u 1 rfl (u 2 rfl (u 3 rfl (u 4 rfl (u 5 rfl (u 6 rfl (u 29 rfl (u 100000 rfl (u 100001 rfl .nil))))))))))))) fun _ _ s8 => wn hK3 ?_); clear s5
 refine cond_split s8 (.tmp rfl) (fun hc1 => ?_) (fun hc1 => ?_)
 ·have h2 := ite_t hc1 h1; clear h1
  refine wp_seq_k fun K4 hK4 => wp_region_lit (qs s8 (.c1 rfl (ob_assign rfl opd_bool) (.ce (u 14 rfl (u 100000 rfl (u 100001 rfl .nil))))) fun _ _ s10 => wn hK4 ?_); clear s8
  refine wp_ret ?_
  obtain rfl := Option.some.inj h2
  exact leave s10 (.inl rfl) rfl (.cons (.tmp rfl) .nil)
 ·have h3 := ite_f hc1 h1; clear h1
  refine wp_skip ?_
  refine then_normal (hK2 _ _ ?_)
  have s11 := s8.sub (u 0 rfl (u 1 rfl (u 2 rfl (u 3 rfl (u 4 rfl (u 5 rfl (u 6 rfl (u 100000 rfl (u 100001 rfl .nil))))))))); clear s8
  refine wp_seq_k fun K5 hK5 => wp_seq_k fun K6 hK6 => ?_
  obtain ⟨x2, e_x2, h4⟩ := bind_some h3; clear h3
  refine wp_region_lit (qs s11 (.c1 rfl (mv rfl rfl) (.c1 rfl (ob_callD0 (args := [_]) rfl .direct hb9 (fun a w s => by exact c_caballaw13_great k _ _ e_x2 _ _ _ (s.arg (.tmp rfl)))) (.c1 rfl (mv rfl rfl) (.cg rfl rfl rfl rfl (fun hb => ob_move rfl (.tmp rfl)) (.cg rfl rfl rfl rfl (fun hb => (Ob.uncond (t := 33) hb rfl (ob_lenStr rfl Tryd.underlying9 (.tmp rfl)))) (.cg rfl rfl rfl rfl (fun hb => (Ob.uncond (t := 34) hb rfl (ob_gtr rfl (.tmp rfl) (opd_int rfl)))) (.c1 rfl (ob_or2 rfl (.tmp rfl) opd_bool (.tmp rfl)) (.ce (u 0 rfl (u 1 rfl (u 2 rfl (u 3 rfl (u 4 rfl (u 5 rfl (u 6 rfl (u 36 rfl (u 100000 rfl (u 100001 rfl .nil)))))))))))))))))) fun _ _ s19 => wn hK6 ?_); clear s11
  refine cond_split s19 (.tmp rfl) (fun hc2 => ?_) (fun hc2 => ?_)
  ·have h5 := ite_t hc2 h4; clear h4
   obtain ⟨x3, e_x3, h6⟩ := bind_some h5; clear h5
   refine wp_seq_k fun K7 hK7 => wp_region_lit (qs s19 (.c1 rfl (ob_callD0 (args := []) rfl .direct hb6 (fun a w s => by exact c_caballaw13_alive k _ e_x3 _ _ (s.env _ _ (show get _ 100000 = _ from rfl)) (s.env _ _ (show get _ 100001 = _ from rfl)))) (.c1 rfl (ob_assign rfl (.tmp rfl)) (.ce (u 14 rfl (u 100000 rfl (u 100001 rfl .nil)))))) fun _ _ s22 => wn hK7 ?_); clear s19
   refine wp_ret ?_
   obtain rfl := Option.some.inj h6
   exact leave s22 (.inl rfl) rfl (.cons (.tmp rfl) .nil)
  ·have h7 := ite_f hc2 h4; clear h4
   refine wp_skip ?_
   refine then_normal (hK5 _ _ ?_)
   have s23 := s19.sub (u 0 rfl (u 1 rfl (u 2 rfl (u 3 rfl (u 4 rfl (u 5 rfl (u 6 rfl (u 100000 rfl (u 100001 rfl .nil))))))))); clear s19
   refine wp_seq_k fun K8 hK8 => wp_region_lit (qs s23 (.c1 rfl (mv rfl rfl) (.c1 rfl (ob_conv rfl _ Tryd.underlying3 Tryd.underlying40 (.tmp rfl)) (.c1 rfl (ob_rem rfl (.tmp rfl) (opd_int rfl) (by decide)) (.c1 rfl (ob_conv rfl _ Tryd.underlying40 Tryd.underlying3 (.tmp rfl)) (.c1 rfl (ob_assign rfl (.tmp rfl)) (.ce (u 1 rfl (u 2 rfl (u 3 rfl (u 4 rfl (u 5 rfl (u 6 rfl (u 15 rfl (u 100000 rfl (u 100001 rfl .nil))))))))))))))) fun _ _ s29 => wn hK8 ?_); clear s23
   obtain ⟨x4, e_x4, h8⟩ := bind_some h7; clear h7
   refine wp_seq_k fun K9 hK9 => wp_region_lit (qs s29 (.c1 rfl (mv rfl rfl) .cz) fun _ _ s30 => ?_); clear s29
   refine qx (B' := (fun gg : Nat × Value × Value => [BF gg.1 68 (ko_disk_Disk_0_1 gg.2.1 gg.2.2) (⟨[], [], x4.fuse, x4.dead⟩ : disk_Disk), RowF gg.2.1 100 (karr 256 (kint .u8)) x4.firm, RowF gg.2.2 102 k_disk_write x4.loose])) s30 rfl (ob_callL0 (args := [_]) (L := []) rfl .direct hb7 (List.Perm.refl _) (fun a w s => by exact c_disk_New k _ _ e_x4 _ _ _ (s.arg (.tmp rfl))) (by exact fun _ => rfl)) fun gg31 _ _ s31 => ?_; clear s30
   obtain ⟨b1, v1, v2⟩ := gg31
   obtain ⟨x5, e_x5, h9⟩ := bind_some h8; clear h8
   refine qs s31 (.c1 rfl (mv rfl rfl) .cz) fun _ _ s32 => ?_; clear s31
   refine qx (B' := (fun gg : Nat × Value × Value × Value => [BF gg.1 49 (ko_cabalref12_Disk_0_1_2 gg.2.1 gg.2.2.1 gg.2.2.2) (⟨[], [], [], x5.Fuse, x5.Dead⟩ : cabalref12_Disk), RowF gg.2.1 9 kstr x5.Firm, RowF gg.2.2.1 3 (kint .i64) x5.At, RowF gg.2.2.2 9 kstr x5.Data, BF b1 68 (ko_disk_Disk_0_1 v1 v2) (⟨[], [], x4.fuse, x4.dead⟩ : disk_Disk), RowF v1 100 (karr 256 (kint .u8)) x4.firm, RowF v2 102 k_disk_write x4.loose])) s32 rfl (ob_callL0 (args := [_]) (L := []) rfl .direct hb14 (List.Perm.refl _) (fun a w s => by exact c_cabalref12_New k _ _ e_x5 _ _ _ (s.arg (.tmp rfl))) (by exact fun _ => rfl)) fun gg33 _ _ s33 => ?_; clear s32
   obtain ⟨b2, v3, v4, v5⟩ := gg33
   refine qs s33 (.c1 rfl (ob_assign rfl (.tmp rfl)) (.c1 rfl (ob_assign rfl (.tmp rfl)) (.ce (u 1 rfl (u 2 rfl (u 3 rfl (u 4 rfl (u 5 rfl (u 6 rfl (u 16 rfl (u 17 rfl (u 100000 rfl (u 100001 rfl .nil))))))))))))) fun _ _ s36 => wn hK9 ?_; clear s33
   obtain ⟨x6, e_x6, h10⟩ := bind_some h9; clear h9
   refine wp_seq_k fun K10 hK10 => wp_region_lit (qs s36 (.c1 rfl (mv rfl rfl) (.c1 rfl (ob_callD0 (args := [_]) rfl .direct hb15 (fun a w s => by exact c_cabalref13_Bytes k _ _ e_x6 _ _ _ (s.arg (.tmp rfl)))) (.c1 rfl (ob_assign rfl (.tmp rfl)) (.ce (u 2 rfl (u 3 rfl (u 4 rfl (u 5 rfl (u 6 rfl (u 16 rfl (u 17 rfl (u 18 rfl (u 100000 rfl (u 100001 rfl .nil)))))))))))))) fun _ _ s40 => wn hK10 ?_); clear s36
   refine wp_seq_k fun K11 hK11 => wp_region_lit (qs s40 (.c1 rfl (ob_assign rfl (opd_int rfl)) (.ce (u 2 rfl (u 3 rfl (u 4 rfl (u 5 rfl (u 6 rfl (u 16 rfl (u 17 rfl (u 18 rfl (u 19 rfl (u 100000 rfl (u 100001 rfl .nil))))))))))))) fun _ _ s42 => wn hK11 ?_); clear s40
   refine wp_seq_k fun K12 hK12 => wp_seq_k fun K13 hK13 => ?_
   refine wp_region_lit (qs s42 (.c1 rfl (mv rfl rfl) (.ce (u 2 rfl (u 4 rfl (u 5 rfl (u 6 rfl (u 16 rfl (u 17 rfl (u 18 rfl (u 19 rfl (u 48 rfl (u 100000 rfl (u 100001 rfl .nil))))))))))))) fun _ _ s44 => wn hK13 ?_); clear s42
   have hj1 : ∀ (y1 : Int) (a : Act) (w : World), (caballaw13_JournalOpens.j1 k p3 x6 p5 x4 x5 p7 p6) y1 = some r → St ⟨202, w0, ok, []⟩ [BF b1 68 (ko_disk_Disk_0_1 v1 v2) (⟨[], [], x4.fuse, x4.dead⟩ : disk_Disk), BF b2 49 (ko_cabalref12_Disk_0_1_2 v3 v4 v5) (⟨[], [], [], x5.Fuse, x5.Dead⟩ : cabalref12_Disk), RowF v1 100 (karr 256 (kint .u8)) x4.firm, RowF v2 102 k_disk_write x4.loose, RowF v3 9 kstr x5.Firm, RowF v4 3 (kint .i64) x5.At, RowF v5 9 kstr x5.Data] [(2, (kstr.V p3)), (4, ((kint .i64).V p5)), (5, ((kint .i64).V p6)), (6, ((kint .u8).V p7)), (16, (ptrB b1 0)), (17, (ptrB b2 0)), (18, (kstr.V x6)), (19, ((kint .i64).V y1)), (100000, (known (.pointer (some ⟨0, 0, none⟩)) (ptrTo (karr 8 (kint .u32)) G_digest_first))), (100001, (known (.pointer (some ⟨1, 0, none⟩)) (ptrTo (karr 64 (kint .u32)) G_digest_rounds)))] a w → K12 a w := by
    intro y1 a45 w45 h11 s45
    unfold caballaw13_JournalOpens.j1 at h11
    refine hK12 _ _ ?_
    refine wp_seq_k fun K14 hK14 => wp_seq_k fun K15 hK15 => ?_
    refine wp_region_lit (qs s45 (.c1 rfl (mv rfl rfl) (.c1 rfl (ob_lenStr rfl Tryd.underlying9 (.tmp rfl)) (.c1 rfl (ob_eql rfl (.tmp rfl) (opd_int rfl)) (.ce (u 2 rfl (u 4 rfl (u 5 rfl (u 6 rfl (u 16 rfl (u 17 rfl (u 18 rfl (u 19 rfl (u 51 rfl (u 100000 rfl (u 100001 rfl .nil))))))))))))))) fun _ _ s49 => wn hK15 ?_); clear s45
    have hj2 : ∀ (y2 : (List Int)) (a : Act) (w : World), (caballaw13_JournalOpens.j2 k p5 y1 x4 x5 x6 p7 p6) y2 = some r → St ⟨202, w0, ok, []⟩ [BF b1 68 (ko_disk_Disk_0_1 v1 v2) (⟨[], [], x4.fuse, x4.dead⟩ : disk_Disk), BF b2 49 (ko_cabalref12_Disk_0_1_2 v3 v4 v5) (⟨[], [], [], x5.Fuse, x5.Dead⟩ : cabalref12_Disk), RowF v1 100 (karr 256 (kint .u8)) x4.firm, RowF v2 102 k_disk_write x4.loose, RowF v3 9 kstr x5.Firm, RowF v4 3 (kint .i64) x5.At, RowF v5 9 kstr x5.Data] [(2, (kstr.V y2)), (4, ((kint .i64).V p5)), (5, ((kint .i64).V p6)), (6, ((kint .u8).V p7)), (16, (ptrB b1 0)), (17, (ptrB b2 0)), (18, (kstr.V x6)), (19, ((kint .i64).V y1)), (100000, (known (.pointer (some ⟨0, 0, none⟩)) (ptrTo (karr 8 (kint .u32)) G_digest_first))), (100001, (known (.pointer (some ⟨1, 0, none⟩)) (ptrTo (karr 64 (kint .u32)) G_digest_rounds)))] a w → K14 a w := by
     intro y2 a50 w50 h12 s50
     unfold caballaw13_JournalOpens.j2 at h12
     refine hK14 _ _ ?_
     refine wp_seq_k fun K16 hK16 => wp_seq_k fun K17 hK17 => ?_
     obtain ⟨x7, e_x7, h13⟩ := bind_some h12; clear h12; replace e_x7 := Option.some.inj e_x7
     refine wp_region_lit (qs s50 (.c1 rfl (mv rfl rfl) (.c1 rfl (ob_geq rfl (.tmp rfl) (opd_int rfl)) (.c1 rfl (mv rfl rfl) (.cg rfl rfl rfl rfl (fun hb => ob_move rfl (.tmp rfl)) (.cg rfl rfl rfl rfl (fun hb => (Ob.uncond (t := 59) hb rfl (ob_lss rfl (.tmp rfl) (opd_int rfl)))) (.c1 rfl ((ob_and2 rfl (.tmp rfl) (.tmp rfl) opd_bool).nm e_x7) (.ce (u 2 rfl (u 4 rfl (u 5 rfl (u 6 rfl (u 16 rfl (u 17 rfl (u 18 rfl (u 19 rfl (u 61 rfl (u 100000 rfl (u 100001 rfl .nil)))))))))))))))))) fun _ _ s57 => wn hK17 ?_); clear s50
     have hj3 : ∀ (y3 : (List Int)) (a : Act) (w : World), (caballaw13_JournalOpens.j3 k x4 x5 x6 y1 p7 p6) y3 = some r → St ⟨202, w0, ok, []⟩ [BF b1 68 (ko_disk_Disk_0_1 v1 v2) (⟨[], [], x4.fuse, x4.dead⟩ : disk_Disk), BF b2 49 (ko_cabalref12_Disk_0_1_2 v3 v4 v5) (⟨[], [], [], x5.Fuse, x5.Dead⟩ : cabalref12_Disk), RowF v1 100 (karr 256 (kint .u8)) x4.firm, RowF v2 102 k_disk_write x4.loose, RowF v3 9 kstr x5.Firm, RowF v4 3 (kint .i64) x5.At, RowF v5 9 kstr x5.Data] [(2, (kstr.V y3)), (5, ((kint .i64).V p6)), (6, ((kint .u8).V p7)), (16, (ptrB b1 0)), (17, (ptrB b2 0)), (18, (kstr.V x6)), (19, ((kint .i64).V y1)), (100000, (known (.pointer (some ⟨0, 0, none⟩)) (ptrTo (karr 8 (kint .u32)) G_digest_first))), (100001, (known (.pointer (some ⟨1, 0, none⟩)) (ptrTo (karr 64 (kint .u32)) G_digest_rounds)))] a w → K16 a w := by
      intro y3 a58 w58 h14 s58
      unfold caballaw13_JournalOpens.j3 at h14
      refine hK16 _ _ ?_
      obtain ⟨x8, e_x8, h15⟩ := bind_some h14; clear h14
      refine wp_seq_k fun K18 hK18 => wp_region_lit (qs s58 (.c1 rfl (mv rfl rfl) (.c1 rfl (mv rfl rfl) (.c1 rfl (mv rfl rfl) .cz))) fun _ _ s61 => ?_); clear s58
      refine qx (B' := (fun gg : Value × Value × Value × Value × Value => [BF b1 68 (ko_disk_Disk_0_1 gg.1 gg.2.1) (⟨[], [], x8.1.fuse, x8.1.dead⟩ : disk_Disk), RowF gg.1 100 (karr 256 (kint .u8)) x8.1.firm, RowF gg.2.1 102 k_disk_write x8.1.loose, BF b2 49 (ko_cabalref12_Disk_0_1_2 gg.2.2.1 gg.2.2.2.1 gg.2.2.2.2) (⟨[], [], [], x8.2.Fuse, x8.2.Dead⟩ : cabalref12_Disk), RowF gg.2.2.1 9 kstr x8.2.Firm, RowF gg.2.2.2.1 3 (kint .i64) x8.2.At, RowF gg.2.2.2.2 9 kstr x8.2.Data])) s61 rfl (ob_callL0 (args := [_, _, _, _]) (L := [_, _, _, _, _, _, _]) rfl .direct hb17 (toFront [] (toFront [_] (toFront [_] (toFront [] (toFront [] (toFront [] (toFront [] (List.Perm.refl _)))))))) (fun a w s => by exact c_caballaw13_lay k _ _ _ _ _ e_x8 _ _ _ _ _ _ _ _ _ _ _ _ _ (ownL s) (disL s) (nodL s) (s.arg (.tmp rfl)) (s.arg (.tmp rfl)) (s.arg (opd_int rfl)) (s.arg (.tmp rfl))) (by exact fun _ => rfl)) fun gg62 _ _ s62 => ?_; clear s61
      obtain ⟨v6, v7, v8, v9, v10⟩ := gg62
      refine wn hK18 ?_
      have s63 := s62.sub (u 5 rfl (u 6 rfl (u 16 rfl (u 17 rfl (u 18 rfl (u 19 rfl (u 100000 rfl (u 100001 rfl .nil)))))))); clear s62
      refine wp_seq_k fun K19 hK19 => wp_seq_k fun K20 hK20 => ?_
      refine wp_region_lit (qs s63 (.c1 rfl (ob_assign rfl (opd_int rfl)) (.ce (u 5 rfl (u 6 rfl (u 16 rfl (u 17 rfl (u 18 rfl (u 19 rfl (u 20 rfl (u 100000 rfl (u 100001 rfl .nil))))))))))) fun _ _ s65 => wn hK20 ?_); clear s63
      have hj4 : ∀ (y4 : Int) (y5 : Bool) (y6 : Int) (y7 : Bool) (y8 : (List (List Int))) (y9 : (List disk_write)) (y10 : (List (List Int))) (y11 : (List Int)) (y12 : (List (List Int))) (v11 : Value) (v12 : Value) (v13 : Value) (v14 : Value) (v15 : Value) (a : Act) (w : World), (caballaw13_JournalOpens.j4 k p7 p6) y4 y5 y6 y7 y8 y9 y10 y11 y12 = some r → St ⟨202, w0, ok, []⟩ [BF b1 68 (ko_disk_Disk_0_1 v11 v12) (⟨[], [], y4, y5⟩ : disk_Disk), BF b2 49 (ko_cabalref12_Disk_0_1_2 v13 v14 v15) (⟨[], [], [], y6, y7⟩ : cabalref12_Disk), RowF v11 100 (karr 256 (kint .u8)) y8, RowF v12 102 k_disk_write y9, RowF v13 9 kstr y10, RowF v14 3 (kint .i64) y11, RowF v15 9 kstr y12] [(5, ((kint .i64).V p6)), (6, ((kint .u8).V p7)), (16, (ptrB b1 0)), (17, (ptrB b2 0)), (100000, (known (.pointer (some ⟨0, 0, none⟩)) (ptrTo (karr 8 (kint .u32)) G_digest_first))), (100001, (known (.pointer (some ⟨1, 0, none⟩)) (ptrTo (karr 64 (kint .u32)) G_digest_rounds)))] a w → K19 a w := by
       intro y4 y5 y6 y7 y8 y9 y10 y11 y12 v11 v12 v13 v14 v15 a66 w66 h16 s66
       unfold caballaw13_JournalOpens.j4 at h16
       refine hK19 _ _ ?_
       refine wp_seq_k fun K21 hK21 => wp_seq_k fun K22 hK22 => ?_
       refine wp_region_lit (qs s66 (.c1 rfl (mv rfl rfl) (.c1 rfl (ob_neq rfl (.tmp rfl) (opd_int rfl)) (.ce (u 5 rfl (u 6 rfl (u 16 rfl (u 17 rfl (u 101 rfl (u 100000 rfl (u 100001 rfl .nil)))))))))) fun _ _ s69 => wn hK22 ?_); clear s66
       have hj5 : ∀ (y13 : Int) (y14 : Bool) (y15 : Int) (y16 : Bool) (y17 : (List (List Int))) (y18 : (List disk_write)) (y19 : (List (List Int))) (y20 : (List Int)) (y21 : (List (List Int))) (v16 : Value) (v17 : Value) (v18 : Value) (v19 : Value) (v20 : Value) (a : Act) (w : World), (caballaw13_JournalOpens.j5 k) y13 y14 y15 y16 y17 y18 y19 y20 y21 = some r → St ⟨202, w0, ok, []⟩ [BF b1 68 (ko_disk_Disk_0_1 v16 v17) (⟨[], [], y13, y14⟩ : disk_Disk), BF b2 49 (ko_cabalref12_Disk_0_1_2 v18 v19 v20) (⟨[], [], [], y15, y16⟩ : cabalref12_Disk), RowF v16 100 (karr 256 (kint .u8)) y17, RowF v17 102 k_disk_write y18, RowF v18 9 kstr y19, RowF v19 3 (kint .i64) y20, RowF v20 9 kstr y21] [(16, (ptrB b1 0)), (17, (ptrB b2 0)), (100000, (known (.pointer (some ⟨0, 0, none⟩)) (ptrTo (karr 8 (kint .u32)) G_digest_first))), (100001, (known (.pointer (some ⟨1, 0, none⟩)) (ptrTo (karr 64 (kint .u32)) G_digest_rounds)))] a w → K21 a w := by
        intro y13 y14 y15 y16 y17 y18 y19 y20 y21 v16 v17 v18 v19 v20 a70 w70 h17 s70
        unfold caballaw13_JournalOpens.j5 at h17
        refine hK21 _ _ ?_
        obtain ⟨x9, e_x9, h18⟩ := bind_some h17; clear h17
        refine wp_seq_k fun K23 hK23 => wp_region_lit (qs s70 (.c1 rfl (mv rfl rfl) .cz) fun _ _ s71 => ?_); clear s70
        refine qx (B' := (fun gg : Nat × Value × Value => [whenO x9.1 (BF gg.1 70 (ko_journal_Journal_0 (.pointer (some ⟨b1, 0, none⟩))) (⟨(), x9.2.1.area, x9.2.1.bytes, x9.2.1.l⟩ : journal_Journal)), BF b1 68 (ko_disk_Disk_0_1 gg.2.1 gg.2.2) (⟨[], [], x9.2.2.2.fuse, x9.2.2.2.dead⟩ : disk_Disk), RowF gg.2.1 100 (karr 256 (kint .u8)) x9.2.2.2.firm, RowF gg.2.2 102 k_disk_write x9.2.2.2.loose, BF b2 49 (ko_cabalref12_Disk_0_1_2 v18 v19 v20) (⟨[], [], [], y15, y16⟩ : cabalref12_Disk), RowF v18 9 kstr y19, RowF v19 3 (kint .i64) y20, RowF v20 9 kstr y21])) s71 rfl (ob_callL0 (args := [_]) (L := [_, _, _]) rfl .direct hb8 (toFront [] (toFront [_] (toFront [_] (List.Perm.refl _)))) (fun a w s => by exact c_journal_Open k _ _ e_x9 _ _ (s.env _ _ (show get _ 100000 = _ from rfl)) (s.env _ _ (show get _ 100001 = _ from rfl)) _ _ _ _ (ownL s) (disL s) (nodL s) (s.arg (.tmp rfl))) (by exact fun _ => rfl)) fun gg72 _ _ s72 => ?_; clear s71
        obtain ⟨b3, v21, v22⟩ := gg72
        refine qs s72 (.c1 rfl (mv rfl rfl) (.c1 rfl (ob_extract rfl (.tmp rfl) rfl) (.c1 rfl (ob_extract rfl (.tmp rfl) rfl) (.c1 rfl (ob_assign rfl (.tmp rfl)) (.c1 rfl (ob_assign rfl (.tmp rfl)) .cz))))) fun _ _ s77 => ?_; clear s72
        refine wpList_nil ?_
        refine bool_split x9.1 (fun hc3 => ?_) (fun hc3 => ?_)
        ·have h19 := ite_t hc3 h18; clear h18
         have s78 := St.whenT hc3 s77; clear s77
         have s79 := St.optT (t := 143) hc3 rfl s78; clear s78
         have s80 := St.optT (t := 24) hc3 rfl s79; clear s79
         refine then_normal (hK23 _ _ ?_)
         have s81 := s80.sub (u 17 rfl (u 24 rfl (u 25 rfl (u 100000 rfl (u 100001 rfl .nil))))); clear s80
         obtain ⟨x10, e_x10, h20⟩ := bind_some h19; clear h19
         refine wp_seq_k fun K24 hK24 => wp_region_lit (qs s81 (.c1 rfl (mv rfl rfl) .cz) fun _ _ s82 => ?_); clear s81
         refine qx (B' := (fun gg : Nat × Value × Value × Value => [whenO x10.1 (BF gg.1 56 (ko_cabalref13_Journal_0 (.pointer (some ⟨b2, 0, none⟩))) (⟨(), x10.2.1.Area, x10.2.1.L⟩ : cabalref13_Journal)), BF b2 49 (ko_cabalref12_Disk_0_1_2 gg.2.1 gg.2.2.1 gg.2.2.2) (⟨[], [], [], x10.2.2.2.Fuse, x10.2.2.2.Dead⟩ : cabalref12_Disk), RowF gg.2.1 9 kstr x10.2.2.2.Firm, RowF gg.2.2.1 3 (kint .i64) x10.2.2.2.At, RowF gg.2.2.2 9 kstr x10.2.2.2.Data, BF b3 70 (ko_journal_Journal_0 (.pointer (some ⟨b1, 0, none⟩))) (⟨(), x9.2.1.area, x9.2.1.bytes, x9.2.1.l⟩ : journal_Journal), BF b1 68 (ko_disk_Disk_0_1 v21 v22) (⟨[], [], x9.2.2.2.fuse, x9.2.2.2.dead⟩ : disk_Disk), RowF v21 100 (karr 256 (kint .u8)) x9.2.2.2.firm, RowF v22 102 k_disk_write x9.2.2.2.loose])) s82 rfl (ob_callL0 (args := [_]) (L := [_, _, _, _]) rfl .direct hb19 (toFront [_, _, _, _] (toFront [_, _, _, _] (toFront [_, _, _, _] (toFront [_, _, _, _] (List.Perm.refl _))))) (fun a w s => by exact c_cabalref13_Open k _ _ e_x10 _ _ _ _ _ _ _ (ownL s) (disL s) (nodL s) (s.arg (.tmp rfl))) (by exact fun _ => rfl)) fun gg83 _ _ s83 => ?_; clear s82
         obtain ⟨b4, v23, v24, v25⟩ := gg83
         refine qs s83 (.c1 rfl (mv rfl rfl) (.c1 rfl (ob_extract rfl (.tmp rfl) rfl) (.c1 rfl (ob_extract rfl (.tmp rfl) rfl) (.c1 rfl (ob_assign rfl (.tmp rfl)) (.c1 rfl (ob_assign rfl (.tmp rfl)) .cz))))) fun _ _ s88 => ?_; clear s83
         refine wpList_nil ?_
         refine bool_split x10.1 (fun hc4 => ?_) (fun hc4 => ?_)
         ·have h21 := ite_t hc4 h20; clear h20
          have s89 := St.whenT hc4 s88; clear s88
          have s90 := St.optT (t := 148) hc4 rfl s89; clear s89
          have s91 := St.optT (t := 26) hc4 rfl s90; clear s90
          refine then_normal (hK24 _ _ ?_)
          have s92 := s91.sub (u 24 rfl (u 25 rfl (u 26 rfl (u 27 rfl (u 100000 rfl (u 100001 rfl .nil)))))); clear s91
          refine wp_seq_k fun K25 hK25 => wp_seq_k fun K26 hK26 => ?_
          refine wp_region_lit (qs s92 (.c1 rfl (mv rfl rfl) (.c1 rfl (mv rfl rfl) (.c1 rfl (ob_neq rfl (.tmp rfl) (.tmp rfl)) (.c1 rfl (mv rfl rfl) (.cg rfl rfl rfl rfl (fun hb => ob_move rfl (.tmp rfl)) (.cg rfl rfl rfl rfl (fun hb => (Ob.uncond (t := 154) hb rfl (ob_ptrNil (p := some _) rfl pt26 (.tmp rfl) opd_is))) (.cg rfl rfl rfl rfl (fun hb => ob_move rfl (.tmp rfl)) (.cg rfl rfl rfl rfl (fun hb => (Ob.uncond (t := 156) hb rfl (ob_ptrNil (p := some _) rfl pt50 (.tmp rfl) opd_is))) (.cg rfl rfl rfl rfl (fun hb => (Ob.uncond (t := 157) hb rfl ((Ob.uncond (t := 155) hb rfl ((ob_bneq rfl Tryd.underlying4 (.tmp rfl) (.tmp rfl)).nm (Y := false) (by rfl)))))) (.c1 rfl (ob_or2 rfl (.tmp rfl) opd_bool (.tmp rfl)) (.ce (u 24 rfl (u 26 rfl (u 159 rfl (u 100000 rfl (u 100001 rfl .nil)))))))))))))))) fun _ _ s103 => wn hK26 ?_); clear s92
          refine cond_split s103 (.tmp rfl) (fun hc5 => ?_) (fun hc5 => ?_)
          ·have h22 := ite_t hc5 h21; clear h21
           refine wp_seq_k fun K27 hK27 => wp_region_lit (qs s103 (.c1 rfl (ob_assign rfl opd_bool) (.ce (u 14 rfl (u 100000 rfl (u 100001 rfl .nil))))) fun _ _ s105 => wn hK27 ?_); clear s103
           have s106 := St.drop (A := []) s105; clear s105
           have s107 := St.drop (A := []) s106; clear s106
           have s108 := St.drop (A := []) s107; clear s107
           have s109 := St.drop (A := []) s108; clear s108
           have s110 := St.drop (A := []) s109; clear s109
           have s111 := St.drop (A := []) s110; clear s110
           have s112 := St.drop (A := []) s111; clear s111
           have s113 := St.drop (A := []) s112; clear s112
           have s114 := St.drop (A := []) s113; clear s113
           refine wp_ret ?_
           obtain rfl := Option.some.inj h22
           exact leave s114 (.inl rfl) rfl (.cons (.tmp rfl) .nil)
          ·have h23 := ite_f hc5 h21; clear h21
           refine wp_skip ?_
           refine then_normal (hK25 _ _ ?_)
           have s115 := s103.sub (u 24 rfl (u 26 rfl (u 100000 rfl (u 100001 rfl .nil)))); clear s103
           refine wp_seq_k fun K28 hK28 => wp_seq_k fun K29 hK29 => ?_
           refine wp_region_lit (qs s115 (.c1 rfl (mv rfl rfl) (.c1 rfl (ob_ptrNil (p := some _) rfl pt50 (.tmp rfl) opd_is) (.ce (u 24 rfl (u 26 rfl (u 161 rfl (u 100000 rfl (u 100001 rfl .nil)))))))) fun _ _ s118 => wn hK29 ?_); clear s115
           refine cond_f s118 (.tmp rfl) ?_
           refine wp_skip ?_
           refine then_normal (hK28 _ _ ?_)
           have s119 := s118.sub (u 24 rfl (u 26 rfl (u 100000 rfl (u 100001 rfl .nil)))); clear s118
           refine wp_seq_k fun K30 hK30 => ?_
           have s120 := s119.perm (toFront [_, _, _, _, _] (toFront [_, _, _, _, _] (toFront [_, _, _, _, _] (toFront [_, _, _, _, _] (List.Perm.refl _))))); clear s119
           obtain ⟨x11, e_x11, h24⟩ := bind_some h23; clear h23
           obtain ⟨x12, e_x12, h25⟩ := bind_some h24; clear h24
           obtain ⟨x13, e_x13, h26⟩ := bind_some h25; clear h25
           obtain ⟨x14, e_x14, h27⟩ := bind_some h26; clear h26
           refine wp_goes (Fs := [(kbool.V x11), (kbool.V x11), (Fact.when (x11 == true) (ptrB b3 0)), nofact, (Fact.when (x11 == true) (ptrB b4 0)), (Fact.when (x11 == true) (ptrB b4 0)), (Fact.when (x11 == true) (ptrB b4 2)), (Fact.when (x11 == true) ((ksl kstr).V x10.2.1.L)), nofact, nofact, nofact, nofact, nofact, nofact]) (bits := [0, 1, 3, 7, 3, 19, 51, 115, 255, 511, 1023, 2047, 4095, 2047, 16383, 32767, 65535, 131071]) (m := 14) (todo := 4104) mx s120 ?_; clear s120
           refine goes_turn (B' := (fun _ : Unit => [BF b3 70 (ko_journal_Journal_0 (.pointer (some ⟨b1, 0, none⟩))) (⟨(), x9.2.1.area, x9.2.1.bytes, x9.2.1.l⟩ : journal_Journal), BF b1 68 (ko_disk_Disk_0_1 v21 v22) (⟨[], [], x9.2.2.2.fuse, x9.2.2.2.dead⟩ : disk_Disk), RowF v21 100 (karr 256 (kint .u8)) x9.2.2.2.firm, RowF v22 102 k_disk_write x9.2.2.2.loose, BF b4 56 (ko_cabalref13_Journal_0 (.pointer (some ⟨b2, 0, none⟩))) (⟨(), x10.2.1.Area, x10.2.1.L⟩ : cabalref13_Journal), BF b2 49 (ko_cabalref12_Disk_0_1_2 v23 v24 v25) (⟨[], [], [], x10.2.2.2.Fuse, x10.2.2.2.Dead⟩ : cabalref12_Disk), RowF v23 9 kstr x10.2.2.2.Firm, RowF v24 3 (kint .i64) x10.2.2.2.At, RowF v25 9 kstr x10.2.2.2.Data])) (Fs' := (fun _ : Unit => setAll ([(kbool.V x11), (kbool.V x11), (Fact.when (x11 == true) (ptrB b3 0)), nofact, (Fact.when (x11 == true) (ptrB b4 0)), (Fact.when (x11 == true) (ptrB b4 0)), (Fact.when (x11 == true) (ptrB b4 2)), (Fact.when (x11 == true) ((ksl kstr).V x10.2.1.L)), nofact, nofact, nofact, nofact, nofact, nofact]) [(3, (Fact.when (x11 == true) ((ksl kstr).V x12))), (8, (Fact.when (x11 == true) (kbool.V x13))), (9, (kbool.V (if x11 then x13 else false))), (10, (kbool.V (if x11 then x13 else false))), (11, (Fact.when ((if x11 then x13 else false) == true) (ptrB b3 0))), (13, (Fact.when ((if x11 then x13 else false) == true) (ptrB b4 0)))])) 3 16136 15 4096 (by kernel_rfl) rfl rfl rfl (oc (av 100000 rfl rfl (av 100001 rfl rfl Av.nil)) rfl rfl (ob_callD0 (args := []) rfl .direct hb6 (fun a w s => by exact c_caballaw13_alive k _ e_x11 _ _ (s.env _ _ (show get _ 100000 = _ from rfl)) (s.env _ _ (show get _ 100001 = _ from rfl)))) (oc (an 0 rfl rfl rfl (av 100000 rfl rfl (av 100001 rfl rfl Av.nil))) rfl rfl (mv rfl rfl) (opsS_cons (.guarded _ (av 24 rfl rfl (an 1 rfl rfl rfl (av 100000 rfl rfl (av 100001 rfl rfl Av.nil)))) rfl rfl rfl rfl (fun hb => ob_move rfl (.tmp rfl))) (opsS_skip (by rfl) (opsS_cons (.guarded _ (av 26 rfl rfl (an 1 rfl rfl rfl (av 100000 rfl rfl (av 100001 rfl rfl Av.nil)))) rfl rfl rfl rfl (fun hb => ob_move rfl (.tmp rfl))) (opsS_cons (.guarded _ (an 1 rfl rfl rfl (an 4 rfl rfl rfl (av 100000 rfl rfl (av 100001 rfl rfl Av.nil)))) rfl rfl rfl rfl (fun hb => (Ob.uncond (t := 189) hb rfl (ob_nilCheck rfl (.tmp rfl))))) (opsS_cons (.guarded _ (an 1 rfl rfl rfl (an 5 rfl rfl rfl (av 100000 rfl rfl (av 100001 rfl rfl Av.nil)))) rfl rfl rfl rfl (fun hb => (Ob.uncond (t := 190) hb rfl (ob_fieldAddr (off' := 2) rfl Tryd.underlying56 rfl sz30 (by decide) (.tmp rfl) rfl)))) (opsS_cons (.guarded _ (an 1 rfl rfl rfl (an 6 rfl rfl rfl (av 100000 rfl rfl (av 100001 rfl rfl Av.nil)))) rfl rfl rfl rfl (fun hb => (Ob.uncond (t := 191) hb rfl (ob_load rfl tk30 (.tmp rfl) (.tail _ (.tail _ (.tail _ (.tail _ (.head _))))) (lgo_cabalref13_Journal_0_L (⟨(), x10.2.1.Area, x10.2.1.L⟩ : cabalref13_Journal)))))) (opsS_skip (by rfl) (opsS_skip (by rfl) (opsS_skip (by rfl) (opsS_skip (by rfl) (opsS_skip (by rfl) (opsS_skip (by rfl) opsS_nil)))))))))))))) (.guarded _ (an 1 rfl rfl rfl (an 2 rfl rfl rfl (av 100000 rfl rfl (av 100001 rfl rfl Av.nil)))) rfl rfl rfl (fun _ => rfl) (fun hb R => (ObX.uncond (t := 187) hb rfl (ob_callL0 (args := [_]) (L := [_, _, _, _]) rfl .direct hb13 (List.Perm.refl _) (fun a w s => by exact c_journal_Journal_Records k _ _ _ (ite_t hb e_x12) _ _ _ _ _ _ _ (ownL s) (disL s) (nodL s) (s.arg (.tmp rfl))) (by exact fun _ => rfl)))) (fun hb0 => by obtain rfl := Option.some.inj (ite_f hb0 e_x12); exact ⟨(), rfl⟩)) (setAll_same (us := (fun _ : Unit => [(3, (Fact.when (x11 == true) ((ksl kstr).V x12))), (8, (Fact.when (x11 == true) (kbool.V x13))), (9, (kbool.V (if x11 then x13 else false))), (10, (kbool.V (if x11 then x13 else false))), (11, (Fact.when ((if x11 then x13 else false) == true) (ptrB b3 0))), (13, (Fact.when ((if x11 then x13 else false) == true) (ptrB b4 0)))])) fun _ => by kernel_rfl) fun _ => ?_
           refine goes_turn (B' := (fun _ : Unit => [BF b3 70 (ko_journal_Journal_0 (.pointer (some ⟨b1, 0, none⟩))) (⟨(), x9.2.1.area, x9.2.1.bytes, x9.2.1.l⟩ : journal_Journal), BF b1 68 (ko_disk_Disk_0_1 v21 v22) (⟨[], [], x9.2.2.2.fuse, x9.2.2.2.dead⟩ : disk_Disk), RowF v21 100 (karr 256 (kint .u8)) x9.2.2.2.firm, RowF v22 102 k_disk_write x9.2.2.2.loose, BF b4 56 (ko_cabalref13_Journal_0 (.pointer (some ⟨b2, 0, none⟩))) (⟨(), x10.2.1.Area, x10.2.1.L⟩ : cabalref13_Journal), BF b2 49 (ko_cabalref12_Disk_0_1_2 v23 v24 v25) (⟨[], [], [], x10.2.2.2.Fuse, x10.2.2.2.Dead⟩ : cabalref12_Disk), RowF v23 9 kstr x10.2.2.2.Firm, RowF v24 3 (kint .i64) x10.2.2.2.At, RowF v25 9 kstr x10.2.2.2.Data])) (Fs' := (fun _ : Unit => setAll (setAll ([(kbool.V x11), (kbool.V x11), (Fact.when (x11 == true) (ptrB b3 0)), nofact, (Fact.when (x11 == true) (ptrB b4 0)), (Fact.when (x11 == true) (ptrB b4 0)), (Fact.when (x11 == true) (ptrB b4 2)), (Fact.when (x11 == true) ((ksl kstr).V x10.2.1.L)), nofact, nofact, nofact, nofact, nofact, nofact]) [(3, (Fact.when (x11 == true) ((ksl kstr).V x12))), (8, (Fact.when (x11 == true) (kbool.V x13))), (9, (kbool.V (if x11 then x13 else false))), (10, (kbool.V (if x11 then x13 else false))), (11, (Fact.when ((if x11 then x13 else false) == true) (ptrB b3 0))), (13, (Fact.when ((if x11 then x13 else false) == true) (ptrB b4 0)))]) [(12, (Fact.when ((if x11 then x13 else false) == true) ((kint .i64).V x14)))])) 12 4111 8191 0 (by kernel_rfl) rfl rfl rfl (opsS_skip (by rfl) (opsS_skip (by rfl) (opsS_skip (by rfl) (opsS_skip (by rfl) (opsS_cons (.guarded _ (av 26 rfl rfl (an 1 rfl rfl rfl (av 100000 rfl rfl (av 100001 rfl rfl Av.nil)))) rfl rfl rfl rfl (fun hb => ob_move rfl (.tmp rfl))) (opsS_cons (.guarded _ (an 1 rfl rfl rfl (an 4 rfl rfl rfl (av 100000 rfl rfl (av 100001 rfl rfl Av.nil)))) rfl rfl rfl rfl (fun hb => (Ob.uncond (t := 189) hb rfl (ob_nilCheck rfl (.tmp rfl))))) (opsS_cons (.guarded _ (an 1 rfl rfl rfl (an 5 rfl rfl rfl (av 100000 rfl rfl (av 100001 rfl rfl Av.nil)))) rfl rfl rfl rfl (fun hb => (Ob.uncond (t := 190) hb rfl (ob_fieldAddr (off' := 2) rfl Tryd.underlying56 rfl sz30 (by decide) (.tmp rfl) rfl)))) (opsS_cons (.guarded _ (an 1 rfl rfl rfl (an 6 rfl rfl rfl (av 100000 rfl rfl (av 100001 rfl rfl Av.nil)))) rfl rfl rfl rfl (fun hb => (Ob.uncond (t := 191) hb rfl (ob_load rfl tk30 (.tmp rfl) (.tail _ (.tail _ (.tail _ (.tail _ (.head _))))) (lgo_cabalref13_Journal_0_L (⟨(), x10.2.1.Area, x10.2.1.L⟩ : cabalref13_Journal)))))) (opsS_cons (.guarded _ (an 1 rfl rfl rfl (an 3 rfl rfl rfl (an 7 rfl rfl rfl (av 100000 rfl rfl (av 100001 rfl rfl Av.nil))))) rfl rfl rfl rfl (fun hb => (Ob.uncond (t := 192) hb rfl ((Ob.uncond (t := 188) hb rfl (ob_callD0 (args := [_, _]) rfl .direct hb12 (fun a w s => by exact c_cabalref13_Same k _ _ _ (ite_t hb e_x13) _ _ _ _ (s.arg (.tmp rfl)) (s.arg (.tmp rfl))))))))) (oc (an 1 rfl rfl rfl (an 8 rfl rfl rfl (av 100000 rfl rfl (av 100001 rfl rfl Av.nil)))) rfl rfl (ob_and2 rfl (.tmp rfl) (.tmp rfl) opd_bool) (oc (an 9 rfl rfl rfl (av 100000 rfl rfl (av 100001 rfl rfl Av.nil))) rfl rfl (mv rfl rfl) (opsS_cons (.guarded _ (av 24 rfl rfl (an 10 rfl rfl rfl (av 100000 rfl rfl (av 100001 rfl rfl Av.nil)))) rfl rfl rfl rfl (fun hb => ob_move rfl (.tmp rfl))) (opsS_skip (by rfl) (opsS_cons (.guarded _ (av 26 rfl rfl (an 10 rfl rfl rfl (av 100000 rfl rfl (av 100001 rfl rfl Av.nil)))) rfl rfl rfl rfl (fun hb => ob_move rfl (.tmp rfl))) opsS_nil)))))))))))))) (.guarded _ (an 10 rfl rfl rfl (an 11 rfl rfl rfl (av 100000 rfl rfl (av 100001 rfl rfl Av.nil)))) rfl rfl rfl (fun _ => rfl) (fun hb R => (ObX.uncond (t := 196) hb rfl (ob_callL0 (args := [_]) (L := [_, _, _, _]) rfl .direct hb20 (List.Perm.refl _) (fun a w s => by exact c_journal_Journal_Room k _ _ _ (ite_t hb e_x14) _ _ _ _ _ _ _ (ownL s) (disL s) (nodL s) (s.arg (.tmp rfl))) (by exact fun _ => rfl)))) (fun hb0 => by obtain rfl := Option.some.inj (ite_f hb0 e_x14); exact ⟨(), rfl⟩)) (setAll_same (us := (fun _ : Unit => [(12, (Fact.when ((if x11 then x13 else false) == true) ((kint .i64).V x14)))])) fun _ => by kernel_rfl) fun _ => ?_
           refine goes_last (by kernel_rfl) rfl (opsS_skip (by rfl) (opsS_skip (by rfl) (opsS_skip (by rfl) (opsS_skip (by rfl) (opsS_skip (by rfl) (opsS_skip (by rfl) (opsS_skip (by rfl) (opsS_skip (by rfl) (opsS_skip (by rfl) (opsS_skip (by rfl) (opsS_skip (by rfl) (opsS_skip (by rfl) (opsS_skip (by rfl) (opsS_cons (.guarded _ (av 26 rfl rfl (an 10 rfl rfl rfl (av 100000 rfl rfl (av 100001 rfl rfl Av.nil)))) rfl rfl rfl rfl (fun hb => ob_move rfl (.tmp rfl))) opsS_nil)))))))))))))) (out_new (i := 10) (by decide) rfl rfl (out_new (i := 12) (by decide) rfl rfl (out_new (i := 13) (by decide) rfl rfl (out_old (t := 100000) rfl rfl (out_old (t := 100001) rfl rfl out_nil))))) fun _ _ s121 => ?_
           have s122 := s121.perm (toFront [_, _, _, _] (toFront [_, _, _, _] (toFront [_, _, _, _] (toFront [_, _, _, _] (toFront [_, _, _, _] (List.Perm.refl _)))))); clear s121
           obtain ⟨x15, e_x15, h28⟩ := bind_some h27; clear h27
           refine seq_opxg (B1 := (fun _ : Unit => [BF b4 56 (ko_cabalref13_Journal_0 (.pointer (some ⟨b2, 0, none⟩))) (⟨(), x10.2.1.Area, x10.2.1.L⟩ : cabalref13_Journal), BF b2 49 (ko_cabalref12_Disk_0_1_2 v23 v24 v25) (⟨[], [], [], x10.2.2.2.Fuse, x10.2.2.2.Dead⟩ : cabalref12_Disk), RowF v23 9 kstr x10.2.2.2.Firm, RowF v24 3 (kint .i64) x10.2.2.2.At, RowF v25 9 kstr x10.2.2.2.Data, BF b3 70 (ko_journal_Journal_0 (.pointer (some ⟨b1, 0, none⟩))) (⟨(), x9.2.1.area, x9.2.1.bytes, x9.2.1.l⟩ : journal_Journal), BF b1 68 (ko_disk_Disk_0_1 v21 v22) (⟨[], [], x9.2.2.2.fuse, x9.2.2.2.dead⟩ : disk_Disk), RowF v21 100 (karr 256 (kint .u8)) x9.2.2.2.firm, RowF v22 102 k_disk_write x9.2.2.2.loose])) s122 rfl rfl rfl rfl (of_decide_eq_true rfl) (fun hb => (ObX.uncond (t := 198) hb rfl (ob_callL0 (args := [_]) (L := [_, _, _, _, _]) rfl .direct hb22 (List.Perm.refl _) (fun a w s => by exact c_cabalref13_Journal_Room k _ _ _ (ite_t hb e_x15) _ _ _ _ _ _ _ _ (ownL s) (disL s) (nodL s) (s.arg (.tmp rfl))) (by exact fun _ => rfl)))) (fun hb0 => by obtain rfl := Option.some.inj (ite_f hb0 e_x15); exact ⟨(), rfl⟩) fun _ a123 w123 s123 => ?_; clear s122
           refine qs s123 (.cg rfl rfl rfl rfl (fun hb => (Ob.uncond (t := 199) hb rfl ((Ob.uncond (t := 197) hb rfl (ob_eql rfl (.tmp rfl) (.tmp rfl)))))) (.c1 rfl (ob_and2 rfl (.tmp rfl) (.tmp rfl) opd_bool) (.c1 rfl (ob_assign rfl (.tmp rfl)) (.ce (u 14 rfl (u 100000 rfl (u 100001 rfl .nil))))))) fun _ _ s127 => wn hK30 ?_; clear s123
           have s128 := St.drop (A := []) s127; clear s127
           have s129 := St.drop (A := []) s128; clear s128
           have s130 := St.drop (A := []) s129; clear s129
           have s131 := St.drop (A := []) s130; clear s130
           have s132 := St.drop (A := []) s131; clear s131
           have s133 := St.drop (A := []) s132; clear s132
           have s134 := St.drop (A := []) s133; clear s133
           have s135 := St.drop (A := []) s134; clear s134
           have s136 := St.drop (A := []) s135; clear s135
           refine wp_ret ?_
           obtain rfl := Option.some.inj h28
           exact leave s136 (.inl rfl) rfl (.cons (.tmp rfl) .nil)
         ·have h29 := ite_f hc4 h20; clear h20
          have s137 := St.whenF hc4 s88; clear s88
          have s138 := St.optF (t := 148) hc4 rfl s137; clear s137
          have s139 := St.optF (t := 26) hc4 rfl s138; clear s138
          refine then_normal (hK24 _ _ ?_)
          have s140 := s139.sub (u 24 rfl (u 25 rfl (u 26 rfl (u 27 rfl (u 100000 rfl (u 100001 rfl .nil)))))); clear s139
          have s141 := St.drop (A := []) s140; clear s140
          have s142 := St.drop (A := []) s141; clear s141
          have s143 := St.drop (A := []) s142; clear s142
          have s144 := St.drop (A := []) s143; clear s143
          refine wp_seq_k fun K31 hK31 => wp_seq_k fun K32 hK32 => ?_
          refine wp_region_lit (qs s144 (.c1 rfl (mv rfl rfl) (.c1 rfl (mv rfl rfl) (.c1 rfl (ob_neq rfl (.tmp rfl) (.tmp rfl)) (.c1 rfl (mv rfl rfl) (.cg rfl rfl rfl rfl (fun hb => ob_move rfl (.tmp rfl)) (.cg rfl rfl rfl rfl (fun hb => (Ob.uncond (t := 154) hb rfl (ob_ptrNil (p := some _) rfl pt26 (.tmp rfl) opd_is))) (.cg rfl rfl rfl rfl (fun hb => ob_move rfl (.tmp rfl)) (.cg rfl rfl rfl rfl (fun hb => (Ob.uncond (t := 156) hb rfl (ob_ptrNil (p := none) rfl pt50 (.tmp rfl) opd_is))) (.cg rfl rfl rfl rfl (fun hb => (Ob.uncond (t := 157) hb rfl ((Ob.uncond (t := 155) hb rfl ((ob_bneq rfl Tryd.underlying4 (.tmp rfl) (.tmp rfl)).nm (Y := true) (by rfl)))))) (.c1 rfl ((ob_or2 rfl (.tmp rfl) opd_bool (.tmp rfl)).nm (Y := true) (ite_self _)) (.ce (u 24 rfl (u 26 rfl (u 159 rfl (u 100000 rfl (u 100001 rfl .nil)))))))))))))))) fun _ _ s155 => wn hK32 ?_); clear s144
          refine cond_t s155 (.tmp rfl) ?_
          refine wp_seq_k fun K33 hK33 => wp_region_lit (qs s155 (.c1 rfl (ob_assign rfl opd_bool) (.ce (u 14 rfl (u 100000 rfl (u 100001 rfl .nil))))) fun _ _ s157 => wn hK33 ?_); clear s155
          have s158 := St.drop (A := []) s157; clear s157
          have s159 := St.drop (A := []) s158; clear s158
          have s160 := St.drop (A := []) s159; clear s159
          have s161 := St.drop (A := []) s160; clear s160
          refine wp_ret ?_
          obtain rfl := Option.some.inj h29
          exact leave s161 (.inl rfl) rfl (.cons (.tmp rfl) .nil)
        ·have h30 := ite_f hc3 h18; clear h18
         have s162 := St.whenF hc3 s77; clear s77
         have s163 := St.optF (t := 143) hc3 rfl s162; clear s162
         have s164 := St.optF (t := 24) hc3 rfl s163; clear s163
         refine then_normal (hK23 _ _ ?_)
         have s165 := s164.sub (u 17 rfl (u 24 rfl (u 25 rfl (u 100000 rfl (u 100001 rfl .nil))))); clear s164
         have s166 := St.drop (A := []) s165; clear s165
         have s167 := St.drop (A := []) s166; clear s166
         have s168 := St.drop (A := []) s167; clear s167
         obtain ⟨x16, e_x16, h31⟩ := bind_some h30; clear h30
         refine wp_seq_k fun K34 hK34 => wp_region_lit (qs s168 (.c1 rfl (mv rfl rfl) .cz) fun _ _ s169 => ?_); clear s168
         refine qx (B' := (fun gg : Nat × Value × Value × Value => [whenO x16.1 (BF gg.1 56 (ko_cabalref13_Journal_0 (.pointer (some ⟨b2, 0, none⟩))) (⟨(), x16.2.1.Area, x16.2.1.L⟩ : cabalref13_Journal)), BF b2 49 (ko_cabalref12_Disk_0_1_2 gg.2.1 gg.2.2.1 gg.2.2.2) (⟨[], [], [], x16.2.2.2.Fuse, x16.2.2.2.Dead⟩ : cabalref12_Disk), RowF gg.2.1 9 kstr x16.2.2.2.Firm, RowF gg.2.2.1 3 (kint .i64) x16.2.2.2.At, RowF gg.2.2.2 9 kstr x16.2.2.2.Data])) s169 rfl (ob_callL0 (args := [_]) (L := [_, _, _, _]) rfl .direct hb19 (List.Perm.refl _) (fun a w s => by exact c_cabalref13_Open k _ _ e_x16 _ _ _ _ _ _ _ (ownL s) (disL s) (nodL s) (s.arg (.tmp rfl))) (by exact fun _ => rfl)) fun gg170 _ _ s170 => ?_; clear s169
         obtain ⟨b5, v26, v27, v28⟩ := gg170
         refine qs s170 (.c1 rfl (mv rfl rfl) (.c1 rfl (ob_extract rfl (.tmp rfl) rfl) (.c1 rfl (ob_extract rfl (.tmp rfl) rfl) (.c1 rfl (ob_assign rfl (.tmp rfl)) (.c1 rfl (ob_assign rfl (.tmp rfl)) .cz))))) fun _ _ s175 => ?_; clear s170
         refine wpList_nil ?_
         refine bool_split x16.1 (fun hc8 => ?_) (fun hc8 => ?_)
         ·have h32 := ite_t hc8 h31; clear h31
          have s176 := St.whenT hc8 s175; clear s175
          have s177 := St.optT (t := 148) hc8 rfl s176; clear s176
          have s178 := St.optT (t := 26) hc8 rfl s177; clear s177
          refine then_normal (hK34 _ _ ?_)
          have s179 := s178.sub (u 24 rfl (u 25 rfl (u 26 rfl (u 27 rfl (u 100000 rfl (u 100001 rfl .nil)))))); clear s178
          refine wp_seq_k fun K35 hK35 => wp_seq_k fun K36 hK36 => ?_
          refine wp_region_lit (qs s179 (.c1 rfl (mv rfl rfl) (.c1 rfl (mv rfl rfl) (.c1 rfl (ob_neq rfl (.tmp rfl) (.tmp rfl)) (.c1 rfl (mv rfl rfl) (.cg rfl rfl rfl rfl (fun hb => ob_move rfl (.tmp rfl)) (.cg rfl rfl rfl rfl (fun hb => (Ob.uncond (t := 154) hb rfl (ob_ptrNil (p := none) rfl pt26 (.tmp rfl) opd_is))) (.cg rfl rfl rfl rfl (fun hb => ob_move rfl (.tmp rfl)) (.cg rfl rfl rfl rfl (fun hb => (Ob.uncond (t := 156) hb rfl (ob_ptrNil (p := some _) rfl pt50 (.tmp rfl) opd_is))) (.cg rfl rfl rfl rfl (fun hb => (Ob.uncond (t := 157) hb rfl ((Ob.uncond (t := 155) hb rfl ((ob_bneq rfl Tryd.underlying4 (.tmp rfl) (.tmp rfl)).nm (Y := true) (by rfl)))))) (.c1 rfl ((ob_or2 rfl (.tmp rfl) opd_bool (.tmp rfl)).nm (Y := true) (ite_self _)) (.ce (u 24 rfl (u 26 rfl (u 159 rfl (u 100000 rfl (u 100001 rfl .nil)))))))))))))))) fun _ _ s190 => wn hK36 ?_); clear s179
          refine cond_t s190 (.tmp rfl) ?_
          refine wp_seq_k fun K37 hK37 => wp_region_lit (qs s190 (.c1 rfl (ob_assign rfl opd_bool) (.ce (u 14 rfl (u 100000 rfl (u 100001 rfl .nil))))) fun _ _ s192 => wn hK37 ?_); clear s190
          have s193 := St.drop (A := []) s192; clear s192
          have s194 := St.drop (A := []) s193; clear s193
          have s195 := St.drop (A := []) s194; clear s194
          have s196 := St.drop (A := []) s195; clear s195
          have s197 := St.drop (A := []) s196; clear s196
          refine wp_ret ?_
          obtain rfl := Option.some.inj h32
          exact leave s197 (.inl rfl) rfl (.cons (.tmp rfl) .nil)
         ·have h33 := ite_f hc8 h31; clear h31
          have s198 := St.whenF hc8 s175; clear s175
          have s199 := St.optF (t := 148) hc8 rfl s198; clear s198
          have s200 := St.optF (t := 26) hc8 rfl s199; clear s199
          refine then_normal (hK34 _ _ ?_)
          have s201 := s200.sub (u 24 rfl (u 25 rfl (u 26 rfl (u 27 rfl (u 100000 rfl (u 100001 rfl .nil)))))); clear s200
          have s202 := St.drop (A := []) s201; clear s201
          have s203 := St.drop (A := []) s202; clear s202
          have s204 := St.drop (A := []) s203; clear s203
          have s205 := St.drop (A := []) s204; clear s204
          refine wp_seq_k fun K38 hK38 => wp_seq_k fun K39 hK39 => ?_
          refine wp_region_lit (qs s205 (.c1 rfl (mv rfl rfl) (.c1 rfl (mv rfl rfl) (.c1 rfl (ob_neq rfl (.tmp rfl) (.tmp rfl)) (.c1 rfl (mv rfl rfl) (.cg rfl rfl rfl rfl (fun hb => ob_move rfl (.tmp rfl)) (.cg rfl rfl rfl rfl (fun hb => (Ob.uncond (t := 154) hb rfl (ob_ptrNil (p := none) rfl pt26 (.tmp rfl) opd_is))) (.cg rfl rfl rfl rfl (fun hb => ob_move rfl (.tmp rfl)) (.cg rfl rfl rfl rfl (fun hb => (Ob.uncond (t := 156) hb rfl (ob_ptrNil (p := none) rfl pt50 (.tmp rfl) opd_is))) (.cg rfl rfl rfl rfl (fun hb => (Ob.uncond (t := 157) hb rfl ((Ob.uncond (t := 155) hb rfl ((ob_bneq rfl Tryd.underlying4 (.tmp rfl) (.tmp rfl)).nm (Y := false) (by rfl)))))) (.c1 rfl (ob_or2 rfl (.tmp rfl) opd_bool (.tmp rfl)) (.ce (u 24 rfl (u 26 rfl (u 159 rfl (u 100000 rfl (u 100001 rfl .nil)))))))))))))))) fun _ _ s216 => wn hK39 ?_); clear s205
          refine cond_split s216 (.tmp rfl) (fun hc10 => ?_) (fun hc10 => ?_)
          ·have h34 := ite_t hc10 h33; clear h33
           refine wp_seq_k fun K40 hK40 => wp_region_lit (qs s216 (.c1 rfl (ob_assign rfl opd_bool) (.ce (u 14 rfl (u 100000 rfl (u 100001 rfl .nil))))) fun _ _ s218 => wn hK40 ?_); clear s216
           refine wp_ret ?_
           obtain rfl := Option.some.inj h34
           exact leave s218 (.inl rfl) rfl (.cons (.tmp rfl) .nil)
          ·have h35 := ite_f hc10 h33; clear h33
           refine wp_skip ?_
           refine then_normal (hK38 _ _ ?_)
           have s219 := s216.sub (u 24 rfl (u 26 rfl (u 100000 rfl (u 100001 rfl .nil)))); clear s216
           refine wp_seq_k fun K41 hK41 => wp_seq_k fun K42 hK42 => ?_
           refine wp_region_lit (qs s219 (.c1 rfl (mv rfl rfl) (.c1 rfl (ob_ptrNil (p := none) rfl pt50 (.tmp rfl) opd_is) (.ce (u 24 rfl (u 26 rfl (u 161 rfl (u 100000 rfl (u 100001 rfl .nil)))))))) fun _ _ s222 => wn hK42 ?_); clear s219
           refine cond_t s222 (.tmp rfl) ?_
           obtain ⟨x17, e_x17, h36⟩ := bind_some h35; clear h35
           obtain ⟨x18, e_x18, h37⟩ := bind_some h36; clear h36
           obtain ⟨x19, e_x19, h38⟩ := bind_some h37; clear h37
           obtain ⟨x20, e_x20, h39⟩ := bind_some h38; clear h38; replace e_x20 := Option.some.inj e_x20
           obtain ⟨x21, e_x21, h40⟩ := bind_some h39; clear h39
           obtain ⟨x22, e_x22, h41⟩ := bind_some h40; clear h40
           obtain ⟨x23, e_x23, h42⟩ := bind_some h41; clear h41; replace e_x23 := Option.some.inj e_x23
           refine wp_seq_k fun K43 hK43 => wp_region_lit (qs s222 (.c1 rfl (ob_callD0 (args := []) rfl .direct hb6 (fun a w s => by exact c_caballaw13_alive k _ e_x17 _ _ (s.env _ _ (show get _ 100000 = _ from rfl)) (s.env _ _ (show get _ 100001 = _ from rfl)))) (.c1 rfl (mv rfl rfl) (.cg rfl rfl rfl rfl (fun hb => ob_move rfl (.tmp rfl)) (.cg rfl rfl rfl rfl (fun hb => (ObF.ob ((ObF.uncond (t := 164) hb rfl (ob_callF (F := resFact [((ksl kstr).V x18)]) (args := [_]) rfl .direct hb13 (fun a w s fs gs hf hg => by obtain rfl := hf.unnil; obtain rfl := hg.unnil; exact c_journal_Journal_Records_nil k _ (ite_t hb e_x18) _ _ _ (s.arg (.tmp rfl))) (by exact fun g => ResF.all (.row (.head _) KFlat.str .nil))))))) (.cg rfl rfl rfl rfl (fun hb => (Ob.uncond (t := 165) hb rfl (ob_lens rfl Tryd.underlying30 (.tmp rfl)))) (.cg rfl rfl rfl rfl (fun hb => (Ob.uncond (t := 166) hb rfl (ob_eql rfl (.tmp rfl) (opd_int rfl)))) (.c1 rfl (ob_and2 rfl (.tmp rfl) (.tmp rfl) opd_bool) (.c1 rfl (mv rfl rfl) (.cg rfl rfl rfl rfl (fun hb => ob_move rfl (.tmp rfl)) (.cg rfl rfl rfl rfl (fun hb => (Ob.uncond (t := 170) hb rfl (ob_callD0 (args := [_]) rfl .direct hb20 (fun a w s => by exact c_journal_Journal_Room_nil k _ (ite_t hb e_x19) _ _ _ (s.arg (.tmp rfl)))))) (.cg rfl rfl rfl rfl (fun hb => (Ob.uncond (t := 171) hb rfl (ob_eql rfl (.tmp rfl) (opd_int rfl)))) (.c1 rfl ((ob_and2 rfl (.tmp rfl) (.tmp rfl) opd_bool).nm e_x20) (.c1 rfl (mv rfl rfl) (.cg rfl rfl rfl rfl (fun hb => ob_move rfl (.tmp rfl)) (.cg rfl rfl rfl rfl (fun hb => ob_mkSlice (k := kstr) (xs := ([([97] : List Int)] : (List (List Int)))) rfl Tryd.underlying30 zz9 sz9 Zr.str (by decide) (by decide) (.cons (opd_str (by rfl) (by decide)) rfl (LS.arr' (i := 0) (ys := ([([97] : List Int)] : (List (List Int)))) (by simp) (by rfl)) (.nil _))) (.cg rfl rfl rfl rfl (fun hb => (Ob.uncond (t := 176) hb rfl ((Ob.uncond (t := 175) hb rfl (ob_callD0 (args := [_, _]) rfl .direct hb11 (fun a w s => by exact c_journal_Journal_Append_nil k _ _ (ite_t hb e_x21) _ _ (s.env _ _ (show get _ 100000 = _ from rfl)) (s.env _ _ (show get _ 100001 = _ from rfl)) _ _ (s.arg (.tmp rfl)) (s.arg (.tmp rfl)))))))) (.cg rfl rfl rfl rfl (fun hb => (Ob.uncond (t := 177) hb rfl (ob_eql rfl (.tmp rfl) (opd_int rfl)))) (.c1 rfl (ob_and2 rfl (.tmp rfl) (.tmp rfl) opd_bool) (.c1 rfl (mv rfl rfl) (.cg rfl rfl rfl rfl (fun hb => ob_move rfl (.tmp rfl)) (.cg rfl rfl rfl rfl (fun hb => (Ob.uncond (t := 181) hb rfl (ob_callD0 (args := [_, _]) rfl .direct hb21 (fun a w s => by exact c_journal_Journal_Snap_nil k _ _ (ite_t hb e_x22) _ _ (s.env _ _ (show get _ 100000 = _ from rfl)) (s.env _ _ (show get _ 100001 = _ from rfl)) _ _ (s.arg (.tmp rfl)) (s.arg (opd_str (by rfl) (by decide))))))) (.cg rfl rfl rfl rfl (fun hb => (Ob.uncond (t := 182) hb rfl (ob_eql rfl (.tmp rfl) (opd_int rfl)))) (.c1 rfl ((ob_and2 rfl (.tmp rfl) (.tmp rfl) opd_bool).nm e_x23) (.c1 rfl (ob_assign rfl (.tmp rfl)) (.ce (u 14 rfl (u 100000 rfl (u 100001 rfl .nil)))))))))))))))))))))))))))) fun _ _ s247 => wn hK43 ?_); clear s222
           refine wp_ret ?_
           obtain rfl := Option.some.inj h42
           exact leave s247 (.inl rfl) rfl (.cons (.tmp rfl) .nil)
       refine cond_split s69 (.tmp rfl) (fun hc12 => ?_) (fun hc12 => ?_)
       ·have h43 := ite_t hc12 h16; clear h16
        obtain ⟨g1, h44⟩ := guard_some h43; clear h43
        obtain ⟨x24, e_x24, h45⟩ := bind_some h44; clear h44; replace e_x24 := Option.some.inj e_x24
        refine wp_seq_k fun K44 hK44 => wp_region_lit (qs s69 (.c1 rfl (mv rfl rfl) (.c1 rfl (ob_conv rfl _ Tryd.underlying3 Tryd.underlying40 (.tmp rfl)) (.c1 rfl (mv rfl rfl) (.c1 rfl (ob_nilCheck rfl (.tmp rfl)) (.c1 rfl (ob_fieldAddr (off' := 0) rfl Tryd.underlying49 rfl sz30 (by decide) (.tmp rfl) rfl) (.c1 rfl (ob_loadRowV rfl (tkr30 _) (.tmp rfl) (.tail _ (.head _)) (lgo_cabalref12_Disk_0_1_2_Firm (⟨[], [], [], y6, y7⟩ : cabalref12_Disk))) (.c1 rfl (ob_lenRow rfl Tryd.underlying30 (.tmp rfl) (.tail _ (.tail _ (.tail _ (.tail _ (.head _)))))) (.c1 rfl (ob_mul rfl (.tmp rfl) (opd_int rfl)) (.c1 rfl (ob_conv rfl _ Tryd.underlying3 Tryd.underlying40 (.tmp rfl)) (.c1 rfl ((ob_rem rfl (.tmp rfl) (.tmp rfl) g1).nm e_x24) (.c1 rfl (ob_conv rfl _ Tryd.underlying40 Tryd.underlying3 (.tmp rfl)) (.c1 rfl (ob_assign rfl (.tmp rfl)) (.ce (u 6 rfl (u 16 rfl (u 17 rfl (u 22 rfl (u 100000 rfl (u 100001 rfl .nil))))))))))))))))))) fun _ _ s260 => wn hK44 ?_); clear s69
        obtain ⟨g2, h46⟩ := guard_some h45; clear h45
        obtain ⟨x25, e_x25, h47⟩ := bind_some h46; clear h46
        refine wp_seq_k fun K45 hK45 => wp_region_lit (qs s260 (.c1 rfl (mv rfl rfl) (.c1 rfl (ob_nilCheck rfl (.tmp rfl)) (.c1 rfl (ob_fieldAddr (off' := 0) rfl Tryd.underlying49 rfl sz30 (by decide) (.tmp rfl) rfl) (.c1 rfl (ob_loadRowV rfl (tkr30 _) (.tmp rfl) (.tail _ (.head _)) (lgo_cabalref12_Disk_0_1_2_Firm (⟨[], [], [], y6, y7⟩ : cabalref12_Disk))) (.c1 rfl (mv rfl rfl) (.c1 rfl (ob_quo rfl (.tmp rfl) (opd_int rfl) (by decide)) (.c1 rfl (ob_rowAt rfl Tryd.underlying30 sz9 (.tmp rfl) (.tail _ (.tail _ (.tail _ (.tail _ (.head _))))) (.tmp rfl) g2) (.c1 rfl (ob_rowLoad rfl tk9 (.tmp rfl) (.tail _ (.tail _ (.tail _ (.tail _ (.head _))))) (LG.arrA e_x25)) .cz)))))))) fun _ _ s268 => ?_); clear s260
        refine qx (B' := (fun v29 : Value => [BytF v29 5 x25, BF b1 68 (ko_disk_Disk_0_1 v11 v12) (⟨[], [], y4, y5⟩ : disk_Disk), BF b2 49 (ko_cabalref12_Disk_0_1_2 v13 v14 v15) (⟨[], [], [], y6, y7⟩ : cabalref12_Disk), RowF v11 100 (karr 256 (kint .u8)) y8, RowF v12 102 k_disk_write y9, RowF v13 9 kstr y10, RowF v14 3 (kint .i64) y11, RowF v15 9 kstr y12])) s268 rfl (ob_strToBytes rfl Tryd.underlying9 Tryd.underlying31 Tryd.underlying5 (.tmp rfl)) fun v29 _ _ s269 => ?_; clear s268
        refine qs s269 (.c1 rfl (ob_assign rfl (.tmp rfl)) (.ce (u 6 rfl (u 16 rfl (u 17 rfl (u 22 rfl (u 23 rfl (u 100000 rfl (u 100001 rfl .nil))))))))) fun _ _ s271 => wn hK45 ?_; clear s269
        obtain ⟨g3, h48⟩ := guard_some h47; clear h47
        obtain ⟨x26, e_x26, h49⟩ := bind_some h48; clear h48
        obtain ⟨g4, h50⟩ := guard_some h49; clear h49
        obtain ⟨x27, e_x27, h51⟩ := bind_some h50; clear h50
        refine wp_seq_k fun K46 hK46 => wp_region_lit (qs s271 (.c1 rfl (mv rfl rfl) (.c1 rfl (mv rfl rfl) (.c1 rfl (ob_rem rfl (.tmp rfl) (opd_int rfl) (by decide)) (.c1 rfl (mv rfl rfl) (.c1 rfl (mv rfl rfl) (.c1 rfl (ob_rem rfl (.tmp rfl) (opd_int rfl) (by decide)) (.c1 rfl (ob_indexAddrByt rfl Tryd.underlying31 sz5 (.tmp rfl) (.head _) (.tmp rfl) g3) (.c1 rfl (ob_loadByt rfl tk5 (.tmp rfl) (.head _) e_x26) (.c1 rfl (mv rfl rfl) (.c1 rfl (ob_xor rfl (.tmp rfl) (.tmp rfl)) (.c1 rfl (ob_indexAddrByt rfl Tryd.underlying31 sz5 (.tmp rfl) (.head _) (.tmp rfl) g4) .cz))))))))))) fun _ _ s282 => ?_); clear s271
        refine seq_opx0 (B' := (fun _ : Unit => [BytF v29 5 x27, BF b1 68 (ko_disk_Disk_0_1 v11 v12) (⟨[], [], y4, y5⟩ : disk_Disk), BF b2 49 (ko_cabalref12_Disk_0_1_2 v13 v14 v15) (⟨[], [], [], y6, y7⟩ : cabalref12_Disk), RowF v11 100 (karr 256 (kint .u8)) y8, RowF v12 102 k_disk_write y9, RowF v13 9 kstr y10, RowF v14 3 (kint .i64) y11, RowF v15 9 kstr y12])) s282 rfl rfl (ob_storeByt (A := []) rfl tk5 (.tmp rfl) (.tmp rfl) rfl e_x27 rfl) fun _ a283 w283 s283 => ?_; clear s282
        refine wn hK46 ?_
        have s284 := s283.sub (u 16 rfl (u 17 rfl (u 22 rfl (u 23 rfl (u 100000 rfl (u 100001 rfl .nil)))))); clear s283
        obtain ⟨x28, e_x28, h52⟩ := bind_some h51; clear h51
        refine wp_region_lit (qs s284 (.c1 rfl (mv rfl rfl) (.c1 rfl (mv rfl rfl) (.c1 rfl (mv rfl rfl) (.c1 rfl (ob_quo rfl (.tmp rfl) (opd_int rfl) (by decide)) (.c1 rfl (mv rfl rfl) (.c1 rfl (ob_bytStr rfl Tryd.underlying31 Tryd.underlying9 Tryd.underlying5 (.tmp rfl) (.head _)) .cz)))))) fun _ _ s290 => ?_); clear s284
        refine qx (B' := (fun gg : Value × Value × Value × Value × Value => [BF b1 68 (ko_disk_Disk_0_1 gg.1 gg.2.1) (⟨[], [], x28.1.fuse, x28.1.dead⟩ : disk_Disk), RowF gg.1 100 (karr 256 (kint .u8)) x28.1.firm, RowF gg.2.1 102 k_disk_write x28.1.loose, BF b2 49 (ko_cabalref12_Disk_0_1_2 gg.2.2.1 gg.2.2.2.1 gg.2.2.2.2) (⟨[], [], [], x28.2.Fuse, x28.2.Dead⟩ : cabalref12_Disk), RowF gg.2.2.1 9 kstr x28.2.Firm, RowF gg.2.2.2.1 3 (kint .i64) x28.2.At, RowF gg.2.2.2.2 9 kstr x28.2.Data, BytF v29 5 x27])) s290 rfl (ob_callL0 (args := [_, _, _, _]) (L := [_, _, _, _, _, _, _]) rfl .direct hb17 (toFront [_] (toFront [_, _] (toFront [_, _] (toFront [_] (toFront [_] (toFront [_] (toFront [_] (List.Perm.refl _)))))))) (fun a w s => by exact c_caballaw13_lay k _ _ _ _ _ e_x28 _ _ _ _ _ _ _ _ _ _ _ _ _ (ownL s) (disL s) (nodL s) (s.arg (.tmp rfl)) (s.arg (.tmp rfl)) (s.arg (.tmp rfl)) (s.arg (.tmp rfl))) (by exact fun _ => rfl)) fun gg291 _ _ s291 => ?_; clear s290
        obtain ⟨v30, v31, v32, v33, v34⟩ := gg291
        refine wpList_nil ?_
        refine then_normal ?_
        have s292 := St.drop (A := [_, _, _, _, _, _, _]) s291; clear s291
        have s293 := s292.perm (toFront [] (toFront [_, _] (toFront [] (toFront [] (toFront [] (toFront [] (toFront [] (List.Perm.refl _)))))))); clear s292
        exact hj5 x28.1.fuse x28.1.dead x28.2.Fuse x28.2.Dead x28.1.firm x28.1.loose x28.2.Firm x28.2.At x28.2.Data v30 v31 v32 v33 v34 _ _ h52 (s293.sub (.cons rfl (.cons rfl (.cons rfl (.cons rfl .nil)))))
       ·have h53 := ite_f hc12 h16; clear h16
        refine wp_skip ?_
        refine then_normal ?_
        exact hj5 y4 y5 y6 y7 y8 y9 y10 y11 y12 v11 v12 v13 v14 v15 _ _ h53 (s69.sub (.cons rfl (.cons rfl (.cons rfl (.cons rfl .nil)))))
      refine wp_block ?_
      have s294 := s65.perm (toFront [] (toFront [_, _] (toFront [] (toFront [] (toFront [] (toFront [] (toFront [] (List.Perm.refl _)))))))); clear s65
      refine wp_loop_fuel (fun m (q : Int × Int × Bool × Int × Bool × (List (List Int)) × (List disk_write) × (List (List Int)) × (List Int) × (List (List Int))) => caballaw13_JournalOpens.l1 k x6 y1 p7 p6 m q.1 q.2.1 q.2.2.1 q.2.2.2.1 q.2.2.2.2.1 q.2.2.2.2.2.1 q.2.2.2.2.2.2.1 q.2.2.2.2.2.2.2.1 q.2.2.2.2.2.2.2.2.1 q.2.2.2.2.2.2.2.2.2) r (fun _ => rfl) (fun q a w => ∃ (v35 : Value) (v36 : Value) (v37 : Value) (v38 : Value) (v39 : Value), St ⟨202, w0, ok, []⟩ [BF b1 68 (ko_disk_Disk_0_1 v35 v36) (⟨[], [], q.2.1, q.2.2.1⟩ : disk_Disk), BF b2 49 (ko_cabalref12_Disk_0_1_2 v37 v38 v39) (⟨[], [], [], q.2.2.2.1, q.2.2.2.2.1⟩ : cabalref12_Disk), RowF v35 100 (karr 256 (kint .u8)) q.2.2.2.2.2.1, RowF v36 102 k_disk_write q.2.2.2.2.2.2.1, RowF v37 9 kstr q.2.2.2.2.2.2.2.1, RowF v38 3 (kint .i64) q.2.2.2.2.2.2.2.2.1, RowF v39 9 kstr q.2.2.2.2.2.2.2.2.2] [(5, ((kint .i64).V p6)), (6, ((kint .u8).V p7)), (16, (ptrB b1 0)), (17, (ptrB b2 0)), (18, (kstr.V x6)), (19, ((kint .i64).V y1)), (20, ((kint .i64).V q.1)), (100000, (known (.pointer (some ⟨0, 0, none⟩)) (ptrTo (karr 8 (kint .u32)) G_digest_first))), (100001, (known (.pointer (some ⟨1, 0, none⟩)) (ptrTo (karr 64 (kint .u32)) G_digest_rounds)))] a w) ?_ k ((0 : Int), x8.1.fuse, x8.1.dead, x8.2.Fuse, x8.2.Dead, x8.1.firm, x8.1.loose, x8.2.Firm, x8.2.At, x8.2.Data) _ _ h15 ⟨v6, v7, v8, v9, v10, (s294.sub (.cons rfl (.cons rfl (.cons rfl (.cons rfl (.cons rfl (.cons rfl (.cons rfl (.cons rfl (.cons rfl .nil))))))))))⟩
      rintro n1 ⟨y22, y23, y24, y25, y26, y27, y28, y29, y30, y31⟩ a295 w295 h54 ⟨v35, v36, v37, v38, v39, s295⟩ K47 hK47
      replace h54 : caballaw13_JournalOpens.l1 k x6 y1 p7 p6 (n1 + 1) y22 y23 y24 y25 y26 y27 y28 y29 y30 y31 = some r := h54; rw [caballaw13_JournalOpens.l1] at h54
      have h55 := h54; clear h54
      refine wp_seq_k fun K48 hK48 => wp_seq_k fun K49 hK49 => ?_
      refine wp_region_lit (qs s295 (.c1 rfl (mv rfl rfl) (.c1 rfl (ob_mul rfl (.tmp rfl) (opd_int rfl)) (.c1 rfl (mv rfl rfl) (.c1 rfl (ob_lenStr rfl Tryd.underlying9 (.tmp rfl)) (.c1 rfl (ob_lss rfl (.tmp rfl) (.tmp rfl)) (.ce (u 5 rfl (u 6 rfl (u 16 rfl (u 17 rfl (u 18 rfl (u 19 rfl (u 20 rfl (u 73 rfl (u 100000 rfl (u 100001 rfl .nil)))))))))))))))) fun _ _ s301 => wn hK49 ?_); clear s295
      refine cond_split s301 (.tmp rfl) (fun hc13 => ?_) (fun hc13 => ?_)
      ·have h56 := ite_t hc13 h55; clear h55
       refine wp_skip ?_
       refine then_normal (hK48 _ _ ?_)
       have s302 := s301.sub (u 5 rfl (u 6 rfl (u 16 rfl (u 17 rfl (u 18 rfl (u 19 rfl (u 20 rfl (u 100000 rfl (u 100001 rfl .nil))))))))); clear s301
       refine wp_seq_k fun K50 hK50 => wp_block ?_
       refine wp_seq_k fun K51 hK51 => wp_region_lit (qs s302 (.c1 rfl (mv rfl rfl) (.c1 rfl (ob_mul rfl (.tmp rfl) (opd_int rfl)) (.c1 rfl (ob_add rfl (.tmp rfl) (opd_int rfl)) (.c1 rfl (ob_assign rfl (.tmp rfl)) (.ce (u 5 rfl (u 6 rfl (u 16 rfl (u 17 rfl (u 18 rfl (u 19 rfl (u 20 rfl (u 21 rfl (u 100000 rfl (u 100001 rfl .nil))))))))))))))) fun _ _ s307 => wn hK51 ?_); clear s302
       refine wp_seq_k fun K52 hK52 => wp_seq_k fun K53 hK53 => ?_
       obtain ⟨x29, e_x29, h57⟩ := bind_some h56; clear h56; replace e_x29 := Option.some.inj e_x29
       refine wp_region_lit (qs s307 (.c1 rfl (mv rfl rfl) (.c1 rfl (mv rfl rfl) (.c1 rfl (ob_lenStr rfl Tryd.underlying9 (.tmp rfl)) (.c1 rfl ((ob_gtr rfl (.tmp rfl) (.tmp rfl)).nm e_x29) (.ce (u 5 rfl (u 6 rfl (u 16 rfl (u 17 rfl (u 18 rfl (u 19 rfl (u 20 rfl (u 21 rfl (u 82 rfl (u 100000 rfl (u 100001 rfl .nil)))))))))))))))) fun _ _ s312 => wn hK53 ?_); clear s307
       have hj6 : ∀ (y32 : Int) (a : Act) (w : World), (caballaw13_JournalOpens.j6 k y29 y30 y31 y25 y26 x6 y22 y27 y28 y23 y24 y1 (caballaw13_JournalOpens.l1 k x6 y1 p7 p6 n1)) y32 = some r → St ⟨202, w0, ok, []⟩ [BF b1 68 (ko_disk_Disk_0_1 v35 v36) (⟨[], [], y23, y24⟩ : disk_Disk), BF b2 49 (ko_cabalref12_Disk_0_1_2 v37 v38 v39) (⟨[], [], [], y25, y26⟩ : cabalref12_Disk), RowF v35 100 (karr 256 (kint .u8)) y27, RowF v36 102 k_disk_write y28, RowF v37 9 kstr y29, RowF v38 3 (kint .i64) y30, RowF v39 9 kstr y31] [(5, ((kint .i64).V p6)), (6, ((kint .u8).V p7)), (16, (ptrB b1 0)), (17, (ptrB b2 0)), (18, (kstr.V x6)), (19, ((kint .i64).V y1)), (20, ((kint .i64).V y22)), (21, ((kint .i64).V y32)), (100000, (known (.pointer (some ⟨0, 0, none⟩)) (ptrTo (karr 8 (kint .u32)) G_digest_first))), (100001, (known (.pointer (some ⟨1, 0, none⟩)) (ptrTo (karr 64 (kint .u32)) G_digest_rounds)))] a w → K52 a w := by
        intro y32 a313 w313 h58 s313
        unfold caballaw13_JournalOpens.j6 at h58
        refine hK52 _ _ ?_
        obtain ⟨x30, e_x30, h59⟩ := bind_some h58; clear h58
        obtain ⟨x31, e_x31, h60⟩ := bind_some h59; clear h59
        refine wp_goes (Fs := [(ptrB b1 0), (ptrB b2 0), ((kint .i64).V y1), (ptrB b2 0), ((kint .i64).V x30), ((kint .i64).V (imul .i64 y1 x30)), ((kint .i64).V (iadd .i64 (1 : Int) (imul .i64 y1 x30))), ((kint .i64).V y22), ((kint .i64).V (iadd .i64 (iadd .i64 (1 : Int) (imul .i64 y1 x30)) y22)), (kstr.V x6), ((kint .i64).V y22), ((kint .i64).V (imul .i64 y22 (256 : Int))), ((kint .i64).V y32), (kstr.V x31)]) (bits := [0, 0, 0, 0, 8, 28, 60, 0, 252, 0, 0, 1024, 0, 7680, 16383]) (m := 14) (todo := 0) mx s313 ?_; clear s313
        refine goes_last (by kernel_rfl) rfl (oc (av 16 rfl rfl (av 100000 rfl rfl (av 100001 rfl rfl Av.nil))) rfl rfl (mv rfl rfl) (oc (av 17 rfl rfl (av 100000 rfl rfl (av 100001 rfl rfl Av.nil))) rfl rfl (mv rfl rfl) (oc (av 19 rfl rfl (av 100000 rfl rfl (av 100001 rfl rfl Av.nil))) rfl rfl (mv rfl rfl) (oc (av 17 rfl rfl (av 100000 rfl rfl (av 100001 rfl rfl Av.nil))) rfl rfl (mv rfl rfl) (oc (an 3 rfl rfl rfl (av 100000 rfl rfl (av 100001 rfl rfl Av.nil))) rfl rfl ((ob_lendG (L := [_, _, _, _]) (toFront [_] (toFront [_, _, _] (toFront [_, _, _] (toFront [_, _, _] (List.Perm.refl _))))) (.cons (t := 88) rfl (lendObj (K' := k_cabalref12_Disk) (X' := (⟨y29, y30, y31, y25, y26⟩ : cabalref12_Disk)) (.head _) rfl (upo_cabalref12_Disk_0_1_2 rfl (.row (LetAll.row (.tail _ (.head _)))) (.row (LetAll.row (.tail _ (.tail _ (.head _))))) (.row (LetAll.row (.tail _ (.tail _ (.tail _ (.head _)))))))) .nil) (Flat.res1 (Flat.V (KFlat.int _))) (fun _ => ob_callD0 (args := [_]) rfl .direct hb18 (fun a w s => by exact c_cabalref13_Half k _ _ e_x30 _ _ _ (s.arg (.tmp rfl)))))) (oc (an 2 rfl rfl rfl (an 4 rfl rfl rfl (av 100000 rfl rfl (av 100001 rfl rfl Av.nil)))) rfl rfl (ob_mul rfl (.tmp rfl) (.tmp rfl)) (oc (an 5 rfl rfl rfl (av 100000 rfl rfl (av 100001 rfl rfl Av.nil))) rfl rfl (ob_add rfl (opd_int rfl) (.tmp rfl)) (oc (av 20 rfl rfl (av 100000 rfl rfl (av 100001 rfl rfl Av.nil))) rfl rfl (mv rfl rfl) (oc (an 6 rfl rfl rfl (an 7 rfl rfl rfl (av 100000 rfl rfl (av 100001 rfl rfl Av.nil)))) rfl rfl (ob_add rfl (.tmp rfl) (.tmp rfl)) (oc (av 18 rfl rfl (av 100000 rfl rfl (av 100001 rfl rfl Av.nil))) rfl rfl (mv rfl rfl) (oc (av 20 rfl rfl (av 100000 rfl rfl (av 100001 rfl rfl Av.nil))) rfl rfl (mv rfl rfl) (oc (an 10 rfl rfl rfl (av 100000 rfl rfl (av 100001 rfl rfl Av.nil))) rfl rfl (ob_mul rfl (.tmp rfl) (opd_int rfl)) (oc (av 21 rfl rfl (av 100000 rfl rfl (av 100001 rfl rfl Av.nil))) rfl rfl (mv rfl rfl) (oc (an 9 rfl rfl rfl (an 11 rfl rfl rfl (an 12 rfl rfl rfl (av 100000 rfl rfl (av 100001 rfl rfl Av.nil))))) rfl rfl (ob_cutStr rfl Tryd.underlying9 (.tmp rfl) (.some (.tmp rfl)) (.some (.tmp rfl)) e_x31) opsS_nil)))))))))))))) (out_old (t := 5) rfl rfl (out_old (t := 6) rfl rfl (out_old (t := 16) rfl rfl (out_old (t := 17) rfl rfl (out_old (t := 18) rfl rfl (out_old (t := 19) rfl rfl (out_old (t := 20) rfl rfl (out_new (i := 0) (by decide) rfl rfl (out_new (i := 1) (by decide) rfl rfl (out_new (i := 8) (by decide) rfl rfl (out_new (i := 13) (by decide) rfl rfl (out_old (t := 100000) rfl rfl (out_old (t := 100001) rfl rfl out_nil))))))))))))) fun _ _ s314 => ?_
        obtain ⟨x32, e_x32, h61⟩ := bind_some h60; clear h60
        refine qx (B' := (fun gg : Value × Value × Value × Value × Value => [BF b1 68 (ko_disk_Disk_0_1 gg.1 gg.2.1) (⟨[], [], x32.1.fuse, x32.1.dead⟩ : disk_Disk), RowF gg.1 100 (karr 256 (kint .u8)) x32.1.firm, RowF gg.2.1 102 k_disk_write x32.1.loose, BF b2 49 (ko_cabalref12_Disk_0_1_2 gg.2.2.1 gg.2.2.2.1 gg.2.2.2.2) (⟨[], [], [], x32.2.Fuse, x32.2.Dead⟩ : cabalref12_Disk), RowF gg.2.2.1 9 kstr x32.2.Firm, RowF gg.2.2.2.1 3 (kint .i64) x32.2.At, RowF gg.2.2.2.2 9 kstr x32.2.Data])) s314 rfl (ob_callL0 (args := [_, _, _, _]) (L := [_, _, _, _, _, _, _]) rfl .direct hb17 (toFront [] (toFront [_] (toFront [_] (toFront [] (toFront [] (toFront [] (toFront [] (List.Perm.refl _)))))))) (fun a w s => by exact c_caballaw13_lay k _ _ _ _ _ e_x32 _ _ _ _ _ _ _ _ _ _ _ _ _ (ownL s) (disL s) (nodL s) (s.arg (.tmp rfl)) (s.arg (.tmp rfl)) (s.arg (.tmp rfl)) (s.arg (.tmp rfl))) (by exact fun _ => rfl)) fun gg315 _ _ s315 => ?_; clear s314
        obtain ⟨v40, v41, v42, v43, v44⟩ := gg315
        refine wpList_nil ?_
        refine in_normal ?_
        refine then_normal (hK50 _ _ ?_)
        have s316 := s315.sub (u 5 rfl (u 6 rfl (u 16 rfl (u 17 rfl (u 18 rfl (u 19 rfl (u 20 rfl (u 100000 rfl (u 100001 rfl .nil))))))))); clear s315
        refine wp_region_lit (qs s316 (.c1 rfl (mv rfl rfl) (.c1 rfl (ob_add rfl (.tmp rfl) (opd_int rfl)) (.c1 rfl (ob_assign rfl (.tmp rfl)) .cz))) fun _ _ s319 => ?_); clear s316
        refine wpList_nil ?_
        refine then_normal ?_
        have s320 := s319.perm (toFront [] (toFront [_, _] (toFront [] (toFront [] (toFront [] (toFront [] (toFront [] (List.Perm.refl _)))))))); clear s319
        exact hK47 ((iadd .i64 y22 (1 : Int)), x32.1.fuse, x32.1.dead, x32.2.Fuse, x32.2.Dead, x32.1.firm, x32.1.loose, x32.2.Firm, x32.2.At, x32.2.Data) _ _ h61 ⟨v40, v41, v42, v43, v44, (s320.sub (.cons rfl (.cons rfl (.cons rfl (.cons rfl (.cons rfl (.cons rfl (.cons rfl (.cons rfl (.cons rfl .nil))))))))))⟩
       refine cond_split s312 (.tmp rfl) (fun hc14 => ?_) (fun hc14 => ?_)
       ·have h62 := ite_t hc14 h57; clear h57
        refine wp_region_lit (qs s312 (.c1 rfl (mv rfl rfl) (.c1 rfl (ob_lenStr rfl Tryd.underlying9 (.tmp rfl)) (.c1 rfl (ob_assign rfl (.tmp rfl)) .cz))) fun _ _ s323 => ?_); clear s312
        refine wpList_nil ?_
        refine then_normal ?_
        exact hj6 (x6.length : Int) _ _ h62 (s323.sub (.cons rfl (.cons rfl (.cons rfl (.cons rfl (.cons rfl (.cons rfl (.cons rfl (.cons rfl (.cons rfl (.cons rfl .nil)))))))))))
       ·have h63 := ite_f hc14 h57; clear h57
        refine wp_skip ?_
        refine then_normal ?_
        exact hj6 (iadd .i64 (imul .i64 y22 (256 : Int)) (256 : Int)) _ _ h63 (s312.sub (.cons rfl (.cons rfl (.cons rfl (.cons rfl (.cons rfl (.cons rfl (.cons rfl (.cons rfl (.cons rfl (.cons rfl .nil)))))))))))
      ·have h64 := ite_f hc13 h55; clear h55
       refine wp_exit ?_
       refine (then_exit (then_exit (in_here ?_)))
       refine then_normal ?_
       exact hj4 y23 y24 y25 y26 y27 y28 y29 y30 y31 v35 v36 v37 v38 v39 _ _ h64 (s301.sub (.cons rfl (.cons rfl (.cons rfl (.cons rfl (.cons rfl (.cons rfl .nil)))))))
     refine cond_split s57 (.tmp rfl) (fun hc15 => ?_) (fun hc15 => ?_)
     ·have h65 := ite_t hc15 h13; clear h13
      obtain ⟨x33, e_x33, h66⟩ := bind_some h65; clear h65
      refine wp_region_lit (qs s57 (.c1 rfl (mv rfl rfl) (.c1 rfl (mv rfl rfl) (.c1 rfl (ob_callD0 (args := [_, _]) rfl .direct hb16 (fun a w s => by exact c_cabalref13_Mark k _ _ _ e_x33 _ _ _ _ (s.arg (.tmp rfl)) (s.arg (.tmp rfl)))) (.c1 rfl (ob_assign rfl (.tmp rfl)) .cz)))) fun _ _ s327 => ?_); clear s57
      refine wpList_nil ?_
      refine then_normal ?_
      exact hj3 x33 _ _ h66 (s327.sub (.cons rfl (.cons rfl (.cons rfl (.cons rfl (.cons rfl (.cons rfl (.cons rfl (.cons rfl (.cons rfl .nil))))))))))
     ·have h67 := ite_f hc15 h13; clear h13
      refine wp_skip ?_
      refine then_normal ?_
      exact hj3 y2 _ _ h67 (s57.sub (.cons rfl (.cons rfl (.cons rfl (.cons rfl (.cons rfl (.cons rfl (.cons rfl (.cons rfl (.cons rfl .nil))))))))))
    refine cond_split s49 (.tmp rfl) (fun hc16 => ?_) (fun hc16 => ?_)
    ·have h68 := ite_t hc16 h11; clear h11
     obtain ⟨x34, e_x34, h69⟩ := bind_some h68; clear h68
     refine wp_region_lit (qs s49 (.c1 rfl (mv rfl rfl) (.c1 rfl (mv rfl rfl) (.c1 rfl (ob_lenStr rfl Tryd.underlying9 (.tmp rfl)) (.c1 rfl (ob_callD0 (args := [_, _]) rfl .direct hb16 (fun a w s => by exact c_cabalref13_Mark k _ _ _ e_x34 _ _ _ _ (s.arg (.tmp rfl)) (s.arg (.tmp rfl)))) (.c1 rfl (ob_assign rfl (.tmp rfl)) .cz))))) fun _ _ s332 => ?_); clear s49
     refine wpList_nil ?_
     refine then_normal ?_
     exact hj2 x34 _ _ h69 (s332.sub (.cons rfl (.cons rfl (.cons rfl (.cons rfl (.cons rfl (.cons rfl (.cons rfl (.cons rfl (.cons rfl (.cons rfl .nil)))))))))))
    ·have h70 := ite_f hc16 h11; clear h11
     refine wp_skip ?_
     refine then_normal ?_
     exact hj2 p3 _ _ h70 (s49.sub (.cons rfl (.cons rfl (.cons rfl (.cons rfl (.cons rfl (.cons rfl (.cons rfl (.cons rfl (.cons rfl (.cons rfl .nil)))))))))))
   refine cond_split s44 (.tmp rfl) (fun hc17 => ?_) (fun hc17 => ?_)
   ·have h71 := ite_t hc17 h10; clear h10
    refine wp_region_lit (qs s44 (.c1 rfl (ob_assign rfl (opd_int rfl)) .cz) fun _ _ s333 => ?_); clear s44
    refine wpList_nil ?_
    refine then_normal ?_
    have s334 := s333.perm (toFront [_, _, _, _] (toFront [] (toFront [_, _, _] (toFront [_, _, _] (toFront [] (toFront [] (toFront [] (List.Perm.refl _)))))))); clear s333
    exact hj1 (1 : Int) _ _ h71 (s334.sub (.cons rfl (.cons rfl (.cons rfl (.cons rfl (.cons rfl (.cons rfl (.cons rfl (.cons rfl (.cons rfl (.cons rfl .nil)))))))))))
   ·have h72 := ite_f hc17 h10; clear h10
    refine wp_skip ?_
    refine then_normal ?_
    have s335 := s44.perm (toFront [_, _, _, _] (toFront [] (toFront [_, _, _] (toFront [_, _, _] (toFront [] (toFront [] (toFront [] (List.Perm.refl _)))))))); clear s44
    exact hj1 (0 : Int) _ _ h72 (s335.sub (.cons rfl (.cons rfl (.cons rfl (.cons rfl (.cons rfl (.cons rfl (.cons rfl (.cons rfl (.cons rfl (.cons rfl .nil)))))))))))
end Go.Proofs.YtjbjladhgmknnaaDoor
