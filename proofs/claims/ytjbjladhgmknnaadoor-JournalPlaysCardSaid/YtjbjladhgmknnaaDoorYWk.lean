/- Several parts of this proof in one file. No condition. -/
import Derived.Test.YtjbjladhgmknnaaDoorYWk5
namespace Go.Proofs.YtjbjladhgmknnaaDoor
open Go Go.RowKit Go.Proofs.Kit Go.Proofs.Pure
set_option linter.unusedVariables false
set_option linter.unusedSimpArgs false
set_option maxRecDepth 100000
set_option maxHeartbeats 2000000
theorem c_caballaw13_JournalPlays (k : Nat) (p1 : Int) (p2 : (List caballaw13_Act)) (r : Bool) (h0 : caballaw13_JournalPlays k p1 p2 = some r) (ok : Ok) (w0 : World) (gl0 : (ptrTo (karr 8 (kint .u32)) G_digest_first).holds ok w0 (.pointer (some ⟨0, 0, none⟩))) (gl1 : (ptrTo (karr 64 (kint .u32)) G_digest_rounds).holds ok w0 (.pointer (some ⟨1, 0, none⟩))) (z0 : Value) (z1 : Value) (u0 : ((kint .i64).V p1).holds ok w0 z0) (u1 : ((ksl k_caballaw13_Act).V p2).holds ok w0 z1) :
 Gives Tryd.prog 5 [z0, z1] ok w0 (resFact [kbool.V r]) := by
 unfold caballaw13_JournalPlays at h0
 refine enter (N := 174) Tryd.func5 rfl rfl (of_decide_eq_true rfl) (.cons u0 (.cons u1 .nil)) fun a1 s1 => ?_
 have s2 := s1.keepKnown 100000 gl0 okIn; clear s1
 have s3 := s2.keepKnown 100001 gl1 okIn; clear s2
 refine wp_seq_k fun K1 hK1 => wp_region_lit (qs s3 (.c1 rfl (ob_assign rfl opd_bool) (.ce (u 0 rfl (u 1 rfl (u 100000 rfl (u 100001 rfl .nil)))))) fun _ _ s5 => wn hK1 ?_); clear s3
 refine wp_seq_k fun K2 hK2 => wp_seq_k fun K3 hK3 => ?_
 obtain ⟨x1, e_x1, h1⟩ := bind_some h0; clear h0
 refine wp_region_lit (qs s5 (.c1 rfl (ob_callD0 (args := []) rfl .direct hb6 (fun a w s => by exact c_caballaw13_alive k _ e_x1 _ _ (s.env _ _ (show get _ 100000 = _ from rfl)) (s.env _ _ (show get _ 100001 = _ from rfl)))) (.c1 rfl (ob_not rfl (.tmp rfl)) (.ce (u 0 rfl (u 1 rfl (u 17 rfl (u 100000 rfl (u 100001 rfl .nil)))))))) fun _ _ s8 => wn hK3 ?_); clear s5
 refine cond_split s8 (.tmp rfl) (fun hc1 => ?_) (fun hc1 => ?_)
 ·have h2 := ite_t hc1 h1; clear h1
  refine wp_seq_k fun K4 hK4 => wp_region_lit (qs s8 (.c1 rfl (ob_assign rfl opd_bool) (.ce (u 4 rfl (u 100000 rfl (u 100001 rfl .nil))))) fun _ _ s10 => wn hK4 ?_); clear s8
  refine wp_ret ?_
  obtain rfl := Option.some.inj h2
  exact leave s10 (.inl rfl) rfl (.cons (.tmp rfl) .nil)
 ·have h3 := ite_f hc1 h1; clear h1
  refine wp_skip ?_
  refine then_normal (hK2 _ _ ?_)
  have s11 := s8.sub (u 0 rfl (u 1 rfl (u 100000 rfl (u 100001 rfl .nil)))); clear s8
  obtain ⟨x2, e_x2, h4⟩ := bind_some h3; clear h3
  obtain ⟨x3, e_x3, h5⟩ := bind_some h4; clear h4
  refine wp_seq_k fun K5 hK5 => wp_region_lit (qs s11 (.c1 rfl (mv rfl rfl) (.c1 rfl (ob_callD0 (args := [_]) rfl .direct hb23 (fun a w s => by exact c_caballaw13_small k _ _ e_x2 _ _ _ (s.arg (.tmp rfl)))) .cz)) fun _ _ s13 => ?_); clear s11
  refine qx (B' := (fun gg : Nat × Value × Value => [BF gg.1 68 (ko_disk_Disk_0_1 gg.2.1 gg.2.2) (⟨[], [], x3.fuse, x3.dead⟩ : disk_Disk), RowF gg.2.1 100 (karr 256 (kint .u8)) x3.firm, RowF gg.2.2 102 k_disk_write x3.loose])) s13 rfl (ob_callL0 (args := [_]) (L := []) rfl .direct hb7 (List.Perm.refl _) (fun a w s => by exact c_disk_New k _ _ e_x3 _ _ _ (s.arg (.tmp rfl))) (by exact fun _ => rfl)) fun gg14 _ _ s14 => ?_; clear s13
  obtain ⟨b1, v1, v2⟩ := gg14
  obtain ⟨x4, e_x4, h6⟩ := bind_some h5; clear h5
  obtain ⟨x5, e_x5, h7⟩ := bind_some h6; clear h6
  refine qs s14 (.c1 rfl (mv rfl rfl) (.c1 rfl (ob_callD0 (args := [_]) rfl .direct hb23 (fun a w s => by exact c_caballaw13_small k _ _ e_x4 _ _ _ (s.arg (.tmp rfl)))) .cz)) fun _ _ s16 => ?_; clear s14
  refine qx (B' := (fun gg : Nat × Value × Value × Value => [BF gg.1 49 (ko_cabalref12_Disk_0_1_2 gg.2.1 gg.2.2.1 gg.2.2.2) (⟨[], [], [], x5.Fuse, x5.Dead⟩ : cabalref12_Disk), RowF gg.2.1 9 kstr x5.Firm, RowF gg.2.2.1 3 (kint .i64) x5.At, RowF gg.2.2.2 9 kstr x5.Data, BF b1 68 (ko_disk_Disk_0_1 v1 v2) (⟨[], [], x3.fuse, x3.dead⟩ : disk_Disk), RowF v1 100 (karr 256 (kint .u8)) x3.firm, RowF v2 102 k_disk_write x3.loose])) s16 rfl (ob_callL0 (args := [_]) (L := []) rfl .direct hb14 (List.Perm.refl _) (fun a w s => by exact c_cabalref12_New k _ _ e_x5 _ _ _ (s.arg (.tmp rfl))) (by exact fun _ => rfl)) fun gg17 _ _ s17 => ?_; clear s16
  obtain ⟨b2, v3, v4, v5⟩ := gg17
  refine qs s17 (.c1 rfl (ob_assign rfl (.tmp rfl)) (.c1 rfl (ob_assign rfl (.tmp rfl)) (.ce (u 1 rfl (u 5 rfl (u 6 rfl (u 100000 rfl (u 100001 rfl .nil)))))))) fun _ _ s20 => wn hK5 ?_; clear s17
  obtain ⟨x6, e_x6, h8⟩ := bind_some h7; clear h7
  refine wp_seq_k fun K6 hK6 => wp_region_lit (qs s20 (.c1 rfl (mv rfl rfl) .cz) fun _ _ s21 => ?_); clear s20
  refine qx (B' := (fun gg : Nat × Value × Value => [whenO x6.1 (BF gg.1 70 (ko_journal_Journal_0 (.pointer (some ⟨b1, 0, none⟩))) (⟨(), x6.2.1.area, x6.2.1.bytes, x6.2.1.l⟩ : journal_Journal)), BF b1 68 (ko_disk_Disk_0_1 gg.2.1 gg.2.2) (⟨[], [], x6.2.2.2.fuse, x6.2.2.2.dead⟩ : disk_Disk), RowF gg.2.1 100 (karr 256 (kint .u8)) x6.2.2.2.firm, RowF gg.2.2 102 k_disk_write x6.2.2.2.loose, BF b2 49 (ko_cabalref12_Disk_0_1_2 v3 v4 v5) (⟨[], [], [], x5.Fuse, x5.Dead⟩ : cabalref12_Disk), RowF v3 9 kstr x5.Firm, RowF v4 3 (kint .i64) x5.At, RowF v5 9 kstr x5.Data])) s21 rfl (ob_callL0 (args := [_]) (L := [_, _, _]) rfl .direct hb8 (toFront [_, _, _, _] (toFront [_, _, _, _] (toFront [_, _, _, _] (List.Perm.refl _)))) (fun a w s => by exact c_journal_Open k _ _ e_x6 _ _ (s.env _ _ (show get _ 100000 = _ from rfl)) (s.env _ _ (show get _ 100001 = _ from rfl)) _ _ _ _ (ownL s) (disL s) (nodL s) (s.arg (.tmp rfl))) (by exact fun _ => rfl)) fun gg22 _ _ s22 => ?_; clear s21
  obtain ⟨b3, v6, v7⟩ := gg22
  refine qs s22 (.c1 rfl (mv rfl rfl) (.c1 rfl (ob_extract rfl (.tmp rfl) rfl) (.c1 rfl (ob_extract rfl (.tmp rfl) rfl) (.c1 rfl (ob_assign rfl (.tmp rfl)) (.c1 rfl (ob_assign rfl (.tmp rfl)) .cz))))) fun _ _ s27 => ?_; clear s22
  refine wpList_nil ?_
  refine bool_split x6.1 (fun hc2 => ?_) (fun hc2 => ?_)
  ·have h9 := ite_t hc2 h8; clear h8
   have s28 := St.whenT hc2 s27; clear s27
   have s29 := St.optT (t := 27) hc2 rfl s28; clear s28
   have s30 := St.optT (t := 7) hc2 rfl s29; clear s29
   refine then_normal (hK6 _ _ ?_)
   have s31 := s30.sub (u 1 rfl (u 5 rfl (u 6 rfl (u 7 rfl (u 8 rfl (u 100000 rfl (u 100001 rfl .nil))))))); clear s30
   obtain ⟨x7, e_x7, h10⟩ := bind_some h9; clear h9
   refine wp_seq_k fun K7 hK7 => wp_region_lit (qs s31 (.c1 rfl (mv rfl rfl) .cz) fun _ _ s32 => ?_); clear s31
   refine qx (B' := (fun gg : Nat × Value × Value × Value => [whenO x7.1 (BF gg.1 56 (ko_cabalref13_Journal_0 (.pointer (some ⟨b2, 0, none⟩))) (⟨(), x7.2.1.Area, x7.2.1.L⟩ : cabalref13_Journal)), BF b2 49 (ko_cabalref12_Disk_0_1_2 gg.2.1 gg.2.2.1 gg.2.2.2) (⟨[], [], [], x7.2.2.2.Fuse, x7.2.2.2.Dead⟩ : cabalref12_Disk), RowF gg.2.1 9 kstr x7.2.2.2.Firm, RowF gg.2.2.1 3 (kint .i64) x7.2.2.2.At, RowF gg.2.2.2 9 kstr x7.2.2.2.Data, BF b3 70 (ko_journal_Journal_0 (.pointer (some ⟨b1, 0, none⟩))) (⟨(), x6.2.1.area, x6.2.1.bytes, x6.2.1.l⟩ : journal_Journal), BF b1 68 (ko_disk_Disk_0_1 v6 v7) (⟨[], [], x6.2.2.2.fuse, x6.2.2.2.dead⟩ : disk_Disk), RowF v6 100 (karr 256 (kint .u8)) x6.2.2.2.firm, RowF v7 102 k_disk_write x6.2.2.2.loose])) s32 rfl (ob_callL0 (args := [_]) (L := [_, _, _, _]) rfl .direct hb19 (toFront [_, _, _, _] (toFront [_, _, _, _] (toFront [_, _, _, _] (toFront [_, _, _, _] (List.Perm.refl _))))) (fun a w s => by exact c_cabalref13_Open k _ _ e_x7 _ _ _ _ _ _ _ (ownL s) (disL s) (nodL s) (s.arg (.tmp rfl))) (by exact fun _ => rfl)) fun gg33 _ _ s33 => ?_; clear s32
   obtain ⟨b4, v8, v9, v10⟩ := gg33
   refine qs s33 (.c1 rfl (mv rfl rfl) (.c1 rfl (ob_extract rfl (.tmp rfl) rfl) (.c1 rfl (ob_extract rfl (.tmp rfl) rfl) (.c1 rfl (ob_assign rfl (.tmp rfl)) (.c1 rfl (ob_assign rfl (.tmp rfl)) .cz))))) fun _ _ s38 => ?_; clear s33
   refine wpList_nil ?_
   refine bool_split x7.1 (fun hc3 => ?_) (fun hc3 => ?_)
   ·have h11 := ite_t hc3 h10; clear h10
    have s39 := St.whenT hc3 s38; clear s38
    have s40 := St.optT (t := 32) hc3 rfl s39; clear s39
    have s41 := St.optT (t := 9) hc3 rfl s40; clear s40
    refine then_normal (hK7 _ _ ?_)
    have s42 := s41.sub (u 1 rfl (u 5 rfl (u 6 rfl (u 7 rfl (u 8 rfl (u 9 rfl (u 10 rfl (u 100000 rfl (u 100001 rfl .nil))))))))); clear s41
    refine wp_seq_k fun K8 hK8 => wp_seq_k fun K9 hK9 => ?_
    obtain ⟨x8, e_x8, h12⟩ := bind_some h11; clear h11; replace e_x8 := Option.some.inj e_x8
    refine wp_region_lit (qs s42 (.c1 rfl (mv rfl rfl) (.c1 rfl (mv rfl rfl) (.c1 rfl (ob_neq rfl (.tmp rfl) (.tmp rfl)) (.c1 rfl (mv rfl rfl) (.cg rfl rfl rfl rfl (fun hb => ob_move rfl (.tmp rfl)) (.cg rfl rfl rfl rfl (fun hb => (Ob.uncond (t := 38) hb rfl (ob_ptrNil (p := some _) rfl pt26 (.tmp rfl) opd_is))) (.c1 rfl (ob_or2 rfl (.tmp rfl) opd_bool (.tmp rfl)) (.c1 rfl (mv rfl rfl) (.cg rfl rfl rfl rfl (fun hb => ob_move rfl (.tmp rfl)) (.cg rfl rfl rfl rfl (fun hb => (Ob.uncond (t := 42) hb rfl (ob_ptrNil (p := some _) rfl pt50 (.tmp rfl) opd_is))) (.c1 rfl ((ob_or2 rfl (.tmp rfl) opd_bool (.tmp rfl)).nm e_x8) (.ce (u 1 rfl (u 5 rfl (u 6 rfl (u 7 rfl (u 9 rfl (u 44 rfl (u 100000 rfl (u 100001 rfl .nil)))))))))))))))))))) fun _ _ s54 => wn hK9 ?_); clear s42
    refine cond_split s54 (.tmp rfl) (fun hc4 => ?_) (fun hc4 => ?_)
    ·have h13 := ite_t hc4 h12; clear h12
     refine wp_seq_k fun K10 hK10 => wp_region_lit (qs s54 (.c1 rfl (ob_assign rfl opd_bool) (.ce (u 4 rfl (u 100000 rfl (u 100001 rfl .nil))))) fun _ _ s56 => wn hK10 ?_); clear s54
     have s57 := St.drop (A := []) s56; clear s56
     have s58 := St.drop (A := []) s57; clear s57
     have s59 := St.drop (A := []) s58; clear s58
     have s60 := St.drop (A := []) s59; clear s59
     have s61 := St.drop (A := []) s60; clear s60
     have s62 := St.drop (A := []) s61; clear s61
     have s63 := St.drop (A := []) s62; clear s62
     have s64 := St.drop (A := []) s63; clear s63
     have s65 := St.drop (A := []) s64; clear s64
     refine wp_ret ?_
     obtain rfl := Option.some.inj h13
     exact leave s65 (.inl rfl) rfl (.cons (.tmp rfl) .nil)
    ·have h14 := ite_f hc4 h12; clear h12
     refine wp_skip ?_
     refine then_normal (hK8 _ _ ?_)
     have s66 := s54.sub (u 1 rfl (u 5 rfl (u 6 rfl (u 7 rfl (u 9 rfl (u 100000 rfl (u 100001 rfl .nil))))))); clear s54
     refine wp_seq_k fun K11 hK11 => wp_seq_k fun K12 hK12 => ?_
     refine wp_region_lit (qs s66 (.c1 rfl (ob_assign rfl (opd_int rfl)) (.ce (u 1 rfl (u 5 rfl (u 6 rfl (u 7 rfl (u 9 rfl (u 11 rfl (u 100000 rfl (u 100001 rfl .nil)))))))))) fun _ _ s68 => wn hK12 ?_); clear s66
     have hj1 : ∀ (a : Act) (w : World), (caballaw13_JournalPlays.j1 k) = some r → St ⟨174, w0, ok, []⟩ [] [(100000, (known (.pointer (some ⟨0, 0, none⟩)) (ptrTo (karr 8 (kint .u32)) G_digest_first))), (100001, (known (.pointer (some ⟨1, 0, none⟩)) (ptrTo (karr 64 (kint .u32)) G_digest_rounds)))] a w → K11 a w := by
      intro a69 w69 h15 s69
      unfold caballaw13_JournalPlays.j1 at h15
      refine hK11 _ _ ?_
      obtain ⟨x9, e_x9, h16⟩ := bind_some h15; clear h15
      refine wp_seq_k fun K13 hK13 => wp_region_lit (qs s69 (.c1 rfl (ob_callD0 (args := []) rfl .direct hb6 (fun a w s => by exact c_caballaw13_alive k _ e_x9 _ _ (s.env _ _ (show get _ 100000 = _ from rfl)) (s.env _ _ (show get _ 100001 = _ from rfl)))) (.c1 rfl (ob_assign rfl (.tmp rfl)) (.ce (u 4 rfl (u 100000 rfl (u 100001 rfl .nil)))))) fun _ _ s72 => wn hK13 ?_); clear s69
      refine wp_ret ?_
      obtain rfl := Option.some.inj h16
      exact leave s72 (.inl rfl) rfl (.cons (.tmp rfl) .nil)
     refine wp_block ?_
     have s73 := s68.perm (toFront [_, _, _, _, _, _] (toFront [_] (toFront [_, _, _, _] (toFront [] (toFront [_, _, _] (toFront [_, _, _] (toFront [] (toFront [] (toFront [] (List.Perm.refl _)))))))))); clear s68
     refine wp_loop_fuel (fun m (q : Int × Int × Bool × Int × Bool × Int × (List Int) × (List (List Int)) × Int × (List (List Int)) × (List (List Int)) × (List disk_write) × (List (List Int)) × (List Int) × (List (List Int))) => caballaw13_JournalPlays.l1 k p2 m q.1 q.2.1 q.2.2.1 q.2.2.2.1 q.2.2.2.2.1 q.2.2.2.2.2.1 q.2.2.2.2.2.2.1 q.2.2.2.2.2.2.2.1 q.2.2.2.2.2.2.2.2.1 q.2.2.2.2.2.2.2.2.2.1 q.2.2.2.2.2.2.2.2.2.2.1 q.2.2.2.2.2.2.2.2.2.2.2.1 q.2.2.2.2.2.2.2.2.2.2.2.2.1 q.2.2.2.2.2.2.2.2.2.2.2.2.2.1 q.2.2.2.2.2.2.2.2.2.2.2.2.2.2) r (fun _ => rfl) (fun q a w => ∃ (b5 : Nat) (b6 : Nat) (v11 : Value) (v12 : Value) (v13 : Value) (v14 : Value) (v15 : Value), St ⟨174, w0, ok, []⟩ [BF b1 68 (ko_disk_Disk_0_1 v11 v12) (⟨[], [], q.2.1, q.2.2.1⟩ : disk_Disk), BF b2 49 (ko_cabalref12_Disk_0_1_2 v13 v14 v15) (⟨[], [], [], q.2.2.2.1, q.2.2.2.2.1⟩ : cabalref12_Disk), BF b5 70 (ko_journal_Journal_0 (.pointer (some ⟨b1, 0, none⟩))) (⟨(), q.2.2.2.2.2.1, q.2.2.2.2.2.2.1, q.2.2.2.2.2.2.2.1⟩ : journal_Journal), BF b6 56 (ko_cabalref13_Journal_0 (.pointer (some ⟨b2, 0, none⟩))) (⟨(), q.2.2.2.2.2.2.2.2.1, q.2.2.2.2.2.2.2.2.2.1⟩ : cabalref13_Journal), RowF v11 100 (karr 256 (kint .u8)) q.2.2.2.2.2.2.2.2.2.2.1, RowF v12 102 k_disk_write q.2.2.2.2.2.2.2.2.2.2.2.1, RowF v13 9 kstr q.2.2.2.2.2.2.2.2.2.2.2.2.1, RowF v14 3 (kint .i64) q.2.2.2.2.2.2.2.2.2.2.2.2.2.1, RowF v15 9 kstr q.2.2.2.2.2.2.2.2.2.2.2.2.2.2] [(1, ((ksl k_caballaw13_Act).V p2)), (5, (ptrB b1 0)), (6, (ptrB b2 0)), (7, (ptrB b5 0)), (9, (ptrB b6 0)), (11, ((kint .i64).V q.1)), (100000, (known (.pointer (some ⟨0, 0, none⟩)) (ptrTo (karr 8 (kint .u32)) G_digest_first))), (100001, (known (.pointer (some ⟨1, 0, none⟩)) (ptrTo (karr 64 (kint .u32)) G_digest_rounds)))] a w) ?_ k ((0 : Int), x6.2.2.2.fuse, x6.2.2.2.dead, x7.2.2.2.Fuse, x7.2.2.2.Dead, x6.2.1.area, x6.2.1.bytes, x6.2.1.l, x7.2.1.Area, x7.2.1.L, x6.2.2.2.firm, x6.2.2.2.loose, x7.2.2.2.Firm, x7.2.2.2.At, x7.2.2.2.Data) _ _ h14 ⟨b3, b4, v6, v7, v8, v9, v10, (s73.sub (.cons rfl (.cons rfl (.cons rfl (.cons rfl (.cons rfl (.cons rfl (.cons rfl (.cons rfl .nil)))))))))⟩
     rintro n1 ⟨y1, y2, y3, y4, y5, y6, y7, y8, y9, y10, y11, y12, y13, y14, y15⟩ a74 w74 h17 ⟨b5, b6, v11, v12, v13, v14, v15, s74⟩ K14 hK14
     replace h17 : caballaw13_JournalPlays.l1 k p2 (n1 + 1) y1 y2 y3 y4 y5 y6 y7 y8 y9 y10 y11 y12 y13 y14 y15 = some r := h17; rw [caballaw13_JournalPlays.l1] at h17
     have h18 := h17; clear h17
     refine wp_seq_k fun K15 hK15 => wp_seq_k fun K16 hK16 => ?_
     obtain ⟨x10, e_x10, h19⟩ := bind_some h18; clear h18; replace e_x10 := Option.some.inj e_x10
     refine wp_region_lit (qs s74 (.c1 rfl (mv rfl rfl) (.c1 rfl (mv rfl rfl) (.c1 rfl (ob_lens rfl Tryd.underlying22 (.tmp rfl)) (.c1 rfl (ob_lss rfl (.tmp rfl) (.tmp rfl)) (.c1 rfl (mv rfl rfl) (.cg rfl rfl rfl rfl (fun hb => ob_move rfl (.tmp rfl)) (.cg rfl rfl rfl rfl (fun hb => (Ob.uncond (t := 50) hb rfl (ob_lss rfl (.tmp rfl) (opd_int rfl)))) (.c1 rfl ((ob_and2 rfl (.tmp rfl) (.tmp rfl) opd_bool).nm e_x10) (.ce (u 1 rfl (u 5 rfl (u 6 rfl (u 7 rfl (u 9 rfl (u 11 rfl (u 52 rfl (u 100000 rfl (u 100001 rfl .nil)))))))))))))))))) fun _ _ s83 => wn hK16 ?_); clear s74
     refine cond_split s83 (.tmp rfl) (fun hc5 => ?_) (fun hc5 => ?_)
     ·have h20 := ite_t hc5 h19; clear h19
      refine wp_skip ?_
      refine then_normal (hK15 _ _ ?_)
      have s84 := s83.sub (u 1 rfl (u 5 rfl (u 6 rfl (u 7 rfl (u 9 rfl (u 11 rfl (u 100000 rfl (u 100001 rfl .nil)))))))); clear s83
      refine wp_seq_k fun K17 hK17 => ?_
      have hj2 : ∀ (y16 : Int) (y17 : Bool) (y18 : Int) (y19 : Bool) (y20 : Int) (y21 : (List Int)) (y22 : (List (List Int))) (y23 : Int) (y24 : (List (List Int))) (y25 : (List (List Int))) (y26 : (List disk_write)) (y27 : (List (List Int))) (y28 : (List Int)) (y29 : (List (List Int))) (b7 : Nat) (b8 : Nat) (v16 : Value) (v17 : Value) (v18 : Value) (v19 : Value) (v20 : Value) (a : Act) (w : World), (caballaw13_JournalPlays.j2 k y1 (caballaw13_JournalPlays.l1 k p2 n1)) y16 y17 y18 y19 y20 y21 y22 y23 y24 y25 y26 y27 y28 y29 = some r → St ⟨174, w0, ok, []⟩ [BF b1 68 (ko_disk_Disk_0_1 v16 v17) (⟨[], [], y16, y17⟩ : disk_Disk), BF b2 49 (ko_cabalref12_Disk_0_1_2 v18 v19 v20) (⟨[], [], [], y18, y19⟩ : cabalref12_Disk), BF b7 70 (ko_journal_Journal_0 (.pointer (some ⟨b1, 0, none⟩))) (⟨(), y20, y21, y22⟩ : journal_Journal), BF b8 56 (ko_cabalref13_Journal_0 (.pointer (some ⟨b2, 0, none⟩))) (⟨(), y23, y24⟩ : cabalref13_Journal), RowF v16 100 (karr 256 (kint .u8)) y25, RowF v17 102 k_disk_write y26, RowF v18 9 kstr y27, RowF v19 3 (kint .i64) y28, RowF v20 9 kstr y29] [(1, ((ksl k_caballaw13_Act).V p2)), (5, (ptrB b1 0)), (6, (ptrB b2 0)), (7, (ptrB b7 0)), (9, (ptrB b8 0)), (11, ((kint .i64).V y1)), (100000, (known (.pointer (some ⟨0, 0, none⟩)) (ptrTo (karr 8 (kint .u32)) G_digest_first))), (100001, (known (.pointer (some ⟨1, 0, none⟩)) (ptrTo (karr 64 (kint .u32)) G_digest_rounds)))] a w → K17 a w := by
       intro y16 y17 y18 y19 y20 y21 y22 y23 y24 y25 y26 y27 y28 y29 b7 b8 v16 v17 v18 v19 v20 a85 w85 h21 s85
       unfold caballaw13_JournalPlays.j2 at h21
       refine hK17 _ _ ?_
       refine wp_region_lit (qs s85 (.c1 rfl (mv rfl rfl) (.c1 rfl (ob_add rfl (.tmp rfl) (opd_int rfl)) (.c1 rfl (ob_assign rfl (.tmp rfl)) .cz))) fun _ _ s88 => ?_); clear s85
       refine wpList_nil ?_
       refine then_normal ?_
       exact hK14 ((iadd .i64 y1 (1 : Int)), y16, y17, y18, y19, y20, y21, y22, y23, y24, y25, y26, y27, y28, y29) _ _ h21 ⟨b7, b8, v16, v17, v18, v19, v20, (s88.sub (.cons rfl (.cons rfl (.cons rfl (.cons rfl (.cons rfl (.cons rfl (.cons rfl (.cons rfl .nil)))))))))⟩
      refine wp_block ?_
      obtain ⟨x11, e_x11, h22⟩ := bind_some h20; clear h20
      refine wp_seq_k fun K18 hK18 => wp_region_lit (qs s84 (.c1 rfl (mv rfl rfl) (.c1 rfl (mv rfl rfl) (.c1 rfl (ob_indexAddrs rfl Tryd.underlying22 sz33 (.tmp rfl) (.tmp rfl) e_x11) (.c1 rfl (ob_loadr rfl tk33 (.tmp rfl)) .cz)))) fun _ _ s92 => ?_); clear s84
      refine qx (B' := (fun b9 : Nat => [BF b9 33 k_caballaw13_Act (⟨(0 : Int), (0 : Int), [], []⟩ : caballaw13_Act), BF b1 68 (ko_disk_Disk_0_1 v11 v12) (⟨[], [], y2, y3⟩ : disk_Disk), BF b2 49 (ko_cabalref12_Disk_0_1_2 v13 v14 v15) (⟨[], [], [], y4, y5⟩ : cabalref12_Disk), BF b5 70 (ko_journal_Journal_0 (.pointer (some ⟨b1, 0, none⟩))) (⟨(), y6, y7, y8⟩ : journal_Journal), BF b6 56 (ko_cabalref13_Journal_0 (.pointer (some ⟨b2, 0, none⟩))) (⟨(), y9, y10⟩ : cabalref13_Journal), RowF v11 100 (karr 256 (kint .u8)) y11, RowF v12 102 k_disk_write y12, RowF v13 9 kstr y13, RowF v14 3 (kint .i64) y14, RowF v15 9 kstr y15])) s92 rfl (ob_new (k := k_caballaw13_Act) rfl zz33 (Zr.iso (f := t_caballaw13_Act) (x := (⟨(0 : Int), (0 : Int), [], []⟩ : caballaw13_Act)) (Zr.pair (Zr.int .i64) (Zr.pair (Zr.int .i64) (Zr.pair (Zr.sl _) (Zr.pair (Zr.sl _) Zr.nil)))))) fun b9 _ _ s93 => ?_; clear s92
      refine seq_opx0 (B' := (fun _ : Unit => [BF b9 33 k_caballaw13_Act x11, BF b1 68 (ko_disk_Disk_0_1 v11 v12) (⟨[], [], y2, y3⟩ : disk_Disk), BF b2 49 (ko_cabalref12_Disk_0_1_2 v13 v14 v15) (⟨[], [], [], y4, y5⟩ : cabalref12_Disk), BF b5 70 (ko_journal_Journal_0 (.pointer (some ⟨b1, 0, none⟩))) (⟨(), y6, y7, y8⟩ : journal_Journal), BF b6 56 (ko_cabalref13_Journal_0 (.pointer (some ⟨b2, 0, none⟩))) (⟨(), y9, y10⟩ : cabalref13_Journal), RowF v11 100 (karr 256 (kint .u8)) y11, RowF v12 102 k_disk_write y12, RowF v13 9 kstr y13, RowF v14 3 (kint .i64) y14, RowF v15 9 kstr y15])) s93 rfl rfl (ob_store (A := []) rfl tk33 (.tmp rfl) (.tmp rfl) rfl (LS.refl _ _ _) rfl) fun _ a94 w94 s94 => ?_; clear s93
      refine wn hK18 ?_
      have s95 := s94.sub (u 1 rfl (u 5 rfl (u 6 rfl (u 7 rfl (u 9 rfl (u 11 rfl (u 12 rfl (u 100000 rfl (u 100001 rfl .nil))))))))); clear s94
      refine wp_seq_k fun K19 hK19 => wp_seq_k fun K20 hK20 => ?_
      obtain ⟨x12, e_x12, h23⟩ := bind_some h22; clear h22
      refine wp_region_lit (qs s95 (.c1 rfl (ob_fieldAddr (off' := 2) rfl Tryd.underlying33 rfl sz30 (by decide) (.tmp rfl) rfl) (.c1 rfl (ob_load rfl tk30 (.tmp rfl) (.head _) (lg_caballaw13_Act_L x11)) (.c1 rfl (ob_callD0 (args := [_]) rfl .direct hb9 (fun a w s => by exact c_caballaw13_great k _ _ e_x12 _ _ _ (s.arg (.tmp rfl)))) (.ce (u 1 rfl (u 5 rfl (u 6 rfl (u 7 rfl (u 9 rfl (u 11 rfl (u 12 rfl (u 61 rfl (u 100000 rfl (u 100001 rfl .nil)))))))))))))) fun _ _ s99 => wn hK20 ?_); clear s95
      refine cond_split s99 (.tmp rfl) (fun hc6 => ?_) (fun hc6 => ?_)
      ·have h24 := ite_t hc6 h23; clear h23
       refine wp_exit ?_
       refine (then_exit (in_here ?_))
       refine then_normal ?_
       have s100 := St.drop (A := []) s99; clear s99
       exact hj2 y2 y3 y4 y5 y6 y7 y8 y9 y10 y11 y12 y13 y14 y15 b5 b6 v11 v12 v13 v14 v15 _ _ h24 (s100.sub (.cons rfl (.cons rfl (.cons rfl (.cons rfl (.cons rfl (.cons rfl (.cons rfl (.cons rfl .nil)))))))))
      ·have h25 := ite_f hc6 h23; clear h23
       refine wp_skip ?_
       refine then_normal (hK19 _ _ ?_)
       have s101 := s99.sub (u 1 rfl (u 5 rfl (u 6 rfl (u 7 rfl (u 9 rfl (u 11 rfl (u 12 rfl (u 100000 rfl (u 100001 rfl .nil))))))))); clear s99
       refine wp_seq_k fun K21 hK21 => wp_region_lit (qs s101 (.c1 rfl (ob_assign rfl (opd_str (by rfl) (by decide))) (.ce (u 1 rfl (u 5 rfl (u 6 rfl (u 7 rfl (u 9 rfl (u 11 rfl (u 12 rfl (u 13 rfl (u 100000 rfl (u 100001 rfl .nil)))))))))))) fun _ _ s103 => wn hK21 ?_); clear s101
       refine wp_seq_k fun K22 hK22 => wp_seq_k fun K23 hK23 => ?_
       refine wp_region_lit (qs s103 (.c1 rfl (ob_fieldAddr (off' := 2) rfl Tryd.underlying33 rfl sz30 (by decide) (.tmp rfl) rfl) (.c1 rfl (ob_load rfl tk30 (.tmp rfl) (.head _) (lg_caballaw13_Act_L x11)) (.c1 rfl (ob_lens rfl Tryd.underlying30 (.tmp rfl)) (.c1 rfl (ob_gtr rfl (.tmp rfl) (opd_int rfl)) (.ce (u 1 rfl (u 5 rfl (u 6 rfl (u 7 rfl (u 9 rfl (u 11 rfl (u 12 rfl (u 13 rfl (u 65 rfl (u 100000 rfl (u 100001 rfl .nil)))))))))))))))) fun _ _ s108 => wn hK23 ?_); clear s103
       have hj3 : ∀ (y30 : (List Int)) (a : Act) (w : World), (caballaw13_JournalPlays.j3 k x11 y6 y7 y8 y11 y12 y2 y3 y9 y10 y13 y14 y15 y4 y5 y1 (caballaw13_JournalPlays.l1 k p2 n1)) y30 = some r → St ⟨174, w0, ok, []⟩ [BF b1 68 (ko_disk_Disk_0_1 v11 v12) (⟨[], [], y2, y3⟩ : disk_Disk), BF b2 49 (ko_cabalref12_Disk_0_1_2 v13 v14 v15) (⟨[], [], [], y4, y5⟩ : cabalref12_Disk), BF b5 70 (ko_journal_Journal_0 (.pointer (some ⟨b1, 0, none⟩))) (⟨(), y6, y7, y8⟩ : journal_Journal), BF b6 56 (ko_cabalref13_Journal_0 (.pointer (some ⟨b2, 0, none⟩))) (⟨(), y9, y10⟩ : cabalref13_Journal), BF b9 33 k_caballaw13_Act x11, RowF v11 100 (karr 256 (kint .u8)) y11, RowF v12 102 k_disk_write y12, RowF v13 9 kstr y13, RowF v14 3 (kint .i64) y14, RowF v15 9 kstr y15] [(1, ((ksl k_caballaw13_Act).V p2)), (5, (ptrB b1 0)), (6, (ptrB b2 0)), (7, (ptrB b5 0)), (9, (ptrB b6 0)), (11, ((kint .i64).V y1)), (12, (ptrB b9 0)), (13, (kstr.V y30)), (100000, (known (.pointer (some ⟨0, 0, none⟩)) (ptrTo (karr 8 (kint .u32)) G_digest_first))), (100001, (known (.pointer (some ⟨1, 0, none⟩)) (ptrTo (karr 64 (kint .u32)) G_digest_rounds)))] a w → K22 a w := by
        intro y30 a109 w109 h26 s109
        unfold caballaw13_JournalPlays.j3 at h26
        refine hK22 _ _ ?_
        refine wp_seq_k fun K24 hK24 => wp_region_lit (qs s109 (.c1 rfl (ob_assign rfl opd_bool) (.ce (u 1 rfl (u 5 rfl (u 6 rfl (u 7 rfl (u 9 rfl (u 11 rfl (u 12 rfl (u 13 rfl (u 14 rfl (u 100000 rfl (u 100001 rfl .nil))))))))))))) fun _ _ s111 => wn hK24 ?_); clear s109
        refine wp_seq_k fun K25 hK25 => wp_seq_k fun K26 hK26 => ?_
        refine wp_region_lit (qs s111 (.c1 rfl (ob_fieldAddr (off' := 0) rfl Tryd.underlying33 rfl sz3 (by decide) (.tmp rfl) rfl) (.c1 rfl (ob_load rfl tk3 (.tmp rfl) (.tail _ (.tail _ (.tail _ (.tail _ (.head _))))) (lg_caballaw13_Act_Kind x11)) (.c1 rfl (ob_rem rfl (.tmp rfl) (opd_int rfl) (by decide)) (.ce (u 1 rfl (u 5 rfl (u 6 rfl (u 7 rfl (u 9 rfl (u 11 rfl (u 12 rfl (u 13 rfl (u 14 rfl (u 72 rfl (u 100000 rfl (u 100001 rfl .nil)))))))))))))))) fun _ _ s115 => wn hK26 ?_); clear s111
        have hj4 : ∀ (y31 : Bool) (y32 : Int) (y33 : Bool) (y34 : Int) (y35 : Bool) (y36 : Int) (y37 : (List Int)) (y38 : (List (List Int))) (y39 : Int) (y40 : (List (List Int))) (y41 : (List (List Int))) (y42 : (List disk_write)) (y43 : (List (List Int))) (y44 : (List Int)) (y45 : (List (List Int))) (b10 : Nat) (b11 : Nat) (v21 : Value) (v22 : Value) (v23 : Value) (v24 : Value) (v25 : Value) (a : Act) (w : World), (caballaw13_JournalPlays.j4 k y1 (caballaw13_JournalPlays.l1 k p2 n1)) y31 y32 y33 y34 y35 y36 y37 y38 y39 y40 y41 y42 y43 y44 y45 = some r → St ⟨174, w0, ok, []⟩ [BF b1 68 (ko_disk_Disk_0_1 v21 v22) (⟨[], [], y32, y33⟩ : disk_Disk), BF b2 49 (ko_cabalref12_Disk_0_1_2 v23 v24 v25) (⟨[], [], [], y34, y35⟩ : cabalref12_Disk), BF b10 70 (ko_journal_Journal_0 (.pointer (some ⟨b1, 0, none⟩))) (⟨(), y36, y37, y38⟩ : journal_Journal), BF b11 56 (ko_cabalref13_Journal_0 (.pointer (some ⟨b2, 0, none⟩))) (⟨(), y39, y40⟩ : cabalref13_Journal), RowF v21 100 (karr 256 (kint .u8)) y41, RowF v22 102 k_disk_write y42, RowF v23 9 kstr y43, RowF v24 3 (kint .i64) y44, RowF v25 9 kstr y45] [(1, ((ksl k_caballaw13_Act).V p2)), (5, (ptrB b1 0)), (6, (ptrB b2 0)), (7, (ptrB b10 0)), (9, (ptrB b11 0)), (11, ((kint .i64).V y1)), (14, (kbool.V y31)), (100000, (known (.pointer (some ⟨0, 0, none⟩)) (ptrTo (karr 8 (kint .u32)) G_digest_first))), (100001, (known (.pointer (some ⟨1, 0, none⟩)) (ptrTo (karr 64 (kint .u32)) G_digest_rounds)))] a w → K25 a w := by
         intro y31 y32 y33 y34 y35 y36 y37 y38 y39 y40 y41 y42 y43 y44 y45 b10 b11 v21 v22 v23 v24 v25 a116 w116 h27 s116
         unfold caballaw13_JournalPlays.j4 at h27
         refine hK25 _ _ ?_
         refine wp_seq_k fun K27 hK27 => wp_seq_k fun K28 hK28 => ?_
         have s117 := s116.perm (toFront [_, _] (toFront [] (toFront [_, _] (toFront [_, _] (List.Perm.refl _))))); clear s116
         obtain ⟨x13, e_x13, h28⟩ := bind_some h27; clear h27
         obtain ⟨x14, e_x14, h29⟩ := bind_some h28; clear h28
         obtain ⟨x15, e_x15, h30⟩ := bind_some h29; clear h29
         refine wp_goes (Fs := [(kbool.V y31), (kbool.V (!y31)), (kbool.V (!y31)), (Fact.when ((!y31) == false) (ptrB b10 0)), nofact, (Fact.when ((!y31) == false) (ptrB b11 0)), (Fact.when ((!y31) == false) (ptrB b11 0)), (Fact.when ((!y31) == false) (ptrB b11 2)), (Fact.when ((!y31) == false) ((ksl kstr).V y40)), nofact, nofact, nofact, nofact, nofact, nofact, nofact]) (bits := [0, 1, 3, 7, 15, 7, 39, 103, 231, 511, 1023, 2047, 4095, 8191, 16383, 8191, 65535, 131071, 262143]) (m := 16) (todo := 16400) mx s117 ?_; clear s117
         refine goes_turn (B' := (fun _ : Unit => [BF b10 70 (ko_journal_Journal_0 (.pointer (some ⟨b1, 0, none⟩))) (⟨(), y36, y37, y38⟩ : journal_Journal), BF b1 68 (ko_disk_Disk_0_1 v21 v22) (⟨[], [], y32, y33⟩ : disk_Disk), RowF v21 100 (karr 256 (kint .u8)) y41, RowF v22 102 k_disk_write y42, BF b2 49 (ko_cabalref12_Disk_0_1_2 v23 v24 v25) (⟨[], [], [], y34, y35⟩ : cabalref12_Disk), BF b11 56 (ko_cabalref13_Journal_0 (.pointer (some ⟨b2, 0, none⟩))) (⟨(), y39, y40⟩ : cabalref13_Journal), RowF v23 9 kstr y43, RowF v24 3 (kint .i64) y44, RowF v25 9 kstr y45])) (Fs' := (fun _ : Unit => setAll ([(kbool.V y31), (kbool.V (!y31)), (kbool.V (!y31)), (Fact.when ((!y31) == false) (ptrB b10 0)), nofact, (Fact.when ((!y31) == false) (ptrB b11 0)), (Fact.when ((!y31) == false) (ptrB b11 0)), (Fact.when ((!y31) == false) (ptrB b11 2)), (Fact.when ((!y31) == false) ((ksl kstr).V y40)), nofact, nofact, nofact, nofact, nofact, nofact, nofact]) [(4, (Fact.when ((!y31) == false) ((ksl kstr).V x13))), (9, (Fact.when ((!y31) == false) (kbool.V x14))), (10, (Fact.when ((!y31) == false) (kbool.V (!x14)))), (11, (kbool.V (if (!y31) then true else (!x14)))), (12, (kbool.V (if (!y31) then true else (!x14)))), (13, (Fact.when ((if (!y31) then true else (!x14)) == false) (ptrB b10 0))), (15, (Fact.when ((if (!y31) then true else (!x14)) == false) (ptrB b11 0)))])) 4 65040 31 16384 (by kernel_rfl) rfl rfl rfl (oc (av 14 rfl rfl (av 100000 rfl rfl (av 100001 rfl rfl Av.nil))) rfl rfl (mv rfl rfl) (oc (an 0 rfl rfl rfl (av 100000 rfl rfl (av 100001 rfl rfl Av.nil))) rfl rfl (ob_not rfl (.tmp rfl)) (oc (an 1 rfl rfl rfl (av 100000 rfl rfl (av 100001 rfl rfl Av.nil))) rfl rfl (mv rfl rfl) (opsS_cons (.guarded _ (av 7 rfl rfl (an 2 rfl rfl rfl (av 100000 rfl rfl (av 100001 rfl rfl Av.nil)))) rfl rfl rfl rfl (fun hb => ob_move rfl (.tmp rfl))) (opsS_skip (by rfl) (opsS_cons (.guarded _ (av 9 rfl rfl (an 2 rfl rfl rfl (av 100000 rfl rfl (av 100001 rfl rfl Av.nil)))) rfl rfl rfl rfl (fun hb => ob_move rfl (.tmp rfl))) (opsS_cons (.guarded _ (an 2 rfl rfl rfl (an 5 rfl rfl rfl (av 100000 rfl rfl (av 100001 rfl rfl Av.nil)))) rfl rfl rfl rfl (fun hb => (Ob.uncond (t := 139) hb rfl (ob_nilCheck rfl (.tmp rfl))))) (opsS_cons (.guarded _ (an 2 rfl rfl rfl (an 6 rfl rfl rfl (av 100000 rfl rfl (av 100001 rfl rfl Av.nil)))) rfl rfl rfl rfl (fun hb => (Ob.uncond (t := 140) hb rfl (ob_fieldAddr (off' := 2) rfl Tryd.underlying56 rfl sz30 (by decide) (.tmp rfl) rfl)))) (opsS_cons (.guarded _ (an 2 rfl rfl rfl (an 7 rfl rfl rfl (av 100000 rfl rfl (av 100001 rfl rfl Av.nil)))) rfl rfl rfl rfl (fun hb => (Ob.uncond (t := 141) hb rfl (ob_load rfl tk30 (.tmp rfl) (.tail _ (.tail _ (.tail _ (.tail _ (.tail _ (.head _)))))) (lgo_cabalref13_Journal_0_L (⟨(), y39, y40⟩ : cabalref13_Journal)))))) (opsS_skip (by rfl) (opsS_skip (by rfl) (opsS_skip (by rfl) (opsS_skip (by rfl) (opsS_skip (by rfl) (opsS_skip (by rfl) (opsS_skip (by rfl) opsS_nil)))))))))))))))) (.guarded _ (an 2 rfl rfl rfl (an 3 rfl rfl rfl (av 100000 rfl rfl (av 100001 rfl rfl Av.nil)))) rfl rfl rfl (fun _ => rfl) (fun hb R => (ObX.uncond (t := 137) hb rfl (ob_callL0 (args := [_]) (L := [_, _, _, _]) rfl .direct hb13 (List.Perm.refl _) (fun a w s => by exact c_journal_Journal_Records k _ _ _ (ite_t hb e_x13) _ _ _ _ _ _ _ (ownL s) (disL s) (nodL s) (s.arg (.tmp rfl))) (by exact fun _ => rfl)))) (fun hb0 => by obtain rfl := Option.some.inj (ite_f hb0 e_x13); exact ⟨(), rfl⟩)) (setAll_same (us := (fun _ : Unit => [(4, (Fact.when ((!y31) == false) ((ksl kstr).V x13))), (9, (Fact.when ((!y31) == false) (kbool.V x14))), (10, (Fact.when ((!y31) == false) (kbool.V (!x14)))), (11, (kbool.V (if (!y31) then true else (!x14)))), (12, (kbool.V (if (!y31) then true else (!x14)))), (13, (Fact.when ((if (!y31) then true else (!x14)) == false) (ptrB b10 0))), (15, (Fact.when ((if (!y31) then true else (!x14)) == false) (ptrB b11 0)))])) fun _ => by kernel_rfl) fun _ => ?_
         refine goes_turn (B' := (fun _ : Unit => [BF b10 70 (ko_journal_Journal_0 (.pointer (some ⟨b1, 0, none⟩))) (⟨(), y36, y37, y38⟩ : journal_Journal), BF b1 68 (ko_disk_Disk_0_1 v21 v22) (⟨[], [], y32, y33⟩ : disk_Disk), RowF v21 100 (karr 256 (kint .u8)) y41, RowF v22 102 k_disk_write y42, BF b2 49 (ko_cabalref12_Disk_0_1_2 v23 v24 v25) (⟨[], [], [], y34, y35⟩ : cabalref12_Disk), BF b11 56 (ko_cabalref13_Journal_0 (.pointer (some ⟨b2, 0, none⟩))) (⟨(), y39, y40⟩ : cabalref13_Journal), RowF v23 9 kstr y43, RowF v24 3 (kint .i64) y44, RowF v25 9 kstr y45])) (Fs' := (fun _ : Unit => setAll (setAll ([(kbool.V y31), (kbool.V (!y31)), (kbool.V (!y31)), (Fact.when ((!y31) == false) (ptrB b10 0)), nofact, (Fact.when ((!y31) == false) (ptrB b11 0)), (Fact.when ((!y31) == false) (ptrB b11 0)), (Fact.when ((!y31) == false) (ptrB b11 2)), (Fact.when ((!y31) == false) ((ksl kstr).V y40)), nofact, nofact, nofact, nofact, nofact, nofact, nofact]) [(4, (Fact.when ((!y31) == false) ((ksl kstr).V x13))), (9, (Fact.when ((!y31) == false) (kbool.V x14))), (10, (Fact.when ((!y31) == false) (kbool.V (!x14)))), (11, (kbool.V (if (!y31) then true else (!x14)))), (12, (kbool.V (if (!y31) then true else (!x14)))), (13, (Fact.when ((if (!y31) then true else (!x14)) == false) (ptrB b10 0))), (15, (Fact.when ((if (!y31) then true else (!x14)) == false) (ptrB b11 0)))]) [(14, (Fact.when ((if (!y31) then true else (!x14)) == false) ((kint .i64).V x15)))])) 14 16415 32767 0 (by kernel_rfl) rfl rfl rfl (opsS_skip (by rfl) (opsS_skip (by rfl) (opsS_skip (by rfl) (opsS_skip (by rfl) (opsS_skip (by rfl) (opsS_cons (.guarded _ (av 9 rfl rfl (an 2 rfl rfl rfl (av 100000 rfl rfl (av 100001 rfl rfl Av.nil)))) rfl rfl rfl rfl (fun hb => ob_move rfl (.tmp rfl))) (opsS_cons (.guarded _ (an 2 rfl rfl rfl (an 5 rfl rfl rfl (av 100000 rfl rfl (av 100001 rfl rfl Av.nil)))) rfl rfl rfl rfl (fun hb => (Ob.uncond (t := 139) hb rfl (ob_nilCheck rfl (.tmp rfl))))) (opsS_cons (.guarded _ (an 2 rfl rfl rfl (an 6 rfl rfl rfl (av 100000 rfl rfl (av 100001 rfl rfl Av.nil)))) rfl rfl rfl rfl (fun hb => (Ob.uncond (t := 140) hb rfl (ob_fieldAddr (off' := 2) rfl Tryd.underlying56 rfl sz30 (by decide) (.tmp rfl) rfl)))) (opsS_cons (.guarded _ (an 2 rfl rfl rfl (an 7 rfl rfl rfl (av 100000 rfl rfl (av 100001 rfl rfl Av.nil)))) rfl rfl rfl rfl (fun hb => (Ob.uncond (t := 141) hb rfl (ob_load rfl tk30 (.tmp rfl) (.tail _ (.tail _ (.tail _ (.tail _ (.tail _ (.head _)))))) (lgo_cabalref13_Journal_0_L (⟨(), y39, y40⟩ : cabalref13_Journal)))))) (opsS_cons (.guarded _ (an 2 rfl rfl rfl (an 4 rfl rfl rfl (an 8 rfl rfl rfl (av 100000 rfl rfl (av 100001 rfl rfl Av.nil))))) rfl rfl rfl rfl (fun hb => (Ob.uncond (t := 142) hb rfl ((Ob.uncond (t := 138) hb rfl (ob_callD0 (args := [_, _]) rfl .direct hb12 (fun a w s => by exact c_cabalref13_Same k _ _ _ (ite_t hb e_x14) _ _ _ _ (s.arg (.tmp rfl)) (s.arg (.tmp rfl))))))))) (opsS_cons (.guarded _ (an 2 rfl rfl rfl (an 9 rfl rfl rfl (av 100000 rfl rfl (av 100001 rfl rfl Av.nil)))) rfl rfl rfl rfl (fun hb => (Ob.uncond (t := 143) hb rfl (ob_not rfl (.tmp rfl))))) (oc (an 2 rfl rfl rfl (an 10 rfl rfl rfl (av 100000 rfl rfl (av 100001 rfl rfl Av.nil)))) rfl rfl (ob_or2 rfl (.tmp rfl) opd_bool (.tmp rfl)) (oc (an 11 rfl rfl rfl (av 100000 rfl rfl (av 100001 rfl rfl Av.nil))) rfl rfl (mv rfl rfl) (opsS_cons (.guarded _ (av 7 rfl rfl (an 12 rfl rfl rfl (av 100000 rfl rfl (av 100001 rfl rfl Av.nil)))) rfl rfl rfl rfl (fun hb => ob_move rfl (.tmp rfl))) (opsS_skip (by rfl) (opsS_cons (.guarded _ (av 9 rfl rfl (an 12 rfl rfl rfl (av 100000 rfl rfl (av 100001 rfl rfl Av.nil)))) rfl rfl rfl rfl (fun hb => ob_move rfl (.tmp rfl))) opsS_nil)))))))))))))))) (.guarded _ (an 12 rfl rfl rfl (an 13 rfl rfl rfl (av 100000 rfl rfl (av 100001 rfl rfl Av.nil)))) rfl rfl rfl (fun _ => rfl) (fun hb R => (ObX.uncond (t := 147) hb rfl (ob_callL0 (args := [_]) (L := [_, _, _, _]) rfl .direct hb20 (List.Perm.refl _) (fun a w s => by exact c_journal_Journal_Room k _ _ _ (ite_t hb e_x15) _ _ _ _ _ _ _ (ownL s) (disL s) (nodL s) (s.arg (.tmp rfl))) (by exact fun _ => rfl)))) (fun hb0 => by obtain rfl := Option.some.inj (ite_f hb0 e_x15); exact ⟨(), rfl⟩)) (setAll_same (us := (fun _ : Unit => [(14, (Fact.when ((if (!y31) then true else (!x14)) == false) ((kint .i64).V x15)))])) fun _ => by kernel_rfl) fun _ => ?_
         refine goes_last (by kernel_rfl) rfl (opsS_skip (by rfl) (opsS_skip (by rfl) (opsS_skip (by rfl) (opsS_skip (by rfl) (opsS_skip (by rfl) (opsS_skip (by rfl) (opsS_skip (by rfl) (opsS_skip (by rfl) (opsS_skip (by rfl) (opsS_skip (by rfl) (opsS_skip (by rfl) (opsS_skip (by rfl) (opsS_skip (by rfl) (opsS_skip (by rfl) (opsS_skip (by rfl) (opsS_cons (.guarded _ (av 9 rfl rfl (an 12 rfl rfl rfl (av 100000 rfl rfl (av 100001 rfl rfl Av.nil)))) rfl rfl rfl rfl (fun hb => ob_move rfl (.tmp rfl))) opsS_nil)))))))))))))))) (out_old (t := 1) rfl rfl (out_old (t := 5) rfl rfl (out_old (t := 6) rfl rfl (out_old (t := 7) rfl rfl (out_old (t := 9) rfl rfl (out_old (t := 11) rfl rfl (out_new (i := 12) (by decide) rfl rfl (out_new (i := 14) (by decide) rfl rfl (out_new (i := 15) (by decide) rfl rfl (out_old (t := 100000) rfl rfl (out_old (t := 100001) rfl rfl out_nil))))))))))) fun _ _ s118 => ?_
         have s119 := s118.perm (toFront [_, _, _, _, _] (toFront [_, _, _, _] (toFront [_, _, _, _] (toFront [_, _, _, _] (toFront [_, _, _, _] (List.Perm.refl _)))))); clear s118
         obtain ⟨x16, e_x16, h31⟩ := bind_some h30; clear h30
         refine seq_opxg (B1 := (fun _ : Unit => [BF b11 56 (ko_cabalref13_Journal_0 (.pointer (some ⟨b2, 0, none⟩))) (⟨(), y39, y40⟩ : cabalref13_Journal), BF b2 49 (ko_cabalref12_Disk_0_1_2 v23 v24 v25) (⟨[], [], [], y34, y35⟩ : cabalref12_Disk), RowF v23 9 kstr y43, RowF v24 3 (kint .i64) y44, RowF v25 9 kstr y45, BF b10 70 (ko_journal_Journal_0 (.pointer (some ⟨b1, 0, none⟩))) (⟨(), y36, y37, y38⟩ : journal_Journal), BF b1 68 (ko_disk_Disk_0_1 v21 v22) (⟨[], [], y32, y33⟩ : disk_Disk), RowF v21 100 (karr 256 (kint .u8)) y41, RowF v22 102 k_disk_write y42])) s119 rfl rfl rfl rfl (of_decide_eq_true rfl) (fun hb => (ObX.uncond (t := 149) hb rfl (ob_callL0 (args := [_]) (L := [_, _, _, _, _]) rfl .direct hb22 (List.Perm.refl _) (fun a w s => by exact c_cabalref13_Journal_Room k _ _ _ (ite_t hb e_x16) _ _ _ _ _ _ _ _ (ownL s) (disL s) (nodL s) (s.arg (.tmp rfl))) (by exact fun _ => rfl)))) (fun hb0 => by obtain rfl := Option.some.inj (ite_f hb0 e_x16); exact ⟨(), rfl⟩) fun _ a120 w120 s120 => ?_; clear s119
         refine qs s120 (.cg rfl rfl rfl rfl (fun hb => (Ob.uncond (t := 150) hb rfl ((Ob.uncond (t := 148) hb rfl (ob_neq rfl (.tmp rfl) (.tmp rfl)))))) (.c1 rfl (ob_or2 rfl (.tmp rfl) opd_bool (.tmp rfl)) (.ce (u 1 rfl (u 5 rfl (u 6 rfl (u 7 rfl (u 9 rfl (u 11 rfl (u 152 rfl (u 100000 rfl (u 100001 rfl .nil)))))))))))) fun _ _ s123 => wn hK28 ?_; clear s120
         refine cond_split s123 (.tmp rfl) (fun hc7 => ?_) (fun hc7 => ?_)
         ·have h32 := ite_t hc7 h31; clear h31
          refine wp_seq_k fun K29 hK29 => wp_region_lit (qs s123 (.c1 rfl (ob_assign rfl opd_bool) (.ce (u 4 rfl (u 100000 rfl (u 100001 rfl .nil))))) fun _ _ s125 => wn hK29 ?_); clear s123
          have s126 := St.drop (A := []) s125; clear s125
          have s127 := St.drop (A := []) s126; clear s126
          have s128 := St.drop (A := []) s127; clear s127
          have s129 := St.drop (A := []) s128; clear s128
          have s130 := St.drop (A := []) s129; clear s129
          have s131 := St.drop (A := []) s130; clear s130
          have s132 := St.drop (A := []) s131; clear s131
          have s133 := St.drop (A := []) s132; clear s132
          have s134 := St.drop (A := []) s133; clear s133
          refine wp_ret ?_
          obtain rfl := Option.some.inj h32
          exact leave s134 (.inl rfl) rfl (.cons (.tmp rfl) .nil)
         ·have h33 := ite_f hc7 h31; clear h31
          refine wp_skip ?_
          refine then_normal (hK27 _ _ ?_)
          have s135 := s123.sub (u 1 rfl (u 5 rfl (u 6 rfl (u 7 rfl (u 9 rfl (u 11 rfl (u 100000 rfl (u 100001 rfl .nil)))))))); clear s123
          refine wp_seq_k fun K30 hK30 => wp_region_lit (qs s135 (.c1 rfl (ob_assign rfl (opd_int rfl)) (.ce (u 1 rfl (u 5 rfl (u 6 rfl (u 7 rfl (u 9 rfl (u 11 rfl (u 15 rfl (u 100000 rfl (u 100001 rfl .nil))))))))))) fun _ _ s137 => wn hK30 ?_); clear s135
          refine wp_block ?_
          have s138 := s137.perm (toFront [_, _, _, _, _, _] (toFront [_] (toFront [_, _, _, _] (toFront [] (toFront [_, _, _] (toFront [_, _, _] (toFront [] (toFront [] (toFront [] (List.Perm.refl _)))))))))); clear s137
          refine wp_loop_fuel (fun m (q : Int) => caballaw13_JournalPlays.l2 k y43 y41 y42 y32 y33 y1 y34 y35 y36 y37 y38 y39 y40 y44 y45 (caballaw13_JournalPlays.l1 k p2 n1) m q) r (fun _ => rfl) (fun q a w => St ⟨174, w0, ok, []⟩ [BF b1 68 (ko_disk_Disk_0_1 v21 v22) (⟨[], [], y32, y33⟩ : disk_Disk), BF b2 49 (ko_cabalref12_Disk_0_1_2 v23 v24 v25) (⟨[], [], [], y34, y35⟩ : cabalref12_Disk), BF b10 70 (ko_journal_Journal_0 (.pointer (some ⟨b1, 0, none⟩))) (⟨(), y36, y37, y38⟩ : journal_Journal), BF b11 56 (ko_cabalref13_Journal_0 (.pointer (some ⟨b2, 0, none⟩))) (⟨(), y39, y40⟩ : cabalref13_Journal), RowF v21 100 (karr 256 (kint .u8)) y41, RowF v22 102 k_disk_write y42, RowF v23 9 kstr y43, RowF v24 3 (kint .i64) y44, RowF v25 9 kstr y45] [(1, ((ksl k_caballaw13_Act).V p2)), (5, (ptrB b1 0)), (6, (ptrB b2 0)), (7, (ptrB b10 0)), (9, (ptrB b11 0)), (11, ((kint .i64).V y1)), (15, ((kint .i64).V q)), (100000, (known (.pointer (some ⟨0, 0, none⟩)) (ptrTo (karr 8 (kint .u32)) G_digest_first))), (100001, (known (.pointer (some ⟨1, 0, none⟩)) (ptrTo (karr 64 (kint .u32)) G_digest_rounds)))] a w) ?_ k (0 : Int) _ _ h33 (s138.sub (.cons rfl (.cons rfl (.cons rfl (.cons rfl (.cons rfl (.cons rfl (.cons rfl (.cons rfl (.cons rfl .nil))))))))))
          rintro n2 y46 a139 w139 h34 s139 K31 hK31
          replace h34 : caballaw13_JournalPlays.l2 k y43 y41 y42 y32 y33 y1 y34 y35 y36 y37 y38 y39 y40 y44 y45 (caballaw13_JournalPlays.l1 k p2 n1) (n2 + 1) y46 = some r := h34; rw [caballaw13_JournalPlays.l2] at h34
          have h35 := h34; clear h34
          refine wp_seq_k fun K32 hK32 => wp_seq_k fun K33 hK33 => ?_
          refine wp_region_lit (qs s139 (.c1 rfl (mv rfl rfl) (.c1 rfl (mv rfl rfl) (.c1 rfl (ob_nilCheck rfl (.tmp rfl)) (.c1 rfl (ob_fieldAddr (off' := 0) rfl Tryd.underlying49 rfl sz30 (by decide) (.tmp rfl) rfl) (.c1 rfl (ob_loadRowV rfl (tkr30 _) (.tmp rfl) (.tail _ (.head _)) (lgo_cabalref12_Disk_0_1_2_Firm (⟨[], [], [], y34, y35⟩ : cabalref12_Disk))) (.c1 rfl (ob_lenRow rfl Tryd.underlying30 (.tmp rfl) (.tail _ (.tail _ (.tail _ (.tail _ (.tail _ (.tail _ (.head _)))))))) (.c1 rfl (ob_lss rfl (.tmp rfl) (.tmp rfl)) (.ce (u 1 rfl (u 5 rfl (u 6 rfl (u 7 rfl (u 9 rfl (u 11 rfl (u 15 rfl (u 159 rfl (u 100000 rfl (u 100001 rfl .nil)))))))))))))))))) fun _ _ s147 => wn hK33 ?_); clear s139
          refine cond_split s147 (.tmp rfl) (fun hc8 => ?_) (fun hc8 => ?_)
          ·have h36 := ite_t hc8 h35; clear h35
           refine wp_skip ?_
           refine then_normal (hK32 _ _ ?_)
           have s148 := s147.sub (u 1 rfl (u 5 rfl (u 6 rfl (u 7 rfl (u 9 rfl (u 11 rfl (u 15 rfl (u 100000 rfl (u 100001 rfl .nil))))))))); clear s147
           refine wp_seq_k fun K34 hK34 => wp_block ?_
           refine wp_seq_k fun K35 hK35 => ?_
           obtain ⟨x17, e_x17, h37⟩ := bind_some h36; clear h36
           obtain ⟨g1, h38⟩ := guard_some h37; clear h37
           obtain ⟨x18, e_x18, h39⟩ := bind_some h38; clear h38
           refine wp_goes (Fs := [(ptrB b1 0), ((kint .i64).V y46), (kstr.V x17), (ptrB b2 0), (ptrB b2 0), (ptrB b2 0), (is v23), ((kint .i64).V y46), (ptrR v23 (y46.toNat * 1)), (kstr.V x18)]) (bits := [0, 0, 3, 0, 8, 24, 56, 0, 248, 504, 1023]) (m := 10) (todo := 0) mx s148 ?_; clear s148
           refine goes_last (by kernel_rfl) rfl (oc (av 5 rfl rfl (av 100000 rfl rfl (av 100001 rfl rfl Av.nil))) rfl rfl (mv rfl rfl) (oc (av 15 rfl rfl (av 100000 rfl rfl (av 100001 rfl rfl Av.nil))) rfl rfl (mv rfl rfl) (oc (an 0 rfl rfl rfl (an 1 rfl rfl rfl (av 100000 rfl rfl (av 100001 rfl rfl Av.nil)))) rfl rfl ((ob_lendG (L := [_, _, _]) (toFront [] (toFront [_, _, _] (toFront [_, _, _] (List.Perm.refl _)))) (.cons (t := 162) rfl (lendObj (K' := k_disk_Disk) (X' := (⟨y41, y42, y32, y33⟩ : disk_Disk)) (.head _) rfl (upo_disk_Disk_0_1 rfl (.row (LetAll.row (.tail _ (.head _)))) (.row (LetAll.row (.tail _ (.tail _ (.head _))))))) .nil) (Flat.res1 (Flat.V KFlat.str)) (fun _ => ob_callD0 (args := [_, _]) rfl .direct hb29 (fun a w s => by exact c_disk_Disk_Settled k _ _ _ e_x17 _ _ _ _ (s.arg (.tmp rfl)) (s.arg (.tmp rfl)))))) (oc (av 6 rfl rfl (av 100000 rfl rfl (av 100001 rfl rfl Av.nil))) rfl rfl (mv rfl rfl) (oc (an 3 rfl rfl rfl (av 100000 rfl rfl (av 100001 rfl rfl Av.nil))) rfl rfl (ob_nilCheck rfl (.tmp rfl)) (oc (an 4 rfl rfl rfl (av 100000 rfl rfl (av 100001 rfl rfl Av.nil))) rfl rfl (ob_fieldAddr (off' := 0) rfl Tryd.underlying49 rfl sz30 (by decide) (.tmp rfl) rfl) (oc (an 5 rfl rfl rfl (av 100000 rfl rfl (av 100001 rfl rfl Av.nil))) rfl rfl (ob_loadRowV rfl (tkr30 _) (.tmp rfl) (.tail _ (.head _)) (lgo_cabalref12_Disk_0_1_2_Firm (⟨[], [], [], y34, y35⟩ : cabalref12_Disk))) (oc (av 15 rfl rfl (av 100000 rfl rfl (av 100001 rfl rfl Av.nil))) rfl rfl (mv rfl rfl) (oc (an 6 rfl rfl rfl (an 7 rfl rfl rfl (av 100000 rfl rfl (av 100001 rfl rfl Av.nil)))) rfl rfl (ob_rowAt rfl Tryd.underlying30 sz9 (.tmp rfl) (.tail _ (.tail _ (.tail _ (.tail _ (.tail _ (.tail _ (.head _))))))) (.tmp rfl) g1) (oc (an 8 rfl rfl rfl (av 100000 rfl rfl (av 100001 rfl rfl Av.nil))) rfl rfl (ob_rowLoad rfl tk9 (.tmp rfl) (.tail _ (.tail _ (.tail _ (.tail _ (.tail _ (.tail _ (.head _))))))) (LG.arrA e_x18)) opsS_nil)))))))))) (out_old (t := 1) rfl rfl (out_old (t := 5) rfl rfl (out_old (t := 6) rfl rfl (out_old (t := 7) rfl rfl (out_old (t := 9) rfl rfl (out_old (t := 11) rfl rfl (out_old (t := 15) rfl rfl (out_new (i := 2) (by decide) rfl rfl (out_new (i := 9) (by decide) rfl rfl (out_old (t := 100000) rfl rfl (out_old (t := 100001) rfl rfl out_nil))))))))))) fun _ _ s149 => ?_
           refine qs s149 (.c1 rfl (ob_sneq rfl (.tmp rfl) (.tmp rfl)) (.ce (u 1 rfl (u 5 rfl (u 6 rfl (u 7 rfl (u 9 rfl (u 11 rfl (u 15 rfl (u 172 rfl (u 100000 rfl (u 100001 rfl .nil)))))))))))) fun _ _ s151 => wn hK35 ?_; clear s149
           refine cond_split s151 (.tmp rfl) (fun hc9 => ?_) (fun hc9 => ?_)
           ·have h40 := ite_t hc9 h39; clear h39
            refine wp_seq_k fun K36 hK36 => wp_region_lit (qs s151 (.c1 rfl (ob_assign rfl opd_bool) (.ce (u 4 rfl (u 100000 rfl (u 100001 rfl .nil))))) fun _ _ s153 => wn hK36 ?_); clear s151
            have s154 := St.drop (A := []) s153; clear s153
            have s155 := St.drop (A := []) s154; clear s154
            have s156 := St.drop (A := []) s155; clear s155
            have s157 := St.drop (A := []) s156; clear s156
            have s158 := St.drop (A := []) s157; clear s157
            have s159 := St.drop (A := []) s158; clear s158
            have s160 := St.drop (A := []) s159; clear s159
            have s161 := St.drop (A := []) s160; clear s160
            have s162 := St.drop (A := []) s161; clear s161
            refine wp_ret ?_
            obtain rfl := Option.some.inj h40
            exact leave s162 (.inl rfl) rfl (.cons (.tmp rfl) .nil)
           ·have h41 := ite_f hc9 h39; clear h39
            refine wp_skip ?_
            refine in_normal ?_
            refine then_normal (hK34 _ _ ?_)
            have s163 := s151.sub (u 1 rfl (u 5 rfl (u 6 rfl (u 7 rfl (u 9 rfl (u 11 rfl (u 15 rfl (u 100000 rfl (u 100001 rfl .nil))))))))); clear s151
            refine wp_region_lit (qs s163 (.c1 rfl (mv rfl rfl) (.c1 rfl (ob_add rfl (.tmp rfl) (opd_int rfl)) (.c1 rfl (ob_assign rfl (.tmp rfl)) .cz))) fun _ _ s166 => ?_); clear s163
            refine wpList_nil ?_
            refine then_normal ?_
            exact hK31 (iadd .i64 y46 (1 : Int)) _ _ h41 (s166.sub (.cons rfl (.cons rfl (.cons rfl (.cons rfl (.cons rfl (.cons rfl (.cons rfl (.cons rfl (.cons rfl .nil))))))))))
          ·have h42 := ite_f hc8 h35; clear h35
           refine wp_exit ?_
           refine (then_exit (then_exit (in_here ?_)))
           refine in_normal ?_
           refine then_normal ?_
           exact hj2 y32 y33 y34 y35 y36 y37 y38 y39 y40 y41 y42 y43 y44 y45 b10 b11 v21 v22 v23 v24 v25 _ _ h42 (s147.sub (.cons rfl (.cons rfl (.cons rfl (.cons rfl (.cons rfl (.cons rfl (.cons rfl (.cons rfl .nil)))))))))
        refine wp_block ?_
        refine wp_seq_k fun K37 hK37 => wp_region_lit (qs s115 (.c1 rfl (ob_eql rfl (.tmp rfl) (opd_int rfl)) (.c1 rfl (ob_assign rfl (.tmp rfl)) (.ce (u 1 rfl (u 5 rfl (u 6 rfl (u 7 rfl (u 9 rfl (u 11 rfl (u 12 rfl (u 13 rfl (u 14 rfl (u 72 rfl (u 73 rfl (u 100000 rfl (u 100001 rfl .nil)))))))))))))))) fun _ _ s169 => wn hK37 ?_); clear s115
        refine cond_split s169 (.tmp rfl) (fun hc10 => ?_) (fun hc10 => ?_)
        ·have h43 := ite_t hc10 h26; clear h26
         obtain ⟨x19, e_x19, h44⟩ := bind_some h43; clear h43
         refine wp_goes (Fs := [(ptrB b5 0), (ptrB b9 2), ((ksl kstr).V x11.L), nofact, (ptrB b6 0), (ptrB b9 2), ((ksl kstr).V x11.L)]) (bits := [0, 0, 2, 7, 0, 0, 32, 127, 255, 511]) (m := 7) (todo := 8) mx s169 ?_; clear s169
         refine goes_turn (B' := (fun gg : Value × Value => [BF b5 70 (ko_journal_Journal_0 (.pointer (some ⟨b1, 0, none⟩))) (⟨(), x19.2.1.area, x19.2.1.bytes, x19.2.1.l⟩ : journal_Journal), BF b1 68 (ko_disk_Disk_0_1 gg.1 gg.2) (⟨[], [], x19.2.2.fuse, x19.2.2.dead⟩ : disk_Disk), RowF gg.1 100 (karr 256 (kint .u8)) x19.2.2.firm, RowF gg.2 102 k_disk_write x19.2.2.loose, BF b2 49 (ko_cabalref12_Disk_0_1_2 v13 v14 v15) (⟨[], [], [], y4, y5⟩ : cabalref12_Disk), BF b6 56 (ko_cabalref13_Journal_0 (.pointer (some ⟨b2, 0, none⟩))) (⟨(), y9, y10⟩ : cabalref13_Journal), BF b9 33 k_caballaw13_Act x11, RowF v13 9 kstr y13, RowF v14 3 (kint .i64) y14, RowF v15 9 kstr y15])) (Fs' := (fun gg : Value × Value => setAll ([(ptrB b5 0), (ptrB b9 2), ((ksl kstr).V x11.L), nofact, (ptrB b6 0), (ptrB b9 2), ((ksl kstr).V x11.L)]) [(3, ((kint .i64).V x19.1))])) 3 8 15 0 (by kernel_rfl) rfl rfl rfl (oc (av 7 rfl rfl (av 100000 rfl rfl (av 100001 rfl rfl Av.nil))) rfl rfl (mv rfl rfl) (oc (av 12 rfl rfl (av 100000 rfl rfl (av 100001 rfl rfl Av.nil))) rfl rfl (ob_fieldAddr (off' := 2) rfl Tryd.underlying33 rfl sz30 (by decide) (.tmp rfl) rfl) (oc (an 1 rfl rfl rfl (av 100000 rfl rfl (av 100001 rfl rfl Av.nil))) rfl rfl (ob_load rfl tk30 (.tmp rfl) (.tail _ (.tail _ (.tail _ (.tail _ (.head _))))) (lg_caballaw13_Act_L x11)) (opsS_skip (by rfl) (oc (av 9 rfl rfl (av 100000 rfl rfl (av 100001 rfl rfl Av.nil))) rfl rfl (mv rfl rfl) (oc (av 12 rfl rfl (av 100000 rfl rfl (av 100001 rfl rfl Av.nil))) rfl rfl (ob_fieldAddr (off' := 2) rfl Tryd.underlying33 rfl sz30 (by decide) (.tmp rfl) rfl) (oc (an 5 rfl rfl rfl (av 100000 rfl rfl (av 100001 rfl rfl Av.nil))) rfl rfl (ob_load rfl tk30 (.tmp rfl) (.tail _ (.tail _ (.tail _ (.tail _ (.head _))))) (lg_caballaw13_Act_L x11)) opsS_nil))))))) (.plain _ (an 0 rfl rfl rfl (an 2 rfl rfl rfl (av 100000 rfl rfl (av 100001 rfl rfl Av.nil)))) rfl (fun _ => rfl) (fun R => ob_callL0 (args := [_, _]) (L := [_, _, _, _]) rfl .direct hb11 (toFront [_, _] (toFront [] (toFront [_, _, _] (toFront [_, _, _] (List.Perm.refl _))))) (fun a w s => by exact c_journal_Journal_Append k _ _ _ _ e_x19 _ _ (s.env _ _ (show get _ 100000 = _ from rfl)) (s.env _ _ (show get _ 100001 = _ from rfl)) _ _ _ _ _ _ (ownL s) (disL s) (nodL s) (s.arg (.tmp rfl)) (s.arg (.tmp rfl))) (by exact fun _ => rfl))) (setAll_same (us := (fun gg : Value × Value => [(3, ((kint .i64).V x19.1))])) fun _ => by kernel_rfl) fun gg171 => ?_
         obtain ⟨v26, v27⟩ := gg171
         refine goes_last (by kernel_rfl) rfl (opsS_skip (by rfl) (opsS_skip (by rfl) (opsS_skip (by rfl) (opsS_skip (by rfl) (oc (av 9 rfl rfl (av 100000 rfl rfl (av 100001 rfl rfl Av.nil))) rfl rfl (mv rfl rfl) (oc (av 12 rfl rfl (av 100000 rfl rfl (av 100001 rfl rfl Av.nil))) rfl rfl (ob_fieldAddr (off' := 2) rfl Tryd.underlying33 rfl sz30 (by decide) (.tmp rfl) rfl) (oc (an 5 rfl rfl rfl (av 100000 rfl rfl (av 100001 rfl rfl Av.nil))) rfl rfl (ob_load rfl tk30 (.tmp rfl) (.tail _ (.tail _ (.tail _ (.tail _ (.tail _ (.tail _ (.head _))))))) (lg_caballaw13_Act_L x11)) opsS_nil))))))) (out_old (t := 1) rfl rfl (out_old (t := 5) rfl rfl (out_old (t := 6) rfl rfl (out_old (t := 7) rfl rfl (out_old (t := 9) rfl rfl (out_old (t := 11) rfl rfl (out_old (t := 14) rfl rfl (out_new (i := 3) (by decide) rfl rfl (out_new (i := 4) (by decide) rfl rfl (out_new (i := 6) (by decide) rfl rfl (out_old (t := 100000) rfl rfl (out_old (t := 100001) rfl rfl out_nil)))))))))))) fun _ _ s170 => ?_
         obtain ⟨x20, e_x20, h45⟩ := bind_some h44; clear h44
         refine qx (B' := (fun gg : Value × Value × Value => [BF b6 56 (ko_cabalref13_Journal_0 (.pointer (some ⟨b2, 0, none⟩))) (⟨(), x20.2.1.Area, x20.2.1.L⟩ : cabalref13_Journal), BF b2 49 (ko_cabalref12_Disk_0_1_2 gg.1 gg.2.1 gg.2.2) (⟨[], [], [], x20.2.2.Fuse, x20.2.2.Dead⟩ : cabalref12_Disk), RowF gg.1 9 kstr x20.2.2.Firm, RowF gg.2.1 3 (kint .i64) x20.2.2.At, RowF gg.2.2 9 kstr x20.2.2.Data, BF b5 70 (ko_journal_Journal_0 (.pointer (some ⟨b1, 0, none⟩))) (⟨(), x19.2.1.area, x19.2.1.bytes, x19.2.1.l⟩ : journal_Journal), BF b1 68 (ko_disk_Disk_0_1 v26 v27) (⟨[], [], x19.2.2.fuse, x19.2.2.dead⟩ : disk_Disk), RowF v26 100 (karr 256 (kint .u8)) x19.2.2.firm, RowF v27 102 k_disk_write x19.2.2.loose, BF b9 33 k_caballaw13_Act x11])) s170 rfl (ob_callL0 (args := [_, _]) (L := [_, _, _, _, _]) rfl .direct hb24 (toFront [_, _, _, _, _] (toFront [_, _, _, _] (toFront [_, _, _, _, _] (toFront [_, _, _, _, _] (toFront [_, _, _, _, _] (List.Perm.refl _)))))) (fun a w s => by exact c_cabalref13_Journal_Append k _ _ _ _ e_x20 _ _ _ _ _ _ _ _ _ (ownL s) (disL s) (nodL s) (s.arg (.tmp rfl)) (s.arg (.tmp rfl))) (by exact fun _ => rfl)) fun gg172 _ _ s172 => ?_; clear s170
         obtain ⟨v28, v29, v30⟩ := gg172
         refine qs s172 (.c1 rfl (ob_eql rfl (.tmp rfl) (.tmp rfl)) (.c1 rfl (ob_assign rfl (.tmp rfl)) .cz)) fun _ _ s174 => ?_; clear s172
         refine wpList_nil ?_
         refine in_normal ?_
         refine then_normal ?_
         have s175 := St.drop (A := [_, _, _, _, _, _, _, _, _]) s174; clear s174
         have s176 := s175.perm (toFront [_, _, _, _, _, _] (toFront [_] (toFront [_, _, _, _] (toFront [] (toFront [_, _, _] (toFront [_, _, _] (toFront [] (toFront [] (toFront [] (List.Perm.refl _)))))))))); clear s175
         exact hj4 (x19.1 == x20.1) x19.2.2.fuse x19.2.2.dead x20.2.2.Fuse x20.2.2.Dead x19.2.1.area x19.2.1.bytes x19.2.1.l x20.2.1.Area x20.2.1.L x19.2.2.firm x19.2.2.loose x20.2.2.Firm x20.2.2.At x20.2.2.Data b5 b6 v26 v27 v28 v29 v30 _ _ h45 (s176.sub (.cons rfl (.cons rfl (.cons rfl (.cons rfl (.cons rfl (.cons rfl (.cons rfl (.cons rfl (.cons rfl .nil))))))))))
        ·have h46 := ite_f hc10 h26; clear h26
         refine wp_seq_k fun K38 hK38 => wp_region_lit (qs s169 (.c1 rfl (ob_eql rfl (.tmp rfl) (opd_int rfl)) (.c1 rfl (ob_assign rfl (.tmp rfl)) (.ce (u 1 rfl (u 5 rfl (u 6 rfl (u 7 rfl (u 9 rfl (u 11 rfl (u 12 rfl (u 13 rfl (u 14 rfl (u 72 rfl (u 84 rfl (u 100000 rfl (u 100001 rfl .nil)))))))))))))))) fun _ _ s179 => wn hK38 ?_); clear s169
         refine cond_split s179 (.tmp rfl) (fun hc11 => ?_) (fun hc11 => ?_)
         ·have h47 := ite_t hc11 h46; clear h46
          obtain ⟨x21, e_x21, h48⟩ := bind_some h47; clear h47
          refine wp_region_lit (qs s179 (.c1 rfl (mv rfl rfl) (.c1 rfl (mv rfl rfl) .cz)) fun _ _ s181 => ?_); clear s179
          refine qx (B' := (fun gg : Value × Value => [BF b5 70 (ko_journal_Journal_0 (.pointer (some ⟨b1, 0, none⟩))) (⟨(), x21.2.1.area, x21.2.1.bytes, x21.2.1.l⟩ : journal_Journal), BF b1 68 (ko_disk_Disk_0_1 gg.1 gg.2) (⟨[], [], x21.2.2.fuse, x21.2.2.dead⟩ : disk_Disk), RowF gg.1 100 (karr 256 (kint .u8)) x21.2.2.firm, RowF gg.2 102 k_disk_write x21.2.2.loose, BF b2 49 (ko_cabalref12_Disk_0_1_2 v13 v14 v15) (⟨[], [], [], y4, y5⟩ : cabalref12_Disk), BF b6 56 (ko_cabalref13_Journal_0 (.pointer (some ⟨b2, 0, none⟩))) (⟨(), y9, y10⟩ : cabalref13_Journal), BF b9 33 k_caballaw13_Act x11, RowF v13 9 kstr y13, RowF v14 3 (kint .i64) y14, RowF v15 9 kstr y15])) s181 rfl (ob_callL0 (args := [_, _]) (L := [_, _, _, _]) rfl .direct hb21 (toFront [_, _] (toFront [] (toFront [_, _, _] (toFront [_, _, _] (List.Perm.refl _))))) (fun a w s => by exact c_journal_Journal_Snap k _ _ _ _ e_x21 _ _ (s.env _ _ (show get _ 100000 = _ from rfl)) (s.env _ _ (show get _ 100001 = _ from rfl)) _ _ _ _ _ _ (ownL s) (disL s) (nodL s) (s.arg (.tmp rfl)) (s.arg (.tmp rfl))) (by exact fun _ => rfl)) fun gg182 _ _ s182 => ?_; clear s181
          obtain ⟨v31, v32⟩ := gg182
          obtain ⟨x22, e_x22, h49⟩ := bind_some h48; clear h48
          refine qs s182 (.c1 rfl (mv rfl rfl) (.c1 rfl (mv rfl rfl) .cz)) fun _ _ s184 => ?_; clear s182
          refine qx (B' := (fun gg : Value × Value × Value => [BF b6 56 (ko_cabalref13_Journal_0 (.pointer (some ⟨b2, 0, none⟩))) (⟨(), x22.2.1.Area, x22.2.1.L⟩ : cabalref13_Journal), BF b2 49 (ko_cabalref12_Disk_0_1_2 gg.1 gg.2.1 gg.2.2) (⟨[], [], [], x22.2.2.Fuse, x22.2.2.Dead⟩ : cabalref12_Disk), RowF gg.1 9 kstr x22.2.2.Firm, RowF gg.2.1 3 (kint .i64) x22.2.2.At, RowF gg.2.2 9 kstr x22.2.2.Data, BF b5 70 (ko_journal_Journal_0 (.pointer (some ⟨b1, 0, none⟩))) (⟨(), x21.2.1.area, x21.2.1.bytes, x21.2.1.l⟩ : journal_Journal), BF b1 68 (ko_disk_Disk_0_1 v31 v32) (⟨[], [], x21.2.2.fuse, x21.2.2.dead⟩ : disk_Disk), RowF v31 100 (karr 256 (kint .u8)) x21.2.2.firm, RowF v32 102 k_disk_write x21.2.2.loose, BF b9 33 k_caballaw13_Act x11])) s184 rfl (ob_callL0 (args := [_, _]) (L := [_, _, _, _, _]) rfl .direct hb25 (toFront [_, _, _, _, _] (toFront [_, _, _, _] (toFront [_, _, _, _, _] (toFront [_, _, _, _, _] (toFront [_, _, _, _, _] (List.Perm.refl _)))))) (fun a w s => by exact c_cabalref13_Journal_Snap k _ _ _ _ e_x22 _ _ _ _ _ _ _ _ _ (ownL s) (disL s) (nodL s) (s.arg (.tmp rfl)) (s.arg (.tmp rfl))) (by exact fun _ => rfl)) fun gg185 _ _ s185 => ?_; clear s184
          obtain ⟨v33, v34, v35⟩ := gg185
          refine qs s185 (.c1 rfl (ob_eql rfl (.tmp rfl) (.tmp rfl)) (.c1 rfl (ob_assign rfl (.tmp rfl)) .cz)) fun _ _ s187 => ?_; clear s185
          refine wpList_nil ?_
          refine in_normal ?_
          refine then_normal ?_
          have s188 := St.drop (A := [_, _, _, _, _, _, _, _, _]) s187; clear s187
          have s189 := s188.perm (toFront [_, _, _, _, _, _] (toFront [_] (toFront [_, _, _, _] (toFront [] (toFront [_, _, _] (toFront [_, _, _] (toFront [] (toFront [] (toFront [] (List.Perm.refl _)))))))))); clear s188
          exact hj4 (x21.1 == x22.1) x21.2.2.fuse x21.2.2.dead x22.2.2.Fuse x22.2.2.Dead x21.2.1.area x21.2.1.bytes x21.2.1.l x22.2.1.Area x22.2.1.L x21.2.2.firm x21.2.2.loose x22.2.2.Firm x22.2.2.At x22.2.2.Data b5 b6 v31 v32 v33 v34 v35 _ _ h49 (s189.sub (.cons rfl (.cons rfl (.cons rfl (.cons rfl (.cons rfl (.cons rfl (.cons rfl (.cons rfl (.cons rfl .nil))))))))))
         ·have h50 := ite_f hc11 h46; clear h46
          refine wp_seq_k fun K39 hK39 => wp_region_lit (qs s179 (.c1 rfl (ob_eql rfl (.tmp rfl) (opd_int rfl)) (.c1 rfl (ob_assign rfl (.tmp rfl)) (.ce (u 1 rfl (u 5 rfl (u 6 rfl (u 7 rfl (u 9 rfl (u 11 rfl (u 12 rfl (u 14 rfl (u 72 rfl (u 84 rfl (u 93 rfl (u 100000 rfl (u 100001 rfl .nil)))))))))))))))) fun _ _ s192 => wn hK39 ?_); clear s179
          refine cond_split s192 (.tmp rfl) (fun hc12 => ?_) (fun hc12 => ?_)
          ·have h51 := ite_t hc12 h50; clear h50
           obtain ⟨x23, e_x23, h52⟩ := bind_some h51; clear h51
           refine wp_seq_k fun K40 hK40 => wp_region_lit (qs s192 (.c1 rfl (mv rfl rfl) (.c1 rfl (ob_fieldAddr (off' := 1) rfl Tryd.underlying33 rfl sz3 (by decide) (.tmp rfl) rfl) (.c1 rfl (ob_load rfl tk3 (.tmp rfl) (.tail _ (.tail _ (.tail _ (.tail _ (.head _))))) (lg_caballaw13_Act_N x11)) .cz))) fun _ _ s195 => ?_); clear s192
           refine qx (B' := (fun gg : Value × Value => [BF b1 68 (ko_disk_Disk_0_1 gg.1 gg.2) (⟨[], [], x23.fuse, x23.dead⟩ : disk_Disk), RowF gg.1 100 (karr 256 (kint .u8)) x23.firm, RowF gg.2 102 k_disk_write x23.loose, BF b2 49 (ko_cabalref12_Disk_0_1_2 v13 v14 v15) (⟨[], [], [], y4, y5⟩ : cabalref12_Disk), BF b5 70 (ko_journal_Journal_0 (.pointer (some ⟨b1, 0, none⟩))) (⟨(), y6, y7, y8⟩ : journal_Journal), BF b6 56 (ko_cabalref13_Journal_0 (.pointer (some ⟨b2, 0, none⟩))) (⟨(), y9, y10⟩ : cabalref13_Journal), BF b9 33 k_caballaw13_Act x11, RowF v13 9 kstr y13, RowF v14 3 (kint .i64) y14, RowF v15 9 kstr y15])) s195 rfl (ob_callL0 (args := [_, _]) (L := [_, _, _]) rfl .direct hb26 (toFront [] (toFront [_, _, _, _] (toFront [_, _, _, _] (List.Perm.refl _)))) (fun a w s => by exact c_disk_Disk_Fuse k _ _ _ e_x23 _ _ _ _ _ _ _ (ownL s) (disL s) (nodL s) (s.arg (.tmp rfl)) (s.arg (.tmp rfl))) (by exact fun _ => rfl)) fun gg196 _ _ s196 => ?_; clear s195
           obtain ⟨v36, v37⟩ := gg196
           refine wn hK40 ?_
           have s197 := s196.sub (u 1 rfl (u 5 rfl (u 6 rfl (u 7 rfl (u 9 rfl (u 11 rfl (u 12 rfl (u 14 rfl (u 84 rfl (u 93 rfl (u 100000 rfl (u 100001 rfl .nil)))))))))))); clear s196
           obtain ⟨x24, e_x24, h53⟩ := bind_some h52; clear h52
           refine wp_region_lit (qs s197 (.c1 rfl (mv rfl rfl) (.c1 rfl (ob_fieldAddr (off' := 1) rfl Tryd.underlying33 rfl sz3 (by decide) (.tmp rfl) rfl) (.c1 rfl (ob_load rfl tk3 (.tmp rfl) (.tail _ (.tail _ (.tail _ (.tail _ (.tail _ (.tail _ (.head _))))))) (lg_caballaw13_Act_N x11)) .cz))) fun _ _ s200 => ?_); clear s197
           refine qx (B' := (fun gg : Value × Value × Value => [BF b2 49 (ko_cabalref12_Disk_0_1_2 gg.1 gg.2.1 gg.2.2) (⟨[], [], [], x24.Fuse, x24.Dead⟩ : cabalref12_Disk), RowF gg.1 9 kstr x24.Firm, RowF gg.2.1 3 (kint .i64) x24.At, RowF gg.2.2 9 kstr x24.Data, BF b1 68 (ko_disk_Disk_0_1 v36 v37) (⟨[], [], x23.fuse, x23.dead⟩ : disk_Disk), RowF v36 100 (karr 256 (kint .u8)) x23.firm, RowF v37 102 k_disk_write x23.loose, BF b5 70 (ko_journal_Journal_0 (.pointer (some ⟨b1, 0, none⟩))) (⟨(), y6, y7, y8⟩ : journal_Journal), BF b6 56 (ko_cabalref13_Journal_0 (.pointer (some ⟨b2, 0, none⟩))) (⟨(), y9, y10⟩ : cabalref13_Journal), BF b9 33 k_caballaw13_Act x11])) s200 rfl (ob_callL0 (args := [_, _]) (L := [_, _, _, _]) rfl .direct hb27 (toFront [_, _, _] (toFront [_, _, _, _, _, _] (toFront [_, _, _, _, _, _] (toFront [_, _, _, _, _, _] (List.Perm.refl _))))) (fun a w s => by exact c_cabalref12_Disk_Light k _ _ _ e_x24 _ _ _ _ _ _ _ _ (ownL s) (disL s) (nodL s) (s.arg (.tmp rfl)) (s.arg (.tmp rfl))) (by exact fun _ => rfl)) fun gg201 _ _ s201 => ?_; clear s200
           obtain ⟨v38, v39, v40⟩ := gg201
           refine wpList_nil ?_
           refine in_normal ?_
           refine then_normal ?_
           have s202 := St.drop (A := [_, _, _, _, _, _, _, _, _]) s201; clear s201
           have s203 := s202.perm (toFront [_, _, _, _] (toFront [] (toFront [_, _, _, _, _] (toFront [_, _, _, _, _] (toFront [_, _, _] (toFront [_, _, _] (toFront [] (toFront [] (toFront [] (List.Perm.refl _)))))))))); clear s202
           exact hj4 true x23.fuse x23.dead x24.Fuse x24.Dead y6 y7 y8 y9 y10 x23.firm x23.loose x24.Firm x24.At x24.Data b5 b6 v36 v37 v38 v39 v40 _ _ h53 (s203.sub (.cons rfl (.cons rfl (.cons rfl (.cons rfl (.cons rfl (.cons rfl (.cons rfl (.cons rfl (.cons rfl .nil))))))))))
          ·have h54 := ite_f hc12 h50; clear h50
           refine wp_seq_k fun K41 hK41 => wp_region_lit (qs s192 (.c1 rfl (ob_eql rfl (.tmp rfl) (opd_int rfl)) (.c1 rfl (ob_assign rfl (.tmp rfl)) (.ce (u 1 rfl (u 5 rfl (u 6 rfl (u 7 rfl (u 9 rfl (u 11 rfl (u 12 rfl (u 14 rfl (u 84 rfl (u 93 rfl (u 103 rfl (u 100000 rfl (u 100001 rfl .nil)))))))))))))))) fun _ _ s206 => wn hK41 ?_); clear s192
           refine cond_split s206 (.tmp rfl) (fun hc13 => ?_) (fun hc13 => ?_)
           ·have h55 := ite_t hc13 h54; clear h54
            obtain ⟨x25, e_x25, h56⟩ := bind_some h55; clear h55
            refine wp_seq_k fun K42 hK42 => wp_region_lit (qs s206 (.c1 rfl (mv rfl rfl) (.c1 rfl (ob_fieldAddr (off' := 3) rfl Tryd.underlying33 rfl sz31 (by decide) (.tmp rfl) rfl) (.c1 rfl (ob_load rfl tk31 (.tmp rfl) (.tail _ (.tail _ (.tail _ (.tail _ (.head _))))) (lg_caballaw13_Act_Keep x11)) .cz))) fun _ _ s209 => ?_); clear s206
            refine qx (B' := (fun gg : Value × Value => [BF b1 68 (ko_disk_Disk_0_1 gg.1 gg.2) (⟨[], [], x25.fuse, x25.dead⟩ : disk_Disk), RowF gg.1 100 (karr 256 (kint .u8)) x25.firm, RowF gg.2 102 k_disk_write x25.loose, BF b2 49 (ko_cabalref12_Disk_0_1_2 v13 v14 v15) (⟨[], [], [], y4, y5⟩ : cabalref12_Disk), BF b5 70 (ko_journal_Journal_0 (.pointer (some ⟨b1, 0, none⟩))) (⟨(), y6, y7, y8⟩ : journal_Journal), BF b6 56 (ko_cabalref13_Journal_0 (.pointer (some ⟨b2, 0, none⟩))) (⟨(), y9, y10⟩ : cabalref13_Journal), BF b9 33 k_caballaw13_Act x11, RowF v13 9 kstr y13, RowF v14 3 (kint .i64) y14, RowF v15 9 kstr y15])) s209 rfl (ob_callL0 (args := [_, _]) (L := [_, _, _]) rfl .direct hb10 (toFront [] (toFront [_, _, _, _] (toFront [_, _, _, _] (List.Perm.refl _)))) (fun a w s => by exact c_disk_Disk_Crash k _ _ _ e_x25 _ _ _ _ _ _ _ (ownL s) (disL s) (nodL s) (s.arg (.tmp rfl)) (s.arg (.tmp rfl))) (by exact fun _ => rfl)) fun gg210 _ _ s210 => ?_; clear s209
            obtain ⟨v41, v42⟩ := gg210
            refine wn hK42 ?_
            have s211 := s210.sub (u 1 rfl (u 5 rfl (u 6 rfl (u 11 rfl (u 12 rfl (u 14 rfl (u 84 rfl (u 93 rfl (u 103 rfl (u 100000 rfl (u 100001 rfl .nil))))))))))); clear s210
            have s212 := St.drop (A := [_, _, _, _]) s211; clear s211
            have s213 := St.drop (A := [_, _, _, _]) s212; clear s212
            obtain ⟨x26, e_x26, h57⟩ := bind_some h56; clear h56
            refine wp_seq_k fun K43 hK43 => wp_region_lit (qs s213 (.c1 rfl (mv rfl rfl) (.c1 rfl (ob_fieldAddr (off' := 3) rfl Tryd.underlying33 rfl sz31 (by decide) (.tmp rfl) rfl) (.c1 rfl (ob_load rfl tk31 (.tmp rfl) (.tail _ (.tail _ (.tail _ (.tail _ (.head _))))) (lg_caballaw13_Act_Keep x11)) .cz))) fun _ _ s216 => ?_); clear s213
            refine qx (B' := (fun gg : Value × Value × Value => [BF b2 49 (ko_cabalref12_Disk_0_1_2 gg.1 gg.2.1 gg.2.2) (⟨[], [], [], x26.Fuse, x26.Dead⟩ : cabalref12_Disk), RowF gg.1 9 kstr x26.Firm, RowF gg.2.1 3 (kint .i64) x26.At, RowF gg.2.2 9 kstr x26.Data, BF b1 68 (ko_disk_Disk_0_1 v41 v42) (⟨[], [], x25.fuse, x25.dead⟩ : disk_Disk), RowF v41 100 (karr 256 (kint .u8)) x25.firm, RowF v42 102 k_disk_write x25.loose, BF b9 33 k_caballaw13_Act x11])) s216 rfl (ob_callL0 (args := [_, _]) (L := [_, _, _, _]) rfl .direct hb28 (toFront [_, _, _] (toFront [_, _, _, _] (toFront [_, _, _, _] (toFront [_, _, _, _] (List.Perm.refl _))))) (fun a w s => by exact c_cabalref12_Disk_Crash k _ _ _ e_x26 _ _ _ _ _ _ _ _ (ownL s) (disL s) (nodL s) (s.arg (.tmp rfl)) (s.arg (.tmp rfl))) (by exact fun _ => rfl)) fun gg217 _ _ s217 => ?_; clear s216
            obtain ⟨v43, v44, v45⟩ := gg217
            refine wn hK43 ?_
            have s218 := s217.sub (u 1 rfl (u 5 rfl (u 6 rfl (u 11 rfl (u 14 rfl (u 84 rfl (u 93 rfl (u 103 rfl (u 100000 rfl (u 100001 rfl .nil)))))))))); clear s217
            have s219 := St.drop (A := [_, _, _, _, _, _, _]) s218; clear s218
            obtain ⟨x27, e_x27, h58⟩ := bind_some h57; clear h57
            refine wp_seq_k fun K44 hK44 => wp_region_lit (qs s219 (.c1 rfl (mv rfl rfl) .cz) fun _ _ s220 => ?_); clear s219
            refine qx (B' := (fun gg : Nat × Value × Value => [whenO x27.1 (BF gg.1 70 (ko_journal_Journal_0 (.pointer (some ⟨b1, 0, none⟩))) (⟨(), x27.2.1.area, x27.2.1.bytes, x27.2.1.l⟩ : journal_Journal)), BF b1 68 (ko_disk_Disk_0_1 gg.2.1 gg.2.2) (⟨[], [], x27.2.2.2.fuse, x27.2.2.2.dead⟩ : disk_Disk), RowF gg.2.1 100 (karr 256 (kint .u8)) x27.2.2.2.firm, RowF gg.2.2 102 k_disk_write x27.2.2.2.loose, BF b2 49 (ko_cabalref12_Disk_0_1_2 v43 v44 v45) (⟨[], [], [], x26.Fuse, x26.Dead⟩ : cabalref12_Disk), RowF v43 9 kstr x26.Firm, RowF v44 3 (kint .i64) x26.At, RowF v45 9 kstr x26.Data])) s220 rfl (ob_callL0 (args := [_]) (L := [_, _, _]) rfl .direct hb8 (toFront [_, _, _, _] (toFront [_, _, _, _] (toFront [_, _, _, _] (List.Perm.refl _)))) (fun a w s => by exact c_journal_Open k _ _ e_x27 _ _ (s.env _ _ (show get _ 100000 = _ from rfl)) (s.env _ _ (show get _ 100001 = _ from rfl)) _ _ _ _ (ownL s) (disL s) (nodL s) (s.arg (.tmp rfl))) (by exact fun _ => rfl)) fun gg221 _ _ s221 => ?_; clear s220
            obtain ⟨b12, v46, v47⟩ := gg221
            refine qs s221 (.c1 rfl (mv rfl rfl) (.c1 rfl (ob_extract rfl (.tmp rfl) rfl) (.c1 rfl (ob_extract rfl (.tmp rfl) rfl) (.c1 rfl (ob_assign rfl (.tmp rfl)) (.c1 rfl (ob_assign rfl (.tmp rfl)) .cz))))) fun _ _ s226 => ?_; clear s221
            refine wpList_nil ?_
            refine bool_split x27.1 (fun hc14 => ?_) (fun hc14 => ?_)
            ·have h59 := ite_t hc14 h58; clear h58
             have s227 := St.whenT hc14 s226; clear s226
             have s228 := St.optT (t := 116) hc14 rfl s227; clear s227
             have s229 := St.optT (t := 7) hc14 rfl s228; clear s228
             refine then_normal (hK44 _ _ ?_)
             have s230 := s229.sub (u 1 rfl (u 5 rfl (u 6 rfl (u 7 rfl (u 8 rfl (u 11 rfl (u 14 rfl (u 84 rfl (u 93 rfl (u 103 rfl (u 100000 rfl (u 100001 rfl .nil)))))))))))); clear s229
             obtain ⟨x28, e_x28, h60⟩ := bind_some h59; clear h59
             refine wp_seq_k fun K45 hK45 => wp_region_lit (qs s230 (.c1 rfl (mv rfl rfl) .cz) fun _ _ s231 => ?_); clear s230
             refine qx (B' := (fun gg : Nat × Value × Value × Value => [whenO x28.1 (BF gg.1 56 (ko_cabalref13_Journal_0 (.pointer (some ⟨b2, 0, none⟩))) (⟨(), x28.2.1.Area, x28.2.1.L⟩ : cabalref13_Journal)), BF b2 49 (ko_cabalref12_Disk_0_1_2 gg.2.1 gg.2.2.1 gg.2.2.2) (⟨[], [], [], x28.2.2.2.Fuse, x28.2.2.2.Dead⟩ : cabalref12_Disk), RowF gg.2.1 9 kstr x28.2.2.2.Firm, RowF gg.2.2.1 3 (kint .i64) x28.2.2.2.At, RowF gg.2.2.2 9 kstr x28.2.2.2.Data, BF b12 70 (ko_journal_Journal_0 (.pointer (some ⟨b1, 0, none⟩))) (⟨(), x27.2.1.area, x27.2.1.bytes, x27.2.1.l⟩ : journal_Journal), BF b1 68 (ko_disk_Disk_0_1 v46 v47) (⟨[], [], x27.2.2.2.fuse, x27.2.2.2.dead⟩ : disk_Disk), RowF v46 100 (karr 256 (kint .u8)) x27.2.2.2.firm, RowF v47 102 k_disk_write x27.2.2.2.loose])) s231 rfl (ob_callL0 (args := [_]) (L := [_, _, _, _]) rfl .direct hb19 (toFront [_, _, _, _] (toFront [_, _, _, _] (toFront [_, _, _, _] (toFront [_, _, _, _] (List.Perm.refl _))))) (fun a w s => by exact c_cabalref13_Open k _ _ e_x28 _ _ _ _ _ _ _ (ownL s) (disL s) (nodL s) (s.arg (.tmp rfl))) (by exact fun _ => rfl)) fun gg232 _ _ s232 => ?_; clear s231
             obtain ⟨b13, v48, v49, v50⟩ := gg232
             refine qs s232 (.c1 rfl (mv rfl rfl) (.c1 rfl (ob_extract rfl (.tmp rfl) rfl) (.c1 rfl (ob_extract rfl (.tmp rfl) rfl) (.c1 rfl (ob_assign rfl (.tmp rfl)) (.c1 rfl (ob_assign rfl (.tmp rfl)) .cz))))) fun _ _ s237 => ?_; clear s232
             refine wpList_nil ?_
             refine bool_split x28.1 (fun hc15 => ?_) (fun hc15 => ?_)
             ·have h61 := ite_t hc15 h60; clear h60
              have s238 := St.whenT hc15 s237; clear s237
              have s239 := St.optT (t := 121) hc15 rfl s238; clear s238
              have s240 := St.optT (t := 9) hc15 rfl s239; clear s239
              refine then_normal (hK45 _ _ ?_)
              have s241 := s240.sub (u 1 rfl (u 5 rfl (u 6 rfl (u 7 rfl (u 8 rfl (u 9 rfl (u 10 rfl (u 11 rfl (u 14 rfl (u 84 rfl (u 93 rfl (u 103 rfl (u 100000 rfl (u 100001 rfl .nil)))))))))))))); clear s240
              obtain ⟨x29, e_x29, h62⟩ := bind_some h61; clear h61; replace e_x29 := Option.some.inj e_x29
              refine wp_seq_k fun K46 hK46 => wp_region_lit (qs s241 (.c1 rfl (mv rfl rfl) (.c1 rfl (mv rfl rfl) (.c1 rfl (ob_neq rfl (.tmp rfl) (.tmp rfl)) (.c1 rfl (mv rfl rfl) (.cg rfl rfl rfl rfl (fun hb => ob_move rfl (.tmp rfl)) (.cg rfl rfl rfl rfl (fun hb => (Ob.uncond (t := 127) hb rfl (ob_ptrNil (p := some _) rfl pt26 (.tmp rfl) opd_is))) (.c1 rfl (ob_or2 rfl (.tmp rfl) opd_bool (.tmp rfl)) (.c1 rfl (mv rfl rfl) (.cg rfl rfl rfl rfl (fun hb => ob_move rfl (.tmp rfl)) (.cg rfl rfl rfl rfl (fun hb => (Ob.uncond (t := 131) hb rfl (ob_ptrNil (p := some _) rfl pt50 (.tmp rfl) opd_is))) (.c1 rfl ((ob_or2 rfl (.tmp rfl) opd_bool (.tmp rfl)).nm e_x29) (.ce (u 1 rfl (u 5 rfl (u 6 rfl (u 7 rfl (u 9 rfl (u 11 rfl (u 14 rfl (u 84 rfl (u 93 rfl (u 103 rfl (u 133 rfl (u 100000 rfl (u 100001 rfl .nil))))))))))))))))))))))))) fun _ _ s253 => wn hK46 ?_); clear s241
              refine cond_split s253 (.tmp rfl) (fun hc16 => ?_) (fun hc16 => ?_)
              ·have h63 := ite_t hc16 h62; clear h62
               refine wp_seq_k fun K47 hK47 => wp_region_lit (qs s253 (.c1 rfl (ob_assign rfl opd_bool) (.ce (u 4 rfl (u 100000 rfl (u 100001 rfl .nil))))) fun _ _ s255 => wn hK47 ?_); clear s253
               have s256 := St.drop (A := []) s255; clear s255
               have s257 := St.drop (A := []) s256; clear s256
               have s258 := St.drop (A := []) s257; clear s257
               have s259 := St.drop (A := []) s258; clear s258
               have s260 := St.drop (A := []) s259; clear s259
               have s261 := St.drop (A := []) s260; clear s260
               have s262 := St.drop (A := []) s261; clear s261
               have s263 := St.drop (A := []) s262; clear s262
               have s264 := St.drop (A := []) s263; clear s263
               refine wp_ret ?_
               obtain rfl := Option.some.inj h63
               exact leave s264 (.inl rfl) rfl (.cons (.tmp rfl) .nil)
              ·have h64 := ite_f hc16 h62; clear h62
               refine wp_skip ?_
               refine in_normal ?_
               refine then_normal ?_
               have s265 := s253.perm (toFront [_, _, _, _, _, _] (toFront [_] (toFront [_, _, _, _] (toFront [] (toFront [_, _, _] (toFront [_, _, _] (toFront [] (toFront [] (toFront [] (List.Perm.refl _)))))))))); clear s253
               exact hj4 true x27.2.2.2.fuse x27.2.2.2.dead x28.2.2.2.Fuse x28.2.2.2.Dead x27.2.1.area x27.2.1.bytes x27.2.1.l x28.2.1.Area x28.2.1.L x27.2.2.2.firm x27.2.2.2.loose x28.2.2.2.Firm x28.2.2.2.At x28.2.2.2.Data b12 b13 v46 v47 v48 v49 v50 _ _ h64 (s265.sub (.cons rfl (.cons rfl (.cons rfl (.cons rfl (.cons rfl (.cons rfl (.cons rfl (.cons rfl (.cons rfl .nil))))))))))
             ·have h65 := ite_f hc15 h60; clear h60
              have s266 := St.whenF hc15 s237; clear s237
              have s267 := St.optF (t := 121) hc15 rfl s266; clear s266
              have s268 := St.optF (t := 9) hc15 rfl s267; clear s267
              refine then_normal (hK45 _ _ ?_)
              have s269 := s268.sub (u 1 rfl (u 5 rfl (u 6 rfl (u 7 rfl (u 8 rfl (u 9 rfl (u 10 rfl (u 11 rfl (u 14 rfl (u 84 rfl (u 93 rfl (u 103 rfl (u 100000 rfl (u 100001 rfl .nil)))))))))))))); clear s268
              refine wp_seq_k fun K48 hK48 => wp_region_lit (qs s269 (.c1 rfl (mv rfl rfl) (.c1 rfl (mv rfl rfl) (.c1 rfl (ob_neq rfl (.tmp rfl) (.tmp rfl)) (.c1 rfl (mv rfl rfl) (.cg rfl rfl rfl rfl (fun hb => ob_move rfl (.tmp rfl)) (.cg rfl rfl rfl rfl (fun hb => (Ob.uncond (t := 127) hb rfl (ob_ptrNil (p := some _) rfl pt26 (.tmp rfl) opd_is))) (.c1 rfl (ob_or2 rfl (.tmp rfl) opd_bool (.tmp rfl)) (.c1 rfl (mv rfl rfl) (.cg rfl rfl rfl rfl (fun hb => ob_move rfl (.tmp rfl)) (.cg rfl rfl rfl rfl (fun hb => (Ob.uncond (t := 131) hb rfl (ob_ptrNil (p := none) rfl pt50 (.tmp rfl) opd_is))) (.c1 rfl ((ob_or2 rfl (.tmp rfl) opd_bool (.tmp rfl)).nm (Y := true) (ite_self _)) (.ce (u 1 rfl (u 5 rfl (u 6 rfl (u 7 rfl (u 9 rfl (u 11 rfl (u 14 rfl (u 84 rfl (u 93 rfl (u 103 rfl (u 133 rfl (u 100000 rfl (u 100001 rfl .nil))))))))))))))))))))))))) fun _ _ s281 => wn hK48 ?_); clear s269
              refine cond_t s281 (.tmp rfl) ?_
              refine wp_seq_k fun K49 hK49 => wp_region_lit (qs s281 (.c1 rfl (ob_assign rfl opd_bool) (.ce (u 4 rfl (u 100000 rfl (u 100001 rfl .nil))))) fun _ _ s283 => wn hK49 ?_); clear s281
              have s284 := St.drop (A := []) s283; clear s283
              have s285 := St.drop (A := []) s284; clear s284
              have s286 := St.drop (A := []) s285; clear s285
              have s287 := St.drop (A := []) s286; clear s286
              have s288 := St.drop (A := []) s287; clear s287
              have s289 := St.drop (A := []) s288; clear s288
              have s290 := St.drop (A := []) s289; clear s289
              have s291 := St.drop (A := []) s290; clear s290
              refine wp_ret ?_
              obtain rfl := Option.some.inj h65
              exact leave s291 (.inl rfl) rfl (.cons (.tmp rfl) .nil)
            ·have h66 := ite_f hc14 h58; clear h58
             have s292 := St.whenF hc14 s226; clear s226
             have s293 := St.optF (t := 116) hc14 rfl s292; clear s292
             have s294 := St.optF (t := 7) hc14 rfl s293; clear s293
             refine then_normal (hK44 _ _ ?_)
             have s295 := s294.sub (u 1 rfl (u 5 rfl (u 6 rfl (u 7 rfl (u 8 rfl (u 11 rfl (u 14 rfl (u 84 rfl (u 93 rfl (u 103 rfl (u 100000 rfl (u 100001 rfl .nil)))))))))))); clear s294
             obtain ⟨x30, e_x30, h67⟩ := bind_some h66; clear h66
             refine wp_seq_k fun K50 hK50 => wp_region_lit (qs s295 (.c1 rfl (mv rfl rfl) .cz) fun _ _ s296 => ?_); clear s295
             refine qx (B' := (fun gg : Nat × Value × Value × Value => [whenO x30.1 (BF gg.1 56 (ko_cabalref13_Journal_0 (.pointer (some ⟨b2, 0, none⟩))) (⟨(), x30.2.1.Area, x30.2.1.L⟩ : cabalref13_Journal)), BF b2 49 (ko_cabalref12_Disk_0_1_2 gg.2.1 gg.2.2.1 gg.2.2.2) (⟨[], [], [], x30.2.2.2.Fuse, x30.2.2.2.Dead⟩ : cabalref12_Disk), RowF gg.2.1 9 kstr x30.2.2.2.Firm, RowF gg.2.2.1 3 (kint .i64) x30.2.2.2.At, RowF gg.2.2.2 9 kstr x30.2.2.2.Data, BF b1 68 (ko_disk_Disk_0_1 v46 v47) (⟨[], [], x27.2.2.2.fuse, x27.2.2.2.dead⟩ : disk_Disk), RowF v46 100 (karr 256 (kint .u8)) x27.2.2.2.firm, RowF v47 102 k_disk_write x27.2.2.2.loose])) s296 rfl (ob_callL0 (args := [_]) (L := [_, _, _, _]) rfl .direct hb19 (toFront [_, _, _] (toFront [_, _, _] (toFront [_, _, _] (toFront [_, _, _] (List.Perm.refl _))))) (fun a w s => by exact c_cabalref13_Open k _ _ e_x30 _ _ _ _ _ _ _ (ownL s) (disL s) (nodL s) (s.arg (.tmp rfl))) (by exact fun _ => rfl)) fun gg297 _ _ s297 => ?_; clear s296
             obtain ⟨b14, v51, v52, v53⟩ := gg297
             refine qs s297 (.c1 rfl (mv rfl rfl) (.c1 rfl (ob_extract rfl (.tmp rfl) rfl) (.c1 rfl (ob_extract rfl (.tmp rfl) rfl) (.c1 rfl (ob_assign rfl (.tmp rfl)) (.c1 rfl (ob_assign rfl (.tmp rfl)) .cz))))) fun _ _ s302 => ?_; clear s297
             refine wpList_nil ?_
             refine bool_split x30.1 (fun hc18 => ?_) (fun hc18 => ?_)
             ·have h68 := ite_t hc18 h67; clear h67
              have s303 := St.whenT hc18 s302; clear s302
              have s304 := St.optT (t := 121) hc18 rfl s303; clear s303
              have s305 := St.optT (t := 9) hc18 rfl s304; clear s304
              refine then_normal (hK50 _ _ ?_)
              have s306 := s305.sub (u 1 rfl (u 5 rfl (u 6 rfl (u 7 rfl (u 8 rfl (u 9 rfl (u 10 rfl (u 11 rfl (u 14 rfl (u 84 rfl (u 93 rfl (u 103 rfl (u 100000 rfl (u 100001 rfl .nil)))))))))))))); clear s305
              refine wp_seq_k fun K51 hK51 => wp_region_lit (qs s306 (.c1 rfl (mv rfl rfl) (.c1 rfl (mv rfl rfl) (.c1 rfl (ob_neq rfl (.tmp rfl) (.tmp rfl)) (.c1 rfl (mv rfl rfl) (.cg rfl rfl rfl rfl (fun hb => ob_move rfl (.tmp rfl)) (.cg rfl rfl rfl rfl (fun hb => (Ob.uncond (t := 127) hb rfl (ob_ptrNil (p := none) rfl pt26 (.tmp rfl) opd_is))) (.c1 rfl ((ob_or2 rfl (.tmp rfl) opd_bool (.tmp rfl)).nm (Y := true) (ite_self _)) (.c1 rfl (mv rfl rfl) .cz)))))))) fun _ _ s314 => ?_); clear s306
              refine qg (F := (is (.pointer none))) s314 rfl rfl rfl rfl (fun hb => (absurd hb (by decide))) fun _ _ s315 => ?_; clear s314
              refine qg (F := (kbool.V false)) s315 rfl rfl rfl rfl (fun hb => (absurd hb (by decide))) fun _ _ s316 => ?_; clear s315
              refine qs s316 (.c1 rfl ((ob_or2 rfl (.tmp rfl) opd_bool (.tmp rfl)).nm (Y := true) (by rfl)) (.ce (u 1 rfl (u 5 rfl (u 6 rfl (u 7 rfl (u 9 rfl (u 11 rfl (u 14 rfl (u 84 rfl (u 93 rfl (u 103 rfl (u 133 rfl (u 100000 rfl (u 100001 rfl .nil))))))))))))))) fun _ _ s318 => wn hK51 ?_; clear s316
              refine cond_t s318 (.tmp rfl) ?_
              refine wp_seq_k fun K52 hK52 => wp_region_lit (qs s318 (.c1 rfl (ob_assign rfl opd_bool) (.ce (u 4 rfl (u 100000 rfl (u 100001 rfl .nil))))) fun _ _ s320 => wn hK52 ?_); clear s318
              have s321 := St.drop (A := []) s320; clear s320
              have s322 := St.drop (A := []) s321; clear s321
              have s323 := St.drop (A := []) s322; clear s322
              have s324 := St.drop (A := []) s323; clear s323
              have s325 := St.drop (A := []) s324; clear s324
              have s326 := St.drop (A := []) s325; clear s325
              have s327 := St.drop (A := []) s326; clear s326
              have s328 := St.drop (A := []) s327; clear s327
              refine wp_ret ?_
              obtain rfl := Option.some.inj h68
              exact leave s328 (.inl rfl) rfl (.cons (.tmp rfl) .nil)
             ·have h69 := ite_f hc18 h67; clear h67
              have s329 := St.whenF hc18 s302; clear s302
              have s330 := St.optF (t := 121) hc18 rfl s329; clear s329
              have s331 := St.optF (t := 9) hc18 rfl s330; clear s330
              refine then_normal (hK50 _ _ ?_)
              have s332 := s331.sub (u 1 rfl (u 5 rfl (u 6 rfl (u 7 rfl (u 8 rfl (u 9 rfl (u 10 rfl (u 11 rfl (u 14 rfl (u 84 rfl (u 93 rfl (u 103 rfl (u 100000 rfl (u 100001 rfl .nil)))))))))))))); clear s331
              refine wp_seq_k fun K53 hK53 => wp_region_lit (qs s332 (.c1 rfl (mv rfl rfl) (.c1 rfl (mv rfl rfl) (.c1 rfl (ob_neq rfl (.tmp rfl) (.tmp rfl)) (.c1 rfl (mv rfl rfl) (.cg rfl rfl rfl rfl (fun hb => ob_move rfl (.tmp rfl)) (.cg rfl rfl rfl rfl (fun hb => (Ob.uncond (t := 127) hb rfl (ob_ptrNil (p := none) rfl pt26 (.tmp rfl) opd_is))) (.c1 rfl ((ob_or2 rfl (.tmp rfl) opd_bool (.tmp rfl)).nm (Y := true) (ite_self _)) (.c1 rfl (mv rfl rfl) .cz)))))))) fun _ _ s340 => ?_); clear s332
              refine qg (F := (is (.pointer none))) s340 rfl rfl rfl rfl (fun hb => (absurd hb (by decide))) fun _ _ s341 => ?_; clear s340
              refine qg (F := (kbool.V false)) s341 rfl rfl rfl rfl (fun hb => (absurd hb (by decide))) fun _ _ s342 => ?_; clear s341
              refine qs s342 (.c1 rfl ((ob_or2 rfl (.tmp rfl) opd_bool (.tmp rfl)).nm (Y := true) (by rfl)) (.ce (u 1 rfl (u 5 rfl (u 6 rfl (u 7 rfl (u 9 rfl (u 11 rfl (u 14 rfl (u 84 rfl (u 93 rfl (u 103 rfl (u 133 rfl (u 100000 rfl (u 100001 rfl .nil))))))))))))))) fun _ _ s344 => wn hK53 ?_; clear s342
              refine cond_t s344 (.tmp rfl) ?_
              refine wp_seq_k fun K54 hK54 => wp_region_lit (qs s344 (.c1 rfl (ob_assign rfl opd_bool) (.ce (u 4 rfl (u 100000 rfl (u 100001 rfl .nil))))) fun _ _ s346 => wn hK54 ?_); clear s344
              have s347 := St.drop (A := []) s346; clear s346
              have s348 := St.drop (A := []) s347; clear s347
              have s349 := St.drop (A := []) s348; clear s348
              have s350 := St.drop (A := []) s349; clear s349
              have s351 := St.drop (A := []) s350; clear s350
              have s352 := St.drop (A := []) s351; clear s351
              have s353 := St.drop (A := []) s352; clear s352
              refine wp_ret ?_
              obtain rfl := Option.some.inj h69
              exact leave s353 (.inl rfl) rfl (.cons (.tmp rfl) .nil)
           ·have h70 := ite_f hc13 h54; clear h54
            refine wp_skip ?_
            refine in_normal ?_
            refine then_normal ?_
            have s354 := St.drop (A := [_, _, _, _]) s206; clear s206
            exact hj4 true y2 y3 y4 y5 y6 y7 y8 y9 y10 y11 y12 y13 y14 y15 b5 b6 v11 v12 v13 v14 v15 _ _ h70 (s354.sub (.cons rfl (.cons rfl (.cons rfl (.cons rfl (.cons rfl (.cons rfl (.cons rfl (.cons rfl (.cons rfl .nil))))))))))
       refine cond_split s108 (.tmp rfl) (fun hc21 => ?_) (fun hc21 => ?_)
       ·have h71 := ite_t hc21 h25; clear h25
        obtain ⟨x31, e_x31, h72⟩ := bind_some h71; clear h71
        refine wp_region_lit (qs s108 (.c1 rfl (ob_fieldAddr (off' := 2) rfl Tryd.underlying33 rfl sz30 (by decide) (.tmp rfl) rfl) (.c1 rfl (ob_load rfl tk30 (.tmp rfl) (.head _) (lg_caballaw13_Act_L x11)) (.c1 rfl (ob_indexAddrs rfl Tryd.underlying30 sz9 (.tmp rfl) (opd_int rfl) e_x31) (.c1 rfl (ob_loadr rfl tk9 (.tmp rfl)) (.c1 rfl (ob_assign rfl (.tmp rfl)) .cz))))) fun _ _ s359 => ?_); clear s108
        refine wpList_nil ?_
        refine then_normal ?_
        have s360 := s359.perm (toFront [_] (toFront [_] (toFront [_] (toFront [_] (toFront [] (toFront [] (toFront [] (toFront [] (toFront [] (toFront [] (List.Perm.refl _))))))))))); clear s359
        exact hj3 x31 _ _ h72 (s360.sub (.cons rfl (.cons rfl (.cons rfl (.cons rfl (.cons rfl (.cons rfl (.cons rfl (.cons rfl (.cons rfl (.cons rfl .nil)))))))))))
       ·have h73 := ite_f hc21 h25; clear h25
        refine wp_skip ?_
        refine then_normal ?_
        have s361 := s108.perm (toFront [_] (toFront [_] (toFront [_] (toFront [_] (toFront [] (toFront [] (toFront [] (toFront [] (toFront [] (toFront [] (List.Perm.refl _))))))))))); clear s108
        exact hj3 ([] : List Int) _ _ h73 (s361.sub (.cons rfl (.cons rfl (.cons rfl (.cons rfl (.cons rfl (.cons rfl (.cons rfl (.cons rfl (.cons rfl (.cons rfl .nil)))))))))))
     ·have h74 := ite_f hc5 h19; clear h19
      refine wp_exit ?_
      refine (then_exit (then_exit (in_here ?_)))
      refine then_normal ?_
      have s362 := St.drop (A := []) s83; clear s83
      have s363 := St.drop (A := []) s362; clear s362
      have s364 := St.drop (A := []) s363; clear s363
      have s365 := St.drop (A := []) s364; clear s364
      have s366 := St.drop (A := []) s365; clear s365
      have s367 := St.drop (A := []) s366; clear s366
      have s368 := St.drop (A := []) s367; clear s367
      have s369 := St.drop (A := []) s368; clear s368
      have s370 := St.drop (A := []) s369; clear s369
      exact hj1 _ _ h74 (s370.sub (.cons rfl (.cons rfl .nil)))
   ·have h75 := ite_f hc3 h10; clear h10
    have s371 := St.whenF hc3 s38; clear s38
    have s372 := St.optF (t := 32) hc3 rfl s371; clear s371
    have s373 := St.optF (t := 9) hc3 rfl s372; clear s372
    refine then_normal (hK7 _ _ ?_)
    have s374 := s373.sub (u 1 rfl (u 5 rfl (u 6 rfl (u 7 rfl (u 8 rfl (u 9 rfl (u 10 rfl (u 100000 rfl (u 100001 rfl .nil))))))))); clear s373
    refine wp_seq_k fun K55 hK55 => wp_seq_k fun K56 hK56 => ?_
    refine wp_region_lit (qs s374 (.c1 rfl (mv rfl rfl) (.c1 rfl (mv rfl rfl) (.c1 rfl (ob_neq rfl (.tmp rfl) (.tmp rfl)) (.c1 rfl (mv rfl rfl) (.cg rfl rfl rfl rfl (fun hb => ob_move rfl (.tmp rfl)) (.cg rfl rfl rfl rfl (fun hb => (Ob.uncond (t := 38) hb rfl (ob_ptrNil (p := some _) rfl pt26 (.tmp rfl) opd_is))) (.c1 rfl (ob_or2 rfl (.tmp rfl) opd_bool (.tmp rfl)) (.c1 rfl (mv rfl rfl) (.cg rfl rfl rfl rfl (fun hb => ob_move rfl (.tmp rfl)) (.cg rfl rfl rfl rfl (fun hb => (Ob.uncond (t := 42) hb rfl (ob_ptrNil (p := none) rfl pt50 (.tmp rfl) opd_is))) (.c1 rfl ((ob_or2 rfl (.tmp rfl) opd_bool (.tmp rfl)).nm (Y := true) (ite_self _)) (.ce (u 1 rfl (u 5 rfl (u 6 rfl (u 7 rfl (u 9 rfl (u 44 rfl (u 100000 rfl (u 100001 rfl .nil)))))))))))))))))))) fun _ _ s386 => wn hK56 ?_); clear s374
    refine cond_t s386 (.tmp rfl) ?_
    refine wp_seq_k fun K57 hK57 => wp_region_lit (qs s386 (.c1 rfl (ob_assign rfl opd_bool) (.ce (u 4 rfl (u 100000 rfl (u 100001 rfl .nil))))) fun _ _ s388 => wn hK57 ?_); clear s386
    have s389 := St.drop (A := []) s388; clear s388
    have s390 := St.drop (A := []) s389; clear s389
    have s391 := St.drop (A := []) s390; clear s390
    have s392 := St.drop (A := []) s391; clear s391
    have s393 := St.drop (A := []) s392; clear s392
    have s394 := St.drop (A := []) s393; clear s393
    have s395 := St.drop (A := []) s394; clear s394
    have s396 := St.drop (A := []) s395; clear s395
    refine wp_ret ?_
    obtain rfl := Option.some.inj h75
    exact leave s396 (.inl rfl) rfl (.cons (.tmp rfl) .nil)
  ·have h76 := ite_f hc2 h8; clear h8
   have s397 := St.whenF hc2 s27; clear s27
   have s398 := St.optF (t := 27) hc2 rfl s397; clear s397
   have s399 := St.optF (t := 7) hc2 rfl s398; clear s398
   refine then_normal (hK6 _ _ ?_)
   have s400 := s399.sub (u 1 rfl (u 5 rfl (u 6 rfl (u 7 rfl (u 8 rfl (u 100000 rfl (u 100001 rfl .nil))))))); clear s399
   obtain ⟨x32, e_x32, h77⟩ := bind_some h76; clear h76
   refine wp_seq_k fun K58 hK58 => wp_region_lit (qs s400 (.c1 rfl (mv rfl rfl) .cz) fun _ _ s401 => ?_); clear s400
   refine qx (B' := (fun gg : Nat × Value × Value × Value => [whenO x32.1 (BF gg.1 56 (ko_cabalref13_Journal_0 (.pointer (some ⟨b2, 0, none⟩))) (⟨(), x32.2.1.Area, x32.2.1.L⟩ : cabalref13_Journal)), BF b2 49 (ko_cabalref12_Disk_0_1_2 gg.2.1 gg.2.2.1 gg.2.2.2) (⟨[], [], [], x32.2.2.2.Fuse, x32.2.2.2.Dead⟩ : cabalref12_Disk), RowF gg.2.1 9 kstr x32.2.2.2.Firm, RowF gg.2.2.1 3 (kint .i64) x32.2.2.2.At, RowF gg.2.2.2 9 kstr x32.2.2.2.Data, BF b1 68 (ko_disk_Disk_0_1 v6 v7) (⟨[], [], x6.2.2.2.fuse, x6.2.2.2.dead⟩ : disk_Disk), RowF v6 100 (karr 256 (kint .u8)) x6.2.2.2.firm, RowF v7 102 k_disk_write x6.2.2.2.loose])) s401 rfl (ob_callL0 (args := [_]) (L := [_, _, _, _]) rfl .direct hb19 (toFront [_, _, _] (toFront [_, _, _] (toFront [_, _, _] (toFront [_, _, _] (List.Perm.refl _))))) (fun a w s => by exact c_cabalref13_Open k _ _ e_x32 _ _ _ _ _ _ _ (ownL s) (disL s) (nodL s) (s.arg (.tmp rfl))) (by exact fun _ => rfl)) fun gg402 _ _ s402 => ?_; clear s401
   obtain ⟨b15, v54, v55, v56⟩ := gg402
   refine qs s402 (.c1 rfl (mv rfl rfl) (.c1 rfl (ob_extract rfl (.tmp rfl) rfl) (.c1 rfl (ob_extract rfl (.tmp rfl) rfl) (.c1 rfl (ob_assign rfl (.tmp rfl)) (.c1 rfl (ob_assign rfl (.tmp rfl)) .cz))))) fun _ _ s407 => ?_; clear s402
   refine wpList_nil ?_
   refine bool_split x32.1 (fun hc23 => ?_) (fun hc23 => ?_)
   ·have h78 := ite_t hc23 h77; clear h77
    have s408 := St.whenT hc23 s407; clear s407
    have s409 := St.optT (t := 32) hc23 rfl s408; clear s408
    have s410 := St.optT (t := 9) hc23 rfl s409; clear s409
    refine then_normal (hK58 _ _ ?_)
    have s411 := s410.sub (u 1 rfl (u 5 rfl (u 6 rfl (u 7 rfl (u 8 rfl (u 9 rfl (u 10 rfl (u 100000 rfl (u 100001 rfl .nil))))))))); clear s410
    refine wp_seq_k fun K59 hK59 => wp_seq_k fun K60 hK60 => ?_
    refine wp_region_lit (qs s411 (.c1 rfl (mv rfl rfl) (.c1 rfl (mv rfl rfl) (.c1 rfl (ob_neq rfl (.tmp rfl) (.tmp rfl)) (.c1 rfl (mv rfl rfl) (.cg rfl rfl rfl rfl (fun hb => ob_move rfl (.tmp rfl)) (.cg rfl rfl rfl rfl (fun hb => (Ob.uncond (t := 38) hb rfl (ob_ptrNil (p := none) rfl pt26 (.tmp rfl) opd_is))) (.c1 rfl ((ob_or2 rfl (.tmp rfl) opd_bool (.tmp rfl)).nm (Y := true) (ite_self _)) (.c1 rfl (mv rfl rfl) .cz)))))))) fun _ _ s419 => ?_); clear s411
    refine qg (F := (is (.pointer none))) s419 rfl rfl rfl rfl (fun hb => (absurd hb (by decide))) fun _ _ s420 => ?_; clear s419
    refine qg (F := (kbool.V false)) s420 rfl rfl rfl rfl (fun hb => (absurd hb (by decide))) fun _ _ s421 => ?_; clear s420
    refine qs s421 (.c1 rfl ((ob_or2 rfl (.tmp rfl) opd_bool (.tmp rfl)).nm (Y := true) (by rfl)) (.ce (u 1 rfl (u 5 rfl (u 6 rfl (u 7 rfl (u 9 rfl (u 44 rfl (u 100000 rfl (u 100001 rfl .nil)))))))))) fun _ _ s423 => wn hK60 ?_; clear s421
    refine cond_t s423 (.tmp rfl) ?_
    refine wp_seq_k fun K61 hK61 => wp_region_lit (qs s423 (.c1 rfl (ob_assign rfl opd_bool) (.ce (u 4 rfl (u 100000 rfl (u 100001 rfl .nil))))) fun _ _ s425 => wn hK61 ?_); clear s423
    have s426 := St.drop (A := []) s425; clear s425
    have s427 := St.drop (A := []) s426; clear s426
    have s428 := St.drop (A := []) s427; clear s427
    have s429 := St.drop (A := []) s428; clear s428
    have s430 := St.drop (A := []) s429; clear s429
    have s431 := St.drop (A := []) s430; clear s430
    have s432 := St.drop (A := []) s431; clear s431
    have s433 := St.drop (A := []) s432; clear s432
    refine wp_ret ?_
    obtain rfl := Option.some.inj h78
    exact leave s433 (.inl rfl) rfl (.cons (.tmp rfl) .nil)
   ·have h79 := ite_f hc23 h77; clear h77
    have s434 := St.whenF hc23 s407; clear s407
    have s435 := St.optF (t := 32) hc23 rfl s434; clear s434
    have s436 := St.optF (t := 9) hc23 rfl s435; clear s435
    refine then_normal (hK58 _ _ ?_)
    have s437 := s436.sub (u 1 rfl (u 5 rfl (u 6 rfl (u 7 rfl (u 8 rfl (u 9 rfl (u 10 rfl (u 100000 rfl (u 100001 rfl .nil))))))))); clear s436
    refine wp_seq_k fun K62 hK62 => wp_seq_k fun K63 hK63 => ?_
    refine wp_region_lit (qs s437 (.c1 rfl (mv rfl rfl) (.c1 rfl (mv rfl rfl) (.c1 rfl (ob_neq rfl (.tmp rfl) (.tmp rfl)) (.c1 rfl (mv rfl rfl) (.cg rfl rfl rfl rfl (fun hb => ob_move rfl (.tmp rfl)) (.cg rfl rfl rfl rfl (fun hb => (Ob.uncond (t := 38) hb rfl (ob_ptrNil (p := none) rfl pt26 (.tmp rfl) opd_is))) (.c1 rfl ((ob_or2 rfl (.tmp rfl) opd_bool (.tmp rfl)).nm (Y := true) (ite_self _)) (.c1 rfl (mv rfl rfl) .cz)))))))) fun _ _ s445 => ?_); clear s437
    refine qg (F := (is (.pointer none))) s445 rfl rfl rfl rfl (fun hb => (absurd hb (by decide))) fun _ _ s446 => ?_; clear s445
    refine qg (F := (kbool.V false)) s446 rfl rfl rfl rfl (fun hb => (absurd hb (by decide))) fun _ _ s447 => ?_; clear s446
    refine qs s447 (.c1 rfl ((ob_or2 rfl (.tmp rfl) opd_bool (.tmp rfl)).nm (Y := true) (by rfl)) (.ce (u 1 rfl (u 5 rfl (u 6 rfl (u 7 rfl (u 9 rfl (u 44 rfl (u 100000 rfl (u 100001 rfl .nil)))))))))) fun _ _ s449 => wn hK63 ?_; clear s447
    refine cond_t s449 (.tmp rfl) ?_
    refine wp_seq_k fun K64 hK64 => wp_region_lit (qs s449 (.c1 rfl (ob_assign rfl opd_bool) (.ce (u 4 rfl (u 100000 rfl (u 100001 rfl .nil))))) fun _ _ s451 => wn hK64 ?_); clear s449
    have s452 := St.drop (A := []) s451; clear s451
    have s453 := St.drop (A := []) s452; clear s452
    have s454 := St.drop (A := []) s453; clear s453
    have s455 := St.drop (A := []) s454; clear s454
    have s456 := St.drop (A := []) s455; clear s455
    have s457 := St.drop (A := []) s456; clear s456
    have s458 := St.drop (A := []) s457; clear s457
    refine wp_ret ?_
    obtain rfl := Option.some.inj h79
    exact leave s458 (.inl rfl) rfl (.cons (.tmp rfl) .nil)
end Go.Proofs.YtjbjladhgmknnaaDoor
