/- Several parts of this proof in one file. No condition. -/
import Derived.Test.YtjbjladhgmknnaaDoorKWk2
namespace Go.Proofs.YtjbjladhgmknnaaDoor
open Go Go.RowKit Go.Proofs.Kit Go.Proofs.Pure
set_option linter.unusedVariables false
set_option linter.unusedSimpArgs false
set_option maxRecDepth 100000
set_option maxHeartbeats 2000000
theorem c_journal_Journal_Append (k : Nat) (p1 : journal_Journal) (p2 : (List (List Int))) (p3 : disk_Disk) (r : (Int × journal_Journal × disk_Disk)) (h0 : journal_Journal_Append k p1 p2 p3 = some r) (ok : Ok) (w0 : World) (gl0 : (ptrTo (karr 8 (kint .u32)) G_digest_first).holds ok w0 (.pointer (some ⟨0, 0, none⟩))) (gl1 : (ptrTo (karr 64 (kint .u32)) G_digest_rounds).holds ok w0 (.pointer (some ⟨1, 0, none⟩))) (z0 : Value) (z1 : Value) (b00 : Nat) (b01 : Nat) (w1_0 : Value) (w1_1 : Value) (l0 : ∀ q, q ∈ [BF b00 70 (ko_journal_Journal_0 (.pointer (some ⟨b01, 0, none⟩))) (⟨(), p1.area, p1.bytes, p1.l⟩ : journal_Journal), BF b01 68 (ko_disk_Disk_0_1 w1_0 w1_1) (⟨[], [], p3.fuse, p3.dead⟩ : disk_Disk), RowF w1_0 100 (karr 256 (kint .u8)) p3.firm, RowF w1_1 102 k_disk_write p3.loose] → q.holds ok w0) (d0 : ∀ c, c ∈ idsOf [BF b00 70 (ko_journal_Journal_0 (.pointer (some ⟨b01, 0, none⟩))) (⟨(), p1.area, p1.bytes, p1.l⟩ : journal_Journal), BF b01 68 (ko_disk_Disk_0_1 w1_0 w1_1) (⟨[], [], p3.fuse, p3.dead⟩ : disk_Disk), RowF w1_0 100 (karr 256 (kint .u8)) p3.firm, RowF w1_1 102 k_disk_write p3.loose] → ¬ ok c) (nd : (idsOf [BF b00 70 (ko_journal_Journal_0 (.pointer (some ⟨b01, 0, none⟩))) (⟨(), p1.area, p1.bytes, p1.l⟩ : journal_Journal), BF b01 68 (ko_disk_Disk_0_1 w1_0 w1_1) (⟨[], [], p3.fuse, p3.dead⟩ : disk_Disk), RowF w1_0 100 (karr 256 (kint .u8)) p3.firm, RowF w1_1 102 k_disk_write p3.loose]).Nodup) (u0 : (ptrB b00 0).holds ok w0 z0) (u1 : ((ksl kstr).V p2).holds ok w0 z1) :
 GivesX Tryd.prog 11 [z0, z1] ok w0 [BF b00 70 (ko_journal_Journal_0 (.pointer (some ⟨b01, 0, none⟩))) (⟨(), p1.area, p1.bytes, p1.l⟩ : journal_Journal), BF b01 68 (ko_disk_Disk_0_1 w1_0 w1_1) (⟨[], [], p3.fuse, p3.dead⟩ : disk_Disk), RowF w1_0 100 (karr 256 (kint .u8)) p3.firm, RowF w1_1 102 k_disk_write p3.loose] (fun g : Value × Value => resFact [(kint .i64).V r.1]) (fun g : Value × Value => [BF b00 70 (ko_journal_Journal_0 (.pointer (some ⟨b01, 0, none⟩))) (⟨(), r.2.1.area, r.2.1.bytes, r.2.1.l⟩ : journal_Journal), BF b01 68 (ko_disk_Disk_0_1 (g.1) (g.2)) (⟨[], [], r.2.2.fuse, r.2.2.dead⟩ : disk_Disk), RowF (g.1) 100 (karr 256 (kint .u8)) r.2.2.firm, RowF (g.2) 102 k_disk_write r.2.2.loose]) := by
 unfold journal_Journal_Append at h0
 refine enterX (N := 73) Tryd.func11 rfl rfl (of_decide_eq_true rfl) (.cons u0 (.cons u1 .nil)) nd l0 d0 fun a1 s1 => ?_
 have s2 := s1.keepKnown 100000 gl0 (okInX (L := [BF b00 70 (ko_journal_Journal_0 (.pointer (some ⟨b01, 0, none⟩))) (⟨(), p1.area, p1.bytes, p1.l⟩ : journal_Journal), BF b01 68 (ko_disk_Disk_0_1 w1_0 w1_1) (⟨[], [], p3.fuse, p3.dead⟩ : disk_Disk), RowF w1_0 100 (karr 256 (kint .u8)) p3.firm, RowF w1_1 102 k_disk_write p3.loose]) d0); clear s1
 have s3 := s2.keepKnown 100001 gl1 (okInX (L := [BF b00 70 (ko_journal_Journal_0 (.pointer (some ⟨b01, 0, none⟩))) (⟨(), p1.area, p1.bytes, p1.l⟩ : journal_Journal), BF b01 68 (ko_disk_Disk_0_1 w1_0 w1_1) (⟨[], [], p3.fuse, p3.dead⟩ : disk_Disk), RowF w1_0 100 (karr 256 (kint .u8)) p3.firm, RowF w1_1 102 k_disk_write p3.loose]) d0); clear s2
 refine wp_seq_k fun K1 hK1 => wp_region_lit (qs s3 (.c1 rfl (ob_assign rfl (opd_int rfl)) (.ce (u 0 rfl (u 1 rfl (u 100000 rfl (u 100001 rfl .nil)))))) fun _ _ s5 => wn hK1 ?_); clear s3
 refine wp_seq_k fun K2 hK2 => wp_region_lit ?_
 have s6 := St.adopt s5 (G := RowF (nilRow 6) 5 (kint .u8) []) rfl (rowNilN _ _ _ _ _); clear s5
 refine qx (B' := (fun b1 : Nat => [BF b1 79 (ko_wire_Writer_0 (nilRow 6)) (⟨[]⟩ : wire_Writer), RowF (nilRow 6) 5 (kint .u8) ([] : (List Int)), BF b00 70 (ko_journal_Journal_0 (.pointer (some ⟨b01, 0, none⟩))) (⟨(), p1.area, p1.bytes, p1.l⟩ : journal_Journal), BF b01 68 (ko_disk_Disk_0_1 w1_0 w1_1) (⟨[], [], p3.fuse, p3.dead⟩ : disk_Disk), RowF w1_0 100 (karr 256 (kint .u8)) p3.firm, RowF w1_1 102 k_disk_write p3.loose])) s6 rfl (ob_new (k := (ko_wire_Writer_0 (nilRow 6))) rfl zz79 (Zr.iso (f := to_wire_Writer_0) (x := (⟨[]⟩ : wire_Writer)) (Zr.pair (Zr.kis 6) Zr.nil))) fun b1 _ _ s7 => ?_; clear s6
 refine wn hK2 ?_
 have s8 := s7.sub (u 0 rfl (u 1 rfl (u 5 rfl (u 100000 rfl (u 100001 rfl .nil))))); clear s7
 obtain ⟨x1, e_x1, h1⟩ := bind_some h0; clear h0
 refine wp_seq_k fun K3 hK3 => wp_region_lit (qs s8 (.c1 rfl (mv rfl rfl) .cz) fun _ _ s9 => ?_); clear s8
 refine qx (B' := (fun v1 : Value => [BF b1 79 (ko_wire_Writer_0 v1) (⟨[]⟩ : wire_Writer), RowF v1 5 (kint .u8) x1.out, BF b00 70 (ko_journal_Journal_0 (.pointer (some ⟨b01, 0, none⟩))) (⟨(), p1.area, p1.bytes, p1.l⟩ : journal_Journal), BF b01 68 (ko_disk_Disk_0_1 w1_0 w1_1) (⟨[], [], p3.fuse, p3.dead⟩ : disk_Disk), RowF w1_0 100 (karr 256 (kint .u8)) p3.firm, RowF w1_1 102 k_disk_write p3.loose])) s9 rfl (ob_callL0 (args := [_, _]) (L := [_, _]) rfl .direct hb39 (List.Perm.refl _) (fun a w s => by exact c_wire_Writer_Texts k _ _ _ e_x1 _ _ _ _ _ _ (ownL s) (disL s) (nodL s) (s.arg (.tmp rfl)) (s.arg (.tmp rfl))) (by exact fun _ => rfl)) fun v1 _ _ s10 => ?_; clear s9
 refine wn hK3 ?_
 have s11 := s10.sub (u 0 rfl (u 1 rfl (u 5 rfl (u 100000 rfl (u 100001 rfl .nil))))); clear s10
 obtain ⟨x2, e_x2, h2⟩ := bind_some h1; clear h1
 refine wp_seq_k fun K4 hK4 => wp_region_lit (qs s11 (.c1 rfl ((ob_lendG (L := [_, _]) (List.Perm.refl _) (.cons (t := 5) rfl (lendObj (K' := k_wire_Writer) (X' := x1) (.head _) rfl (upo_wire_Writer_0 rfl (.row (LetAll.row (.tail _ (.head _)))))) .nil) (Flat.res1 (Flat.V KFlat.str)) (fun _ => ob_callD0 (args := [_]) rfl .direct hb40 (fun a w s => by exact c_wire_Writer_String k _ _ e_x2 _ _ _ (s.arg (.tmp rfl)))))) (.c1 rfl (ob_assign rfl (.tmp rfl)) (.ce (u 0 rfl (u 1 rfl (u 6 rfl (u 100000 rfl (u 100001 rfl .nil)))))))) fun _ _ s14 => wn hK4 ?_); clear s11
 have s15 := St.drop (A := []) s14; clear s14
 have s16 := St.drop (A := []) s15; clear s15
 refine wp_seq_k fun K5 hK5 => wp_block ?_
 refine wp_seq_k fun K6 hK6 => wp_region_lit (qs s16 (.c1 rfl (mv rfl rfl) (.c1 rfl (ob_ptrNil (p := some _) rfl pt26 (.tmp rfl) opd_is) (.c1 rfl (ob_assign rfl (.tmp rfl)) (.ce (u 0 rfl (u 1 rfl (u 6 rfl (u 12 rfl (u 100000 rfl (u 100001 rfl .nil)))))))))) fun _ _ s20 => wn hK6 ?_); clear s16
 refine cond_f s20 (.tmp rfl) ?_
 obtain ⟨x3, e_x3, h3⟩ := bind_some h2; clear h2
 refine wp_seq_k fun K7 hK7 => wp_region_lit (qs s20 (.c1 rfl (mv rfl rfl) (.c1 rfl (ob_callD0 (args := [_, _]) rfl .direct hb41 (fun a w s => by exact c_slices_ContainsFunc_string_string_journal_Journal_Append_1 k _ _ e_x3 _ _ _ _ (s.arg (.tmp rfl)) (s.arg .func))) (.c1 rfl (ob_assign rfl (.tmp rfl)) (.ce (u 0 rfl (u 1 rfl (u 6 rfl (u 15 rfl (u 100000 rfl (u 100001 rfl .nil)))))))))) fun _ _ s24 => wn hK7 ?_); clear s20
 refine cond_split s24 (.tmp rfl) (fun hc2 => ?_) (fun hc2 => ?_)
 ·have h4 := ite_t hc2 h3; clear h3
  refine wp_seq_k fun K8 hK8 => wp_region_lit (qs s24 (.c1 rfl (ob_assign rfl (opd_int rfl)) (.ce (u 4 rfl (u 100000 rfl (u 100001 rfl .nil))))) fun _ _ s26 => wn hK8 ?_); clear s24
  refine wp_ret ?_
  obtain rfl := Option.some.inj h4
  exact leaveXD (D := []) ⟨w1_0, w1_1⟩ s26 rfl (.inl rfl) rfl (.cons (.tmp rfl) .nil) rfl
 ·have h5 := ite_f hc2 h3; clear h3
  obtain ⟨x4, e_x4, h6⟩ := bind_some h5; clear h5
  refine wp_seq_k fun K9 hK9 => wp_region_lit (qs s24 (.c1 rfl (mv rfl rfl) (.c1 rfl (ob_lenStr rfl Tryd.underlying9 (.tmp rfl)) (.c1 rfl (mv rfl rfl) .cz))) fun _ _ s29 => ?_); clear s24
  refine qx (B' := (fun _ : Unit => [BF b00 70 (ko_journal_Journal_0 (.pointer (some ⟨b01, 0, none⟩))) (⟨(), p1.area, p1.bytes, p1.l⟩ : journal_Journal), BF b01 68 (ko_disk_Disk_0_1 w1_0 w1_1) (⟨[], [], p3.fuse, p3.dead⟩ : disk_Disk), RowF w1_0 100 (karr 256 (kint .u8)) p3.firm, RowF w1_1 102 k_disk_write p3.loose])) s29 rfl (ob_callL0 (args := [_]) (L := [_, _, _, _]) rfl .direct hb20 (List.Perm.refl _) (fun a w s => by exact c_journal_Journal_Room k _ _ _ e_x4 _ _ _ _ _ _ _ (ownL s) (disL s) (nodL s) (s.arg (.tmp rfl))) (by exact fun _ => rfl)) fun _ _ _ s30 => ?_; clear s29
  refine qs s30 (.c1 rfl (ob_gtr rfl (.tmp rfl) (.tmp rfl)) (.c1 rfl (ob_assign rfl (.tmp rfl)) (.ce (u 0 rfl (u 1 rfl (u 6 rfl (u 18 rfl (u 100000 rfl (u 100001 rfl .nil))))))))) fun _ _ s33 => wn hK9 ?_; clear s30
  refine cond_split s33 (.tmp rfl) (fun hc3 => ?_) (fun hc3 => ?_)
  ·have h7 := ite_t hc3 h6; clear h6
   refine wp_seq_k fun K10 hK10 => wp_region_lit (qs s33 (.c1 rfl (ob_assign rfl (opd_int rfl)) (.ce (u 4 rfl (u 100000 rfl (u 100001 rfl .nil))))) fun _ _ s35 => wn hK10 ?_); clear s33
   refine wp_ret ?_
   obtain rfl := Option.some.inj h7
   exact leaveXD (D := []) ⟨w1_0, w1_1⟩ s35 rfl (.inl rfl) rfl (.cons (.tmp rfl) .nil) rfl
  ·have h8 := ite_f hc3 h6; clear h6
   refine wp_seq_k fun K11 hK11 => wp_region_lit (qs s33 (.c1 rfl (mv rfl rfl) (.c1 rfl (ob_lens rfl Tryd.underlying30 (.tmp rfl)) (.c1 rfl (ob_eql rfl (.tmp rfl) (opd_int rfl)) (.c1 rfl (ob_assign rfl (.tmp rfl)) (.ce (u 0 rfl (u 1 rfl (u 6 rfl (u 24 rfl (u 100000 rfl (u 100001 rfl .nil))))))))))) fun _ _ s40 => wn hK11 ?_); clear s33
   refine cond_split s40 (.tmp rfl) (fun hc4 => ?_) (fun hc4 => ?_)
   ·have h9 := ite_t hc4 h8; clear h8
    refine wp_seq_k fun K12 hK12 => wp_region_lit (qs s40 (.c1 rfl (ob_assign rfl (opd_int rfl)) (.ce (u 4 rfl (u 100000 rfl (u 100001 rfl .nil))))) fun _ _ s42 => wn hK12 ?_); clear s40
    refine wp_ret ?_
    obtain rfl := Option.some.inj h9
    exact leaveXD (D := []) ⟨w1_0, w1_1⟩ s42 rfl (.inl rfl) rfl (.cons (.tmp rfl) .nil) rfl
   ·have h10 := ite_f hc4 h8; clear h8
    refine wp_skip ?_
    refine in_normal ?_
    refine then_normal (hK5 _ _ ?_)
    have s43 := s40.sub (u 0 rfl (u 1 rfl (u 6 rfl (u 100000 rfl (u 100001 rfl .nil))))); clear s40
    obtain ⟨g1, h11⟩ := guard_some h10; clear h10
    refine wp_seq_k fun K13 hK13 => wp_region_lit (qs s43 (.c1 rfl (mv rfl rfl) (.c1 rfl (ob_nilCheck rfl (.tmp rfl)) (.c1 rfl (ob_fieldAddr (off' := 2) rfl Tryd.underlying70 rfl sz9 (by decide) (.tmp rfl) rfl) (.c1 rfl (ob_load rfl tk9 (.tmp rfl) (.head _) (lgo_journal_Journal_0_bytes (⟨(), p1.area, p1.bytes, p1.l⟩ : journal_Journal))) (.c1 rfl (mv rfl rfl) (.c1 rfl (ob_cat rfl (.tmp rfl) (.tmp rfl) g1) (.c1 rfl (ob_assign rfl (.tmp rfl)) (.ce (u 0 rfl (u 1 rfl (u 7 rfl (u 100000 rfl (u 100001 rfl .nil))))))))))))) fun _ _ s51 => wn hK13 ?_); clear s43
    refine wp_seq_k fun K14 hK14 => wp_seq_k fun K15 hK15 => ?_
    refine wp_goes (Fs := [(ptrB b00 0), (ptrB b00 0), (ptrB b00 0), (ptrB b00 1), ((kint .i64).V p1.area), (ptrB b00 0), (ptrB b00 0), (ptrB b00 2), (kstr.V p1.bytes), ((kint .i64).V (p1.bytes.length : Int)), (kstr.V (p1.bytes ++ x2))]) (bits := [0, 0, 2, 6, 14, 0, 32, 96, 224, 480, 0, 2047, 4095]) (m := 11) (todo := 0) mx s51 ?_; clear s51
    refine goes_last (by kernel_rfl) rfl (oc (av 0 rfl rfl (av 100000 rfl rfl (av 100001 rfl rfl Av.nil))) rfl rfl (mv rfl rfl) (oc (av 0 rfl rfl (av 100000 rfl rfl (av 100001 rfl rfl Av.nil))) rfl rfl (mv rfl rfl) (oc (an 1 rfl rfl rfl (av 100000 rfl rfl (av 100001 rfl rfl Av.nil))) rfl rfl (ob_nilCheck rfl (.tmp rfl)) (oc (an 2 rfl rfl rfl (av 100000 rfl rfl (av 100001 rfl rfl Av.nil))) rfl rfl (ob_fieldAddr (off' := 1) rfl Tryd.underlying70 rfl sz3 (by decide) (.tmp rfl) rfl) (oc (an 3 rfl rfl rfl (av 100000 rfl rfl (av 100001 rfl rfl Av.nil))) rfl rfl (ob_load rfl tk3 (.tmp rfl) (.head _) (lgo_journal_Journal_0_area (⟨(), p1.area, p1.bytes, p1.l⟩ : journal_Journal))) (oc (av 0 rfl rfl (av 100000 rfl rfl (av 100001 rfl rfl Av.nil))) rfl rfl (mv rfl rfl) (oc (an 5 rfl rfl rfl (av 100000 rfl rfl (av 100001 rfl rfl Av.nil))) rfl rfl (ob_nilCheck rfl (.tmp rfl)) (oc (an 6 rfl rfl rfl (av 100000 rfl rfl (av 100001 rfl rfl Av.nil))) rfl rfl (ob_fieldAddr (off' := 2) rfl Tryd.underlying70 rfl sz9 (by decide) (.tmp rfl) rfl) (oc (an 7 rfl rfl rfl (av 100000 rfl rfl (av 100001 rfl rfl Av.nil))) rfl rfl (ob_load rfl tk9 (.tmp rfl) (.head _) (lgo_journal_Journal_0_bytes (⟨(), p1.area, p1.bytes, p1.l⟩ : journal_Journal))) (oc (an 8 rfl rfl rfl (av 100000 rfl rfl (av 100001 rfl rfl Av.nil))) rfl rfl (ob_lenStr rfl Tryd.underlying9 (.tmp rfl)) (oc (av 7 rfl rfl (av 100000 rfl rfl (av 100001 rfl rfl Av.nil))) rfl rfl (mv rfl rfl) opsS_nil))))))))))) (out_old (t := 0) rfl rfl (out_old (t := 1) rfl rfl (out_old (t := 7) rfl rfl (out_new (i := 0) (by decide) rfl rfl (out_new (i := 4) (by decide) rfl rfl (out_new (i := 9) (by decide) rfl rfl (out_new (i := 10) (by decide) rfl rfl (out_old (t := 100000) rfl rfl (out_old (t := 100001) rfl rfl out_nil))))))))) fun _ _ s52 => ?_
    obtain ⟨x5, e_x5, h12⟩ := bind_some h11; clear h11
    refine qx (B' := (fun gg : Value × Value => [BF b00 70 (ko_journal_Journal_0 (.pointer (some ⟨b01, 0, none⟩))) (⟨(), x5.2.1.area, x5.2.1.bytes, x5.2.1.l⟩ : journal_Journal), BF b01 68 (ko_disk_Disk_0_1 gg.1 gg.2) (⟨[], [], x5.2.2.fuse, x5.2.2.dead⟩ : disk_Disk), RowF gg.1 100 (karr 256 (kint .u8)) x5.2.2.firm, RowF gg.2 102 k_disk_write x5.2.2.loose])) s52 rfl (ob_callL0 (args := [_, _, _, _]) (L := [_, _, _, _]) rfl .direct hb43 (List.Perm.refl _) (fun a w s => by exact c_journal_Journal_commit k _ _ _ _ _ _ e_x5 _ _ (s.env _ _ (show get _ 100000 = _ from rfl)) (s.env _ _ (show get _ 100001 = _ from rfl)) _ _ _ _ _ _ _ _ (ownL s) (disL s) (nodL s) (s.arg (.tmp rfl)) (s.arg (.tmp rfl)) (s.arg (.tmp rfl)) (s.arg (.tmp rfl))) (by exact fun _ => rfl)) fun gg53 _ _ s53 => ?_; clear s52
    obtain ⟨v2, v3⟩ := gg53
    refine qs s53 (.c1 rfl (ob_assign rfl (.tmp rfl)) (.ce (u 0 rfl (u 1 rfl (u 7 rfl (u 8 rfl (u 100000 rfl (u 100001 rfl .nil)))))))) fun _ _ s55 => wn hK15 ?_; clear s53
    refine wp_seq_k fun K16 hK16 => wp_region_lit (qs s55 (.c1 rfl (mv rfl rfl) (.c1 rfl (ob_neq rfl (.tmp rfl) (opd_int rfl)) (.ce (u 0 rfl (u 1 rfl (u 7 rfl (u 8 rfl (u 47 rfl (u 100000 rfl (u 100001 rfl .nil)))))))))) fun _ _ s58 => wn hK16 ?_); clear s55
    refine cond_split s58 (.tmp rfl) (fun hc5 => ?_) (fun hc5 => ?_)
    ·have h13 := ite_t hc5 h12; clear h12
     refine wp_seq_k fun K17 hK17 => wp_region_lit (qs s58 (.c1 rfl (mv rfl rfl) (.c1 rfl (ob_assign rfl (.tmp rfl)) (.ce (u 4 rfl (u 100000 rfl (u 100001 rfl .nil)))))) fun _ _ s61 => wn hK17 ?_); clear s58
     refine wp_ret ?_
     obtain rfl := Option.some.inj h13
     exact leaveXD (D := []) ⟨v2, v3⟩ s61 rfl (.inl rfl) rfl (.cons (.tmp rfl) .nil) rfl
    ·have h14 := ite_f hc5 h12; clear h12
     refine wp_skip ?_
     refine then_normal (hK14 _ _ ?_)
     have s62 := s58.sub (u 0 rfl (u 1 rfl (u 7 rfl (u 100000 rfl (u 100001 rfl .nil))))); clear s58
     refine wp_seq_k fun K18 hK18 => ?_
     obtain ⟨g2, h15⟩ := guard_some h14; clear h14
     refine wp_goes (Fs := [(ptrB b00 0), (ptrB b00 0), (kstr.V (p1.bytes ++ x2)), (ptrB b00 0), (ptrB b00 0), (ptrB b00 3), ((ksl kstr).V x5.2.1.l), (ptrB b00 0), (ptrB b00 0), (ptrB b00 3), ((ksl kstr).V x5.2.1.l), ((kint .i64).V (x5.2.1.l.length : Int)), (ptrB b00 0), (ptrB b00 0), (ptrB b00 3), ((ksl kstr).V x5.2.1.l), ((kint .i64).V (x5.2.1.l.length : Int)), (slC kstr x5.2.1.l), ((ksl kstr).V p2), ((ksl kstr).V (x5.2.1.l ++ p2)), (ptrB b00 0), (ptrB b00 2), nofact]) (bits := [0, 0, 0, 0, 8, 24, 56, 0, 128, 384, 896, 1920, 0, 4096, 12288, 28672, 61440, 131064, 0, 524280, 1048573, 2097149, 4194301, 8388607, 16777215, 33554431]) (m := 23) (todo := 4194304) mx s62 ?_; clear s62
     refine goes_turn (B' := (fun _ : Unit => [BF b00 70 (ko_journal_Journal_0 (.pointer (some ⟨b01, 0, none⟩))) (⟨(), x5.2.1.area, (p1.bytes ++ x2), x5.2.1.l⟩ : journal_Journal), BF b01 68 (ko_disk_Disk_0_1 v2 v3) (⟨[], [], x5.2.2.fuse, x5.2.2.dead⟩ : disk_Disk), RowF v2 100 (karr 256 (kint .u8)) x5.2.2.firm, RowF v3 102 k_disk_write x5.2.2.loose])) (Fs' := (fun _ : Unit => setAll ([(ptrB b00 0), (ptrB b00 0), (kstr.V (p1.bytes ++ x2)), (ptrB b00 0), (ptrB b00 0), (ptrB b00 3), ((ksl kstr).V x5.2.1.l), (ptrB b00 0), (ptrB b00 0), (ptrB b00 3), ((ksl kstr).V x5.2.1.l), ((kint .i64).V (x5.2.1.l.length : Int)), (ptrB b00 0), (ptrB b00 0), (ptrB b00 3), ((ksl kstr).V x5.2.1.l), ((kint .i64).V (x5.2.1.l.length : Int)), (slC kstr x5.2.1.l), ((ksl kstr).V p2), ((ksl kstr).V (x5.2.1.l ++ p2)), (ptrB b00 0), (ptrB b00 2), nofact]) [(22, nofact)])) 22 4194304 8388605 0 (by kernel_rfl) rfl rfl rfl (oc (av 0 rfl rfl (av 100000 rfl rfl (av 100001 rfl rfl Av.nil))) rfl rfl (mv rfl rfl) (oc (av 0 rfl rfl (av 100000 rfl rfl (av 100001 rfl rfl Av.nil))) rfl rfl (mv rfl rfl) (oc (av 7 rfl rfl (av 100000 rfl rfl (av 100001 rfl rfl Av.nil))) rfl rfl (mv rfl rfl) (oc (av 0 rfl rfl (av 100000 rfl rfl (av 100001 rfl rfl Av.nil))) rfl rfl (mv rfl rfl) (oc (an 3 rfl rfl rfl (av 100000 rfl rfl (av 100001 rfl rfl Av.nil))) rfl rfl (ob_nilCheck rfl (.tmp rfl)) (oc (an 4 rfl rfl rfl (av 100000 rfl rfl (av 100001 rfl rfl Av.nil))) rfl rfl (ob_fieldAddr (off' := 3) rfl Tryd.underlying70 rfl sz30 (by decide) (.tmp rfl) rfl) (oc (an 5 rfl rfl rfl (av 100000 rfl rfl (av 100001 rfl rfl Av.nil))) rfl rfl (ob_load rfl tk30 (.tmp rfl) (.head _) (lgo_journal_Journal_0_l (⟨(), x5.2.1.area, x5.2.1.bytes, x5.2.1.l⟩ : journal_Journal))) (oc (av 0 rfl rfl (av 100000 rfl rfl (av 100001 rfl rfl Av.nil))) rfl rfl (mv rfl rfl) (oc (an 7 rfl rfl rfl (av 100000 rfl rfl (av 100001 rfl rfl Av.nil))) rfl rfl (ob_nilCheck rfl (.tmp rfl)) (oc (an 8 rfl rfl rfl (av 100000 rfl rfl (av 100001 rfl rfl Av.nil))) rfl rfl (ob_fieldAddr (off' := 3) rfl Tryd.underlying70 rfl sz30 (by decide) (.tmp rfl) rfl) (oc (an 9 rfl rfl rfl (av 100000 rfl rfl (av 100001 rfl rfl Av.nil))) rfl rfl (ob_load rfl tk30 (.tmp rfl) (.head _) (lgo_journal_Journal_0_l (⟨(), x5.2.1.area, x5.2.1.bytes, x5.2.1.l⟩ : journal_Journal))) (oc (an 10 rfl rfl rfl (av 100000 rfl rfl (av 100001 rfl rfl Av.nil))) rfl rfl (ob_lens rfl Tryd.underlying30 (.tmp rfl)) (oc (av 0 rfl rfl (av 100000 rfl rfl (av 100001 rfl rfl Av.nil))) rfl rfl (mv rfl rfl) (oc (an 12 rfl rfl rfl (av 100000 rfl rfl (av 100001 rfl rfl Av.nil))) rfl rfl (ob_nilCheck rfl (.tmp rfl)) (oc (an 13 rfl rfl rfl (av 100000 rfl rfl (av 100001 rfl rfl Av.nil))) rfl rfl (ob_fieldAddr (off' := 3) rfl Tryd.underlying70 rfl sz30 (by decide) (.tmp rfl) rfl) (oc (an 14 rfl rfl rfl (av 100000 rfl rfl (av 100001 rfl rfl Av.nil))) rfl rfl (ob_load rfl tk30 (.tmp rfl) (.head _) (lgo_journal_Journal_0_l (⟨(), x5.2.1.area, x5.2.1.bytes, x5.2.1.l⟩ : journal_Journal))) (oc (an 15 rfl rfl rfl (av 100000 rfl rfl (av 100001 rfl rfl Av.nil))) rfl rfl (ob_lens rfl Tryd.underlying30 (.tmp rfl)) (oc (an 6 rfl rfl rfl (an 11 rfl rfl rfl (an 16 rfl rfl rfl (av 100000 rfl rfl (av 100001 rfl rfl Av.nil))))) rfl rfl (ob_cut3 rfl Tryd.underlying30 sz9 (.tmp rfl) (.tmp rfl) (.tmp rfl)) (oc (av 1 rfl rfl (av 100000 rfl rfl (av 100001 rfl rfl Av.nil))) rfl rfl (mv rfl rfl) (oc (an 17 rfl rfl rfl (an 18 rfl rfl rfl (av 100000 rfl rfl (av 100001 rfl rfl Av.nil)))) rfl rfl (ob_append3 rfl Tryd.underlying30 ap9 Zr.str (by decide) (.tmp rfl) (.tmp rfl) g2) (oc (an 0 rfl rfl rfl (av 100000 rfl rfl (av 100001 rfl rfl Av.nil))) rfl rfl (ob_nilCheck rfl (.tmp rfl)) (oc (an 20 rfl rfl rfl (av 100000 rfl rfl (av 100001 rfl rfl Av.nil))) rfl rfl (ob_fieldAddr (off' := 2) rfl Tryd.underlying70 rfl sz9 (by decide) (.tmp rfl) rfl) (opsS_skip (by rfl) opsS_nil))))))))))))))))))))))) (.plain _ (an 2 rfl rfl rfl (an 21 rfl rfl rfl (av 100000 rfl rfl (av 100001 rfl rfl Av.nil)))) rfl (fun _ => rfl) (fun R => ob_store (A := []) rfl tk9 (.tmp rfl) (.tmp rfl) rfl (lso_journal_Journal_0_bytes (⟨(), x5.2.1.area, x5.2.1.bytes, x5.2.1.l⟩ : journal_Journal) (p1.bytes ++ x2)) rfl)) (setAll_same (us := (fun _ : Unit => [(22, nofact)])) fun _ => by kernel_rfl) fun _ => ?_
     refine goes_last (by kernel_rfl) rfl (opsS_skip (by rfl) (oc (av 0 rfl rfl (av 100000 rfl rfl (av 100001 rfl rfl Av.nil))) rfl rfl (mv rfl rfl) (opsS_skip (by rfl) (opsS_skip (by rfl) (opsS_skip (by rfl) (opsS_skip (by rfl) (opsS_skip (by rfl) (opsS_skip (by rfl) (opsS_skip (by rfl) (opsS_skip (by rfl) (opsS_skip (by rfl) (opsS_skip (by rfl) (opsS_skip (by rfl) (opsS_skip (by rfl) (opsS_skip (by rfl) (opsS_skip (by rfl) (opsS_skip (by rfl) (opsS_skip (by rfl) (opsS_skip (by rfl) (opsS_skip (by rfl) (opsS_skip (by rfl) (opsS_skip (by rfl) (opsS_skip (by rfl) opsS_nil))))))))))))))))))))))) (out_new (i := 1) (by decide) rfl rfl (out_new (i := 19) (by decide) rfl rfl (out_old (t := 100000) rfl rfl (out_old (t := 100001) rfl rfl out_nil)))) fun _ _ s63 => ?_
     refine qs s63 (.c1 rfl (ob_nilCheck rfl (.tmp rfl)) (.c1 rfl (ob_fieldAddr (off' := 3) rfl Tryd.underlying70 rfl sz30 (by decide) (.tmp rfl) rfl) .cz)) fun _ _ s65 => ?_; clear s63
     refine seq_opx0 (B' := (fun _ : Unit => [BF b00 70 (ko_journal_Journal_0 (.pointer (some ⟨b01, 0, none⟩))) (⟨(), x5.2.1.area, (p1.bytes ++ x2), (x5.2.1.l ++ p2)⟩ : journal_Journal), BF b01 68 (ko_disk_Disk_0_1 v2 v3) (⟨[], [], x5.2.2.fuse, x5.2.2.dead⟩ : disk_Disk), RowF v2 100 (karr 256 (kint .u8)) x5.2.2.firm, RowF v3 102 k_disk_write x5.2.2.loose])) s65 rfl rfl (ob_store (A := []) rfl tk30 (.tmp rfl) (.tmp rfl) rfl (lso_journal_Journal_0_l (⟨(), x5.2.1.area, (p1.bytes ++ x2), x5.2.1.l⟩ : journal_Journal) (x5.2.1.l ++ p2)) rfl) fun _ a66 w66 s66 => ?_; clear s65
     refine wn hK18 ?_
     have s67 := s66.sub (u 100000 rfl (u 100001 rfl .nil)); clear s66
     refine wp_seq_k fun K19 hK19 => wp_region_lit (qs s67 (.c1 rfl (ob_assign rfl (opd_int rfl)) (.ce (u 4 rfl (u 100000 rfl (u 100001 rfl .nil))))) fun _ _ s69 => wn hK19 ?_); clear s67
     refine wp_ret ?_
     obtain rfl := Option.some.inj h15
     exact leaveXD (D := []) ⟨v2, v3⟩ s69 rfl (.inl rfl) rfl (.cons (.tmp rfl) .nil) rfl
theorem c_slices_Clone_string_string (k : Nat) (p1 : (List (List Int))) (r : (List (List Int))) (h0 : slices_Clone_string_string k p1 = some r) (ok : Ok) (w0 : World) (z0 : Value) (u0 : ((ksl kstr).V p1).holds ok w0 z0) :
 GivesX Tryd.prog 44 [z0] ok w0 [] (fun g : Value => resFact [is g]) (fun g : Value => [RowF (g) 9 kstr r]) := by
 unfold slices_Clone_string_string at h0
 refine enterX (N := 8) Tryd.func44 rfl rfl (of_decide_eq_true rfl) (.cons u0 .nil) List.nodup_nil (fun _ h => by cases h) (fun _ h => by cases h) fun a1 s1 => ?_
 refine wp_seq_k fun K1 hK1 => wp_region_lit (qs s1 (.c1 rfl (ob_assign rfl opd_is) .cz) fun _ _ s2 => ?_); clear s1
 have s3 := St.adopt s2 (G := RowF (nilRow 9) 9 kstr []) rfl (rowNilN _ _ _ _ _); clear s2
 refine wn hK1 ?_
 have s4 := s3.sub (u 0 rfl .nil); clear s3
 have s5 := St.drop (A := []) s4; clear s4
 refine wp_seq_k fun K2 hK2 => wp_seq_k fun K3 hK3 => ?_
 refine wp_region_lit (qs s5 (.c1 rfl (mv rfl rfl) (.c1 rfl (ob_slNil rfl Tryd.underlying30 (.tmp rfl)) (.ce (u 0 rfl (u 4 rfl .nil))))) fun _ _ s8 => wn hK3 ?_); clear s5
 refine cond_nil s8 (.tmp rfl) (fun hnil => ?_) ?_
 ·subst hnil
  have h1 : some ([] : (List (List Int))) = some r := by first | exact h0 | simpa using h0
  refine wp_seq_k fun K4 hK4 => wp_region_lit (qs s8 (.c1 rfl (ob_assign rfl opd_is) .cz) fun _ _ s9 => ?_); clear s8
  have s10 := St.adopt s9 (G := RowF (nilRow 10) 9 kstr []) rfl (rowNilN _ _ _ _ _); clear s9
  refine wn hK4 ?_
  have s11 := s10.sub (u 2 rfl .nil); clear s10
  refine wp_ret ?_
  obtain rfl := Option.some.inj h1
  exact leaveXD (D := []) (nilRow 10) s11 rfl (.inl rfl) rfl (.cons (.tmp rfl) .nil) rfl
 ·
  refine wp_skip ?_
  refine then_normal (hK2 _ _ ?_)
  have s12 := s8.sub (u 0 rfl .nil); clear s8
  refine wp_seq_k fun K5 hK5 => wp_region_lit ?_
  refine qx (B' := (fun v1 : Value => [RowF v1 9 kstr ([] : List (List Int))])) s12 rfl (ob_emptyRow (k := kstr) rfl Tryd.underlying30 sz9) fun v1 _ _ s13 => ?_; clear s12
  obtain ⟨g1, h2⟩ := guard_some h0; clear h0
  refine qs s13 (.c1 rfl (mv rfl rfl) .cz) fun _ _ s14 => ?_; clear s13
  refine qx (B' := (fun v2 : Value => [RowF v2 9 kstr (([] : List (List Int)) ++ p1)])) s14 rfl (ob_appendL2 (A := []) rfl Tryd.underlying30 ap9 Zr.str (by decide) (.tmp rfl) (.tmp rfl) rfl g1) fun v2 _ _ s15 => ?_; clear s14
  refine qs s15 (.c1 rfl (ob_assign rfl (.tmp rfl)) (.ce (u 2 rfl .nil))) fun _ _ s17 => wn hK5 ?_; clear s15
  refine wp_ret ?_
  obtain rfl := Option.some.inj h2
  exact leaveXD (D := []) v2 s17 rfl (.inl rfl) rfl (.cons (.tmp rfl) .nil) rfl
theorem c_journal_Journal_Records (k : Nat) (p1 : journal_Journal) (p2 : disk_Disk) (r : (List (List Int))) (h0 : journal_Journal_Records k p1 p2 = some r) (ok : Ok) (w0 : World) (z0 : Value) (b00 : Nat) (b01 : Nat) (w1_0 : Value) (w1_1 : Value) (l0 : ∀ q, q ∈ [BF b00 70 (ko_journal_Journal_0 (.pointer (some ⟨b01, 0, none⟩))) (⟨(), p1.area, p1.bytes, p1.l⟩ : journal_Journal), BF b01 68 (ko_disk_Disk_0_1 w1_0 w1_1) (⟨[], [], p2.fuse, p2.dead⟩ : disk_Disk), RowF w1_0 100 (karr 256 (kint .u8)) p2.firm, RowF w1_1 102 k_disk_write p2.loose] → q.holds ok w0) (d0 : ∀ c, c ∈ idsOf [BF b00 70 (ko_journal_Journal_0 (.pointer (some ⟨b01, 0, none⟩))) (⟨(), p1.area, p1.bytes, p1.l⟩ : journal_Journal), BF b01 68 (ko_disk_Disk_0_1 w1_0 w1_1) (⟨[], [], p2.fuse, p2.dead⟩ : disk_Disk), RowF w1_0 100 (karr 256 (kint .u8)) p2.firm, RowF w1_1 102 k_disk_write p2.loose] → ¬ ok c) (nd : (idsOf [BF b00 70 (ko_journal_Journal_0 (.pointer (some ⟨b01, 0, none⟩))) (⟨(), p1.area, p1.bytes, p1.l⟩ : journal_Journal), BF b01 68 (ko_disk_Disk_0_1 w1_0 w1_1) (⟨[], [], p2.fuse, p2.dead⟩ : disk_Disk), RowF w1_0 100 (karr 256 (kint .u8)) p2.firm, RowF w1_1 102 k_disk_write p2.loose]).Nodup) (u0 : (ptrB b00 0).holds ok w0 z0) :
 GivesX Tryd.prog 13 [z0] ok w0 [BF b00 70 (ko_journal_Journal_0 (.pointer (some ⟨b01, 0, none⟩))) (⟨(), p1.area, p1.bytes, p1.l⟩ : journal_Journal), BF b01 68 (ko_disk_Disk_0_1 w1_0 w1_1) (⟨[], [], p2.fuse, p2.dead⟩ : disk_Disk), RowF w1_0 100 (karr 256 (kint .u8)) p2.firm, RowF w1_1 102 k_disk_write p2.loose] (fun g : Unit => resFact [(ksl kstr).V r]) (fun g : Unit => [BF b00 70 (ko_journal_Journal_0 (.pointer (some ⟨b01, 0, none⟩))) (⟨(), p1.area, p1.bytes, p1.l⟩ : journal_Journal), BF b01 68 (ko_disk_Disk_0_1 w1_0 w1_1) (⟨[], [], p2.fuse, p2.dead⟩ : disk_Disk), RowF w1_0 100 (karr 256 (kint .u8)) p2.firm, RowF w1_1 102 k_disk_write p2.loose]) := by
 unfold journal_Journal_Records at h0
 refine enterX (N := 10) Tryd.func13 rfl rfl (of_decide_eq_true rfl) (.cons u0 .nil) nd l0 d0 fun a1 s1 => ?_
 refine wp_seq_k fun K1 hK1 => wp_region_lit (qs s1 (.c1 rfl (ob_assign rfl opd_is) .cz) fun _ _ s2 => ?_); clear s1
 have s3 := St.adopt s2 (G := RowF (nilRow 8) 9 kstr []) rfl (rowNilN _ _ _ _ _); clear s2
 refine wn hK1 ?_
 have s4 := s3.sub (u 0 rfl .nil); clear s3
 have s5 := St.drop (A := []) s4; clear s4
 refine wp_seq_k fun K2 hK2 => wp_seq_k fun K3 hK3 => ?_
 refine wp_region_lit (qs s5 (.c1 rfl (mv rfl rfl) (.c1 rfl (ob_ptrNil (p := some _) rfl pt26 (.tmp rfl) opd_is) (.ce (u 0 rfl (u 4 rfl .nil))))) fun _ _ s8 => wn hK3 ?_); clear s5
 refine cond_f s8 (.tmp rfl) ?_
 refine wp_skip ?_
 refine then_normal (hK2 _ _ ?_)
 have s9 := s8.sub (u 0 rfl .nil); clear s8
 obtain ⟨x1, e_x1, h1⟩ := bind_some h0; clear h0
 refine wp_seq_k fun K4 hK4 => wp_region_lit (qs s9 (.c1 rfl (mv rfl rfl) (.c1 rfl (ob_nilCheck rfl (.tmp rfl)) (.c1 rfl (ob_fieldAddr (off' := 3) rfl Tryd.underlying70 rfl sz30 (by decide) (.tmp rfl) rfl) (.c1 rfl (ob_load rfl tk30 (.tmp rfl) (.head _) (lgo_journal_Journal_0_l (⟨(), p1.area, p1.bytes, p1.l⟩ : journal_Journal))) .cz)))) fun _ _ s13 => ?_); clear s9
 refine qx (B' := (fun v1 : Value => [RowF v1 9 kstr x1, BF b00 70 (ko_journal_Journal_0 (.pointer (some ⟨b01, 0, none⟩))) (⟨(), p1.area, p1.bytes, p1.l⟩ : journal_Journal), BF b01 68 (ko_disk_Disk_0_1 w1_0 w1_1) (⟨[], [], p2.fuse, p2.dead⟩ : disk_Disk), RowF w1_0 100 (karr 256 (kint .u8)) p2.firm, RowF w1_1 102 k_disk_write p2.loose])) s13 rfl (ob_callL0 (args := [_]) (L := []) rfl .direct hb44 (List.Perm.refl _) (fun a w s => by exact c_slices_Clone_string_string k _ _ e_x1 _ _ _ (s.arg (.tmp rfl))) (by exact fun _ => rfl)) fun v1 _ _ s14 => ?_; clear s13
 refine qs s14 (.c1 rfl (ob_assign rfl (.tmp rfl)) (.ce (u 2 rfl .nil))) fun _ _ s16 => wn hK4 ?_; clear s14
 refine wp_ret ?_
 have s17 := St.freezeAllM (A := []) s16 (ts := [2]) (.cons rfl .nil); clear s16
 obtain rfl := Option.some.inj h1
 exact leaveXD (D := []) () s17 rfl (.inl rfl) rfl (.cons (.tmp rfl) .nil) rfl
theorem c_cabalref13_Same (k : Nat) (p1 : (List (List Int))) (p2 : (List (List Int))) (r : Bool) (h0 : cabalref13_Same k p1 p2 = some r) (ok : Ok) (w0 : World) (z0 : Value) (z1 : Value) (u0 : ((ksl kstr).V p1).holds ok w0 z0) (u1 : ((ksl kstr).V p2).holds ok w0 z1) :
 Gives Tryd.prog 12 [z0, z1] ok w0 (resFact [kbool.V r]) := by
 unfold cabalref13_Same at h0
 refine enter (N := 26) Tryd.func12 rfl rfl (of_decide_eq_true rfl) (.cons u0 (.cons u1 .nil)) fun a1 s1 => ?_
 refine wp_seq_k fun K1 hK1 => wp_region_lit (qs s1 (.c1 rfl (ob_assign rfl opd_bool) (.ce (u 0 rfl (u 1 rfl .nil)))) fun _ _ s3 => wn hK1 ?_); clear s1
 refine wp_seq_k fun K2 hK2 => wp_seq_k fun K3 hK3 => ?_
 refine wp_region_lit (qs s3 (.c1 rfl (mv rfl rfl) (.c1 rfl (ob_lens rfl Tryd.underlying30 (.tmp rfl)) (.c1 rfl (mv rfl rfl) (.c1 rfl (ob_lens rfl Tryd.underlying30 (.tmp rfl)) (.c1 rfl (ob_neq rfl (.tmp rfl) (.tmp rfl)) (.ce (u 0 rfl (u 1 rfl (u 10 rfl .nil))))))))) fun _ _ s9 => wn hK3 ?_); clear s3
 refine cond_split s9 (.tmp rfl) (fun hc1 => ?_) (fun hc1 => ?_)
 ·have h1 := ite_t hc1 h0; clear h0
  refine wp_seq_k fun K4 hK4 => wp_region_lit (qs s9 (.c1 rfl (ob_assign rfl opd_bool) (.ce (u 4 rfl .nil))) fun _ _ s11 => wn hK4 ?_); clear s9
  refine wp_ret ?_
  obtain rfl := Option.some.inj h1
  exact leave s11 (.inl rfl) rfl (.cons (.tmp rfl) .nil)
 ·have h2 := ite_f hc1 h0; clear h0
  refine wp_skip ?_
  refine then_normal (hK2 _ _ ?_)
  have s12 := s9.sub (u 0 rfl (u 1 rfl .nil)); clear s9
  refine wp_seq_k fun K5 hK5 => wp_seq_k fun K6 hK6 => ?_
  refine wp_region_lit (qs s12 (.c1 rfl (ob_assign rfl (opd_int rfl)) (.ce (u 0 rfl (u 1 rfl (u 5 rfl .nil))))) fun _ _ s14 => wn hK6 ?_); clear s12
  have hj1 : ∀ (a : Act) (w : World), (cabalref13_Same.j1 k) = some r → St ⟨26, w0, ok, []⟩ [] [] a w → K5 a w := by
   intro a15 w15 h3 s15
   unfold cabalref13_Same.j1 at h3
   refine hK5 _ _ ?_
   refine wp_seq_k fun K7 hK7 => wp_region_lit (qs s15 (.c1 rfl (ob_assign rfl opd_bool) (.ce (u 4 rfl .nil))) fun _ _ s17 => wn hK7 ?_); clear s15
   refine wp_ret ?_
   obtain rfl := Option.some.inj h3
   exact leave s17 (.inl rfl) rfl (.cons (.tmp rfl) .nil)
  refine wp_block ?_
  refine wp_loop_fuel (fun m (q : Int) => cabalref13_Same.l1 k p1 p2 m q) r (fun _ => rfl) (fun q a w => St ⟨26, w0, ok, []⟩ [] [(0, ((ksl kstr).V p1)), (1, ((ksl kstr).V p2)), (5, ((kint .i64).V q))] a w) ?_ k (0 : Int) _ _ h2 (s14.sub (.cons rfl (.cons rfl (.cons rfl .nil))))
  rintro n1 y1 a18 w18 h4 s18 K8 hK8
  replace h4 : cabalref13_Same.l1 k p1 p2 (n1 + 1) y1 = some r := h4; rw [cabalref13_Same.l1] at h4
  have h5 := h4; clear h4
  refine wp_seq_k fun K9 hK9 => wp_seq_k fun K10 hK10 => ?_
  refine wp_region_lit (qs s18 (.c1 rfl (mv rfl rfl) (.c1 rfl (mv rfl rfl) (.c1 rfl (ob_lens rfl Tryd.underlying30 (.tmp rfl)) (.c1 rfl (ob_lss rfl (.tmp rfl) (.tmp rfl)) (.ce (u 0 rfl (u 1 rfl (u 5 rfl (u 14 rfl .nil))))))))) fun _ _ s23 => wn hK10 ?_); clear s18
  refine cond_split s23 (.tmp rfl) (fun hc2 => ?_) (fun hc2 => ?_)
  ·have h6 := ite_t hc2 h5; clear h5
   refine wp_skip ?_
   refine then_normal (hK9 _ _ ?_)
   have s24 := s23.sub (u 0 rfl (u 1 rfl (u 5 rfl .nil))); clear s23
   refine wp_seq_k fun K11 hK11 => wp_block ?_
   refine wp_seq_k fun K12 hK12 => ?_
   obtain ⟨x1, e_x1, h7⟩ := bind_some h6; clear h6
   obtain ⟨x2, e_x2, h8⟩ := bind_some h7; clear h7
   refine wp_goes (Fs := [((ksl kstr).V p1), ((kint .i64).V y1), (ptrTo kstr x1), (kstr.V x1), ((ksl kstr).V p2), ((kint .i64).V y1), (ptrTo kstr x2), (kstr.V x2)]) (bits := [0, 0, 3, 7, 0, 0, 48, 112, 255]) (m := 8) (todo := 0) mx s24 ?_; clear s24
   refine goes_last (by kernel_rfl) rfl (oc (av 0 rfl rfl Av.nil) rfl rfl (mv rfl rfl) (oc (av 5 rfl rfl Av.nil) rfl rfl (mv rfl rfl) (oc (an 0 rfl rfl rfl (an 1 rfl rfl rfl Av.nil)) rfl rfl (ob_indexAddrs rfl Tryd.underlying30 sz9 (.tmp rfl) (.tmp rfl) e_x1) (oc (an 2 rfl rfl rfl Av.nil) rfl rfl (ob_loadr rfl tk9 (.tmp rfl)) (oc (av 1 rfl rfl Av.nil) rfl rfl (mv rfl rfl) (oc (av 5 rfl rfl Av.nil) rfl rfl (mv rfl rfl) (oc (an 4 rfl rfl rfl (an 5 rfl rfl rfl Av.nil)) rfl rfl (ob_indexAddrs rfl Tryd.underlying30 sz9 (.tmp rfl) (.tmp rfl) e_x2) (oc (an 6 rfl rfl rfl Av.nil) rfl rfl (ob_loadr rfl tk9 (.tmp rfl)) opsS_nil)))))))) (out_old (t := 0) rfl rfl (out_old (t := 1) rfl rfl (out_old (t := 5) rfl rfl (out_new (i := 3) (by decide) rfl rfl (out_new (i := 7) (by decide) rfl rfl out_nil))))) fun _ _ s25 => ?_
   refine qs s25 (.c1 rfl (ob_sneq rfl (.tmp rfl) (.tmp rfl)) (.ce (u 0 rfl (u 1 rfl (u 5 rfl (u 25 rfl .nil)))))) fun _ _ s27 => wn hK12 ?_; clear s25
   refine cond_split s27 (.tmp rfl) (fun hc3 => ?_) (fun hc3 => ?_)
   ·have h9 := ite_t hc3 h8; clear h8
    refine wp_seq_k fun K13 hK13 => wp_region_lit (qs s27 (.c1 rfl (ob_assign rfl opd_bool) (.ce (u 4 rfl .nil))) fun _ _ s29 => wn hK13 ?_); clear s27
    refine wp_ret ?_
    obtain rfl := Option.some.inj h9
    exact leave s29 (.inl rfl) rfl (.cons (.tmp rfl) .nil)
   ·have h10 := ite_f hc3 h8; clear h8
    refine wp_skip ?_
    refine in_normal ?_
    refine then_normal (hK11 _ _ ?_)
    have s30 := s27.sub (u 0 rfl (u 1 rfl (u 5 rfl .nil))); clear s27
    refine wp_region_lit (qs s30 (.c1 rfl (mv rfl rfl) (.c1 rfl (ob_add rfl (.tmp rfl) (opd_int rfl)) (.c1 rfl (ob_assign rfl (.tmp rfl)) .cz))) fun _ _ s33 => ?_); clear s30
    refine wpList_nil ?_
    refine then_normal ?_
    exact hK8 (iadd .i64 y1 (1 : Int)) _ _ h10 (s33.sub (.cons rfl (.cons rfl (.cons rfl .nil))))
  ·have h11 := ite_f hc2 h5; clear h5
   refine wp_exit ?_
   refine (then_exit (then_exit (in_here ?_)))
   refine then_normal ?_
   exact hj1 _ _ h11 (s23.sub .nil)
theorem c_caballaw13_alive (k : Nat) (r : Bool) (h0 : caballaw13_alive k = some r) (ok : Ok) (w0 : World) (gl0 : (ptrTo (karr 8 (kint .u32)) G_digest_first).holds ok w0 (.pointer (some ⟨0, 0, none⟩))) (gl1 : (ptrTo (karr 64 (kint .u32)) G_digest_rounds).holds ok w0 (.pointer (some ⟨1, 0, none⟩))) :
 Gives Tryd.prog 6 [] ok w0 (resFact [kbool.V r]) := by
 unfold caballaw13_alive at h0
 refine enter (N := 46) Tryd.func6 rfl rfl (of_decide_eq_true rfl) .nil fun a1 s1 => ?_
 have s2 := s1.keepKnown 100000 gl0 okIn; clear s1
 have s3 := s2.keepKnown 100001 gl1 okIn; clear s2
 refine wp_seq_k fun K1 hK1 => wp_region_lit (qs s3 (.c1 rfl (ob_assign rfl opd_bool) (.ce (u 100000 rfl (u 100001 rfl .nil)))) fun _ _ s5 => wn hK1 ?_); clear s3
 refine wp_seq_k fun K2 hK2 => wp_region_lit ?_
 obtain ⟨x1, e_x1, h1⟩ := bind_some h0; clear h0
 refine qx (B' := (fun gg : Nat × Value × Value => [BF gg.1 68 (ko_disk_Disk_0_1 gg.2.1 gg.2.2) (⟨[], [], x1.fuse, x1.dead⟩ : disk_Disk), RowF gg.2.1 100 (karr 256 (kint .u8)) x1.firm, RowF gg.2.2 102 k_disk_write x1.loose])) s5 rfl (ob_callL0 (args := [_]) (L := []) rfl .direct hb7 (List.Perm.refl _) (fun a w s => by exact c_disk_New k _ _ e_x1 _ _ _ (s.arg (opd_int rfl))) (by exact fun _ => rfl)) fun gg6 _ _ s6 => ?_; clear s5
 obtain ⟨b1, v1, v2⟩ := gg6
 refine qs s6 (.c1 rfl (ob_assign rfl (.tmp rfl)) (.ce (u 1 rfl (u 100000 rfl (u 100001 rfl .nil))))) fun _ _ s8 => wn hK2 ?_; clear s6
 obtain ⟨x2, e_x2, h2⟩ := bind_some h1; clear h1
 refine wp_seq_k fun K3 hK3 => wp_region_lit (qs s8 (.c1 rfl (mv rfl rfl) .cz) fun _ _ s9 => ?_); clear s8
 refine qx (B' := (fun gg : Nat × Value × Value => [whenO x2.1 (BF gg.1 70 (ko_journal_Journal_0 (.pointer (some ⟨b1, 0, none⟩))) (⟨(), x2.2.1.area, x2.2.1.bytes, x2.2.1.l⟩ : journal_Journal)), BF b1 68 (ko_disk_Disk_0_1 gg.2.1 gg.2.2) (⟨[], [], x2.2.2.2.fuse, x2.2.2.2.dead⟩ : disk_Disk), RowF gg.2.1 100 (karr 256 (kint .u8)) x2.2.2.2.firm, RowF gg.2.2 102 k_disk_write x2.2.2.2.loose])) s9 rfl (ob_callL0 (args := [_]) (L := [_, _, _]) rfl .direct hb8 (List.Perm.refl _) (fun a w s => by exact c_journal_Open k _ _ e_x2 _ _ (s.env _ _ (show get _ 100000 = _ from rfl)) (s.env _ _ (show get _ 100001 = _ from rfl)) _ _ _ _ (ownL s) (disL s) (nodL s) (s.arg (.tmp rfl))) (by exact fun _ => rfl)) fun gg10 _ _ s10 => ?_; clear s9
 obtain ⟨b2, v3, v4⟩ := gg10
 refine qs s10 (.c1 rfl (mv rfl rfl) (.c1 rfl (ob_extract rfl (.tmp rfl) rfl) (.c1 rfl (ob_extract rfl (.tmp rfl) rfl) (.c1 rfl (ob_assign rfl (.tmp rfl)) (.c1 rfl (ob_assign rfl (.tmp rfl)) .cz))))) fun _ _ s15 => ?_; clear s10
 refine wpList_nil ?_
 refine bool_split x2.1 (fun hc1 => ?_) (fun hc1 => ?_)
 ·have h3 := ite_t hc1 h2; clear h2
  have s16 := St.whenT hc1 s15; clear s15
  have s17 := St.optT (t := 10) hc1 rfl s16; clear s16
  have s18 := St.optT (t := 2) hc1 rfl s17; clear s17
  refine then_normal (hK3 _ _ ?_)
  have s19 := s18.sub (u 1 rfl (u 2 rfl (u 3 rfl (u 100000 rfl (u 100001 rfl .nil))))); clear s18
  refine wp_seq_k fun K4 hK4 => wp_seq_k fun K5 hK5 => ?_
  obtain ⟨x3, e_x3, h4⟩ := bind_some h3; clear h3
  refine wp_region_lit (qs s19 (.c1 rfl (mv rfl rfl) (.c1 rfl (ob_neq rfl (.tmp rfl) (opd_int rfl)) (.c1 rfl (mv rfl rfl) (.cg rfl rfl rfl rfl (fun hb => ob_move rfl (.tmp rfl)) (.cg rfl rfl rfl rfl (fun hb => (Ob.uncond (t := 15) hb rfl (ob_ptrNil (p := some _) rfl pt26 (.tmp rfl) opd_is))) (.c1 rfl (ob_or2 rfl (.tmp rfl) opd_bool (.tmp rfl)) (.c1 rfl (mv rfl rfl) (.cg rfl rfl rfl rfl (fun hb => ob_move rfl (.tmp rfl)) (.cg rfl rfl rfl rfl (fun hb => ob_mkSlice (k := kstr) (xs := ([([97] : List Int), ([98, 99] : List Int)] : (List (List Int)))) rfl Tryd.underlying30 zz9 sz9 Zr.str (by decide) (by decide) (.cons (opd_str (by rfl) (by decide)) rfl (LS.arr' (i := 0) (ys := ([([97] : List Int), []] : (List (List Int)))) (by simp) (by rfl)) (.cons (opd_str (by rfl) (by decide)) rfl (LS.arr' (i := 1) (ys := ([([97] : List Int), ([98, 99] : List Int)] : (List (List Int)))) (by simp) (by rfl)) (.nil _)))) .cz))))))))) fun _ _ s28 => ?_); clear s19
  refine seq_opxg (B1 := (fun gg : Value × Value => [BF b2 70 (ko_journal_Journal_0 (.pointer (some ⟨b1, 0, none⟩))) (⟨(), x3.2.1.area, x3.2.1.bytes, x3.2.1.l⟩ : journal_Journal), BF b1 68 (ko_disk_Disk_0_1 gg.1 gg.2) (⟨[], [], x3.2.2.fuse, x3.2.2.dead⟩ : disk_Disk), RowF gg.1 100 (karr 256 (kint .u8)) x3.2.2.firm, RowF gg.2 102 k_disk_write x3.2.2.loose])) s28 rfl rfl rfl rfl (of_decide_eq_true rfl) (fun hb => (ObX.uncond (t := 20) hb rfl ((ObX.uncond (t := 19) hb rfl (ob_callL0 (args := [_, _]) (L := [_, _, _, _]) rfl .direct hb11 (List.Perm.refl _) (fun a w s => by exact c_journal_Journal_Append k _ _ _ _ (ite_t hb e_x3) _ _ (s.env _ _ (show get _ 100000 = _ from rfl)) (s.env _ _ (show get _ 100001 = _ from rfl)) _ _ _ _ _ _ (ownL s) (disL s) (nodL s) (s.arg (.tmp rfl)) (s.arg (.tmp rfl))) (by exact fun _ => rfl)))))) (fun hb0 => by obtain rfl := Option.some.inj (ite_f hb0 e_x3); exact ⟨⟨v3, v4⟩, rfl⟩) fun gg29 a29 w29 s29 => ?_; clear s28
  obtain ⟨v5, v6⟩ := gg29
  obtain ⟨x4, e_x4, h5⟩ := bind_some h4; clear h4; replace e_x4 := Option.some.inj e_x4
  refine qs s29 (.cg rfl rfl rfl rfl (fun hb => (Ob.uncond (t := 21) hb rfl (ob_neq rfl (.tmp rfl) (opd_int rfl)))) (.c1 rfl ((ob_or2 rfl (.tmp rfl) opd_bool (.tmp rfl)).nm e_x4) (.ce (u 1 rfl (u 2 rfl (u 23 rfl (u 100000 rfl (u 100001 rfl .nil)))))))) fun _ _ s32 => wn hK5 ?_; clear s29
  refine cond_split s32 (.tmp rfl) (fun hc2 => ?_) (fun hc2 => ?_)
  ·have h6 := ite_t hc2 h5; clear h5
   refine wp_seq_k fun K6 hK6 => wp_region_lit (qs s32 (.c1 rfl (ob_assign rfl opd_bool) (.ce (u 0 rfl (u 100000 rfl (u 100001 rfl .nil))))) fun _ _ s34 => wn hK6 ?_); clear s32
   have s35 := St.drop (A := []) s34; clear s34
   have s36 := St.drop (A := []) s35; clear s35
   have s37 := St.drop (A := []) s36; clear s36
   have s38 := St.drop (A := []) s37; clear s37
   refine wp_ret ?_
   obtain rfl := Option.some.inj h6
   exact leave s38 (.inl rfl) rfl (.cons (.tmp rfl) .nil)
  ·have h7 := ite_f hc2 h5; clear h5
   refine wp_skip ?_
   refine then_normal (hK4 _ _ ?_)
   have s39 := s32.sub (u 1 rfl (u 2 rfl (u 100000 rfl (u 100001 rfl .nil)))); clear s32
   obtain ⟨x5, e_x5, h8⟩ := bind_some h7; clear h7
   refine wp_seq_k fun K7 hK7 => wp_region_lit (qs s39 (.c1 rfl (mv rfl rfl) .cz) fun _ _ s40 => ?_); clear s39
   refine qx (B' := (fun gg : Nat × Value × Value => [whenO x5.1 (BF gg.1 70 (ko_journal_Journal_0 (.pointer (some ⟨b1, 0, none⟩))) (⟨(), x5.2.1.area, x5.2.1.bytes, x5.2.1.l⟩ : journal_Journal)), BF b1 68 (ko_disk_Disk_0_1 gg.2.1 gg.2.2) (⟨[], [], x5.2.2.2.fuse, x5.2.2.2.dead⟩ : disk_Disk), RowF gg.2.1 100 (karr 256 (kint .u8)) x5.2.2.2.firm, RowF gg.2.2 102 k_disk_write x5.2.2.2.loose, BF b2 70 (ko_journal_Journal_0 (.pointer (some ⟨b1, 0, none⟩))) (⟨(), x3.2.1.area, x3.2.1.bytes, x3.2.1.l⟩ : journal_Journal)])) s40 rfl (ob_callL0 (args := [_]) (L := [_, _, _]) rfl .direct hb8 (toFront [_] (toFront [_] (toFront [_] (List.Perm.refl _)))) (fun a w s => by exact c_journal_Open k _ _ e_x5 _ _ (s.env _ _ (show get _ 100000 = _ from rfl)) (s.env _ _ (show get _ 100001 = _ from rfl)) _ _ _ _ (ownL s) (disL s) (nodL s) (s.arg (.tmp rfl))) (by exact fun _ => rfl)) fun gg41 _ _ s41 => ?_; clear s40
   obtain ⟨b3, v7, v8⟩ := gg41
   refine qs s41 (.c1 rfl (mv rfl rfl) (.c1 rfl (ob_extract rfl (.tmp rfl) rfl) (.c1 rfl (ob_extract rfl (.tmp rfl) rfl) (.c1 rfl (ob_assign rfl (.tmp rfl)) (.c1 rfl (ob_assign rfl (.tmp rfl)) .cz))))) fun _ _ s46 => ?_; clear s41
   refine wpList_nil ?_
   refine bool_split x5.1 (fun hc3 => ?_) (fun hc3 => ?_)
   ·have h9 := ite_t hc3 h8; clear h8
    have s47 := St.whenT hc3 s46; clear s46
    have s48 := St.optT (t := 27) hc3 rfl s47; clear s47
    have s49 := St.optT (t := 4) hc3 rfl s48; clear s48
    refine then_normal (hK7 _ _ ?_)
    have s50 := s49.sub (u 2 rfl (u 4 rfl (u 5 rfl (u 100000 rfl (u 100001 rfl .nil))))); clear s49
    obtain ⟨x6, e_x6, h10⟩ := bind_some h9; clear h9
    refine wp_seq_k fun K8 hK8 => wp_region_lit (qs s50 (.c1 rfl (mv rfl rfl) (.c1 rfl (ob_eql rfl (.tmp rfl) (opd_int rfl)) (.c1 rfl (mv rfl rfl) (.cg rfl rfl rfl rfl (fun hb => ob_move rfl (.tmp rfl)) (.cg rfl rfl rfl rfl (fun hb => (Ob.uncond (t := 32) hb rfl (ob_ptrNotNil (p := some _) rfl pt26 (.tmp rfl) opd_is))) (.c1 rfl (ob_and2 rfl (.tmp rfl) (.tmp rfl) opd_bool) (.c1 rfl (mv rfl rfl) (.cg rfl rfl rfl rfl (fun hb => ob_move rfl (.tmp rfl)) .cz)))))))) fun _ _ s58 => ?_); clear s50
    refine seq_opxg (B1 := (fun _ : Unit => [BF b3 70 (ko_journal_Journal_0 (.pointer (some ⟨b1, 0, none⟩))) (⟨(), x5.2.1.area, x5.2.1.bytes, x5.2.1.l⟩ : journal_Journal), BF b1 68 (ko_disk_Disk_0_1 v7 v8) (⟨[], [], x5.2.2.2.fuse, x5.2.2.2.dead⟩ : disk_Disk), RowF v7 100 (karr 256 (kint .u8)) x5.2.2.2.firm, RowF v8 102 k_disk_write x5.2.2.2.loose, BF b2 70 (ko_journal_Journal_0 (.pointer (some ⟨b1, 0, none⟩))) (⟨(), x3.2.1.area, x3.2.1.bytes, x3.2.1.l⟩ : journal_Journal)])) s58 rfl rfl rfl rfl (of_decide_eq_true rfl) (fun hb => (ObX.uncond (t := 36) hb rfl (ob_callL0 (args := [_]) (L := [_, _, _, _]) rfl .direct hb13 (List.Perm.refl _) (fun a w s => by exact c_journal_Journal_Records k _ _ _ (ite_t hb e_x6) _ _ _ _ _ _ _ (ownL s) (disL s) (nodL s) (s.arg (.tmp rfl))) (by exact fun _ => rfl)))) (fun hb0 => by obtain rfl := Option.some.inj (ite_f hb0 e_x6); exact ⟨(), rfl⟩) fun _ a59 w59 s59 => ?_; clear s58
    obtain ⟨x7, e_x7, h11⟩ := bind_some h10; clear h10
    obtain ⟨x8, e_x8, h12⟩ := bind_some h11; clear h11; replace e_x8 := Option.some.inj e_x8
    refine qs s59 (.cg rfl rfl rfl rfl (fun hb => ob_mkSlice (k := kstr) (xs := ([([97] : List Int), ([98, 99] : List Int)] : (List (List Int)))) rfl Tryd.underlying30 zz9 sz9 Zr.str (by decide) (by decide) (.cons (opd_str (by rfl) (by decide)) rfl (LS.arr' (i := 0) (ys := ([([97] : List Int), []] : (List (List Int)))) (by simp) (by rfl)) (.cons (opd_str (by rfl) (by decide)) rfl (LS.arr' (i := 1) (ys := ([([97] : List Int), ([98, 99] : List Int)] : (List (List Int)))) (by simp) (by rfl)) (.nil _)))) (.cg rfl rfl rfl rfl (fun hb => (Ob.uncond (t := 38) hb rfl ((Ob.uncond (t := 37) hb rfl (ob_callD0 (args := [_, _]) rfl .direct hb12 (fun a w s => by exact c_cabalref13_Same k _ _ _ (ite_t hb e_x7) _ _ _ _ (s.arg (.tmp rfl)) (s.arg (.tmp rfl)))))))) (.c1 rfl ((ob_and2 rfl (.tmp rfl) (.tmp rfl) opd_bool).nm e_x8) (.c1 rfl (mv rfl rfl) (.cg rfl rfl rfl rfl (fun hb => ob_move rfl (.tmp rfl)) .cz))))) fun _ _ s64 => ?_; clear s59
    have s65 := s64.perm (toFront [_, _, _, _] (toFront [_] (toFront [_] (toFront [_] (List.Perm.refl _))))); clear s64
    obtain ⟨x9, e_x9, h13⟩ := bind_some h12; clear h12
    refine seq_opxg (B1 := (fun _ : Unit => [BF b2 70 (ko_journal_Journal_0 (.pointer (some ⟨b1, 0, none⟩))) (⟨(), x3.2.1.area, x3.2.1.bytes, x3.2.1.l⟩ : journal_Journal), BF b1 68 (ko_disk_Disk_0_1 v7 v8) (⟨[], [], x5.2.2.2.fuse, x5.2.2.2.dead⟩ : disk_Disk), RowF v7 100 (karr 256 (kint .u8)) x5.2.2.2.firm, RowF v8 102 k_disk_write x5.2.2.2.loose, BF b3 70 (ko_journal_Journal_0 (.pointer (some ⟨b1, 0, none⟩))) (⟨(), x5.2.1.area, x5.2.1.bytes, x5.2.1.l⟩ : journal_Journal)])) s65 rfl rfl rfl rfl (of_decide_eq_true rfl) (fun hb => (ObX.uncond (t := 42) hb rfl (ob_callL0 (args := [_]) (L := [_, _, _, _]) rfl .direct hb20 (List.Perm.refl _) (fun a w s => by exact c_journal_Journal_Room k _ _ _ (ite_t hb e_x9) _ _ _ _ _ _ _ (ownL s) (disL s) (nodL s) (s.arg (.tmp rfl))) (by exact fun _ => rfl)))) (fun hb0 => by obtain rfl := Option.some.inj (ite_f hb0 e_x9); exact ⟨(), rfl⟩) fun _ a66 w66 s66 => ?_; clear s65
    refine qs s66 (.cg rfl rfl rfl rfl (fun hb => (Ob.uncond (t := 43) hb rfl (ob_eql rfl (.tmp rfl) (opd_int rfl)))) (.c1 rfl (ob_and2 rfl (.tmp rfl) (.tmp rfl) opd_bool) (.c1 rfl (ob_assign rfl (.tmp rfl)) (.ce (u 0 rfl (u 100000 rfl (u 100001 rfl .nil))))))) fun _ _ s70 => wn hK8 ?_; clear s66
    have s71 := St.drop (A := []) s70; clear s70
    have s72 := St.drop (A := []) s71; clear s71
    have s73 := St.drop (A := []) s72; clear s72
    have s74 := St.drop (A := []) s73; clear s73
    have s75 := St.drop (A := []) s74; clear s74
    refine wp_ret ?_
    obtain rfl := Option.some.inj h13
    exact leave s75 (.inl rfl) rfl (.cons (.tmp rfl) .nil)
   ·have h14 := ite_f hc3 h8; clear h8
    have s76 := St.whenF hc3 s46; clear s46
    have s77 := St.optF (t := 27) hc3 rfl s76; clear s76
    have s78 := St.optF (t := 4) hc3 rfl s77; clear s77
    refine then_normal (hK7 _ _ ?_)
    have s79 := s78.sub (u 2 rfl (u 4 rfl (u 5 rfl (u 100000 rfl (u 100001 rfl .nil))))); clear s78
    refine wp_seq_k fun K9 hK9 => wp_region_lit (qs s79 (.c1 rfl (mv rfl rfl) (.c1 rfl (ob_eql rfl (.tmp rfl) (opd_int rfl)) (.c1 rfl (mv rfl rfl) (.cg rfl rfl rfl rfl (fun hb => ob_move rfl (.tmp rfl)) (.cg rfl rfl rfl rfl (fun hb => (Ob.uncond (t := 32) hb rfl (ob_ptrNotNil (p := none) rfl pt26 (.tmp rfl) opd_is))) (.c1 rfl ((ob_and2 rfl (.tmp rfl) (.tmp rfl) opd_bool).nm (Y := false) (ite_self _)) (.c1 rfl (mv rfl rfl) .cz))))))) fun _ _ s86 => ?_); clear s79
    refine qg (F := (is (.pointer none))) s86 rfl rfl rfl rfl (fun hb => (absurd hb (by decide))) fun _ _ s87 => ?_; clear s86
    refine qg (F := ((ksl kstr).V ([] : (List (List Int))))) s87 rfl rfl rfl rfl (fun hb => (absurd hb (by decide))) fun _ _ s88 => ?_; clear s87
    refine qg (F := ((ksl kstr).V ([] : (List (List Int))))) s88 rfl rfl rfl rfl (fun hb => (absurd hb (by decide))) fun _ _ s89 => ?_; clear s88
    refine qg (F := (kbool.V false)) s89 rfl rfl rfl rfl (fun hb => (absurd hb (by decide))) fun _ _ s90 => ?_; clear s89
    refine qs s90 (.c1 rfl ((ob_and2 rfl (.tmp rfl) (.tmp rfl) opd_bool).nm (Y := false) (ite_self _)) (.c1 rfl (mv rfl rfl) .cz)) fun _ _ s92 => ?_; clear s90
    refine qg (F := (is (.pointer none))) s92 rfl rfl rfl rfl (fun hb => (absurd hb (by decide))) fun _ _ s93 => ?_; clear s92
    refine qg (F := ((kint .i64).V (0 : Int))) s93 rfl rfl rfl rfl (fun hb => (absurd hb (by decide))) fun _ _ s94 => ?_; clear s93
    refine qg (F := (kbool.V false)) s94 rfl rfl rfl rfl (fun hb => (absurd hb (by decide))) fun _ _ s95 => ?_; clear s94
    refine qs s95 (.c1 rfl ((ob_and2 rfl (.tmp rfl) (.tmp rfl) opd_bool).nm (Y := false) (ite_self _)) (.c1 rfl (ob_assign rfl (.tmp rfl)) (.ce (u 0 rfl (u 100000 rfl (u 100001 rfl .nil)))))) fun _ _ s98 => wn hK9 ?_; clear s95
    have s99 := St.drop (A := []) s98; clear s98
    have s100 := St.drop (A := []) s99; clear s99
    have s101 := St.drop (A := []) s100; clear s100
    have s102 := St.drop (A := []) s101; clear s101
    refine wp_ret ?_
    obtain rfl := Option.some.inj h14
    exact leave s102 (.inl rfl) rfl (.cons (.tmp rfl) .nil)
 ·have h15 := ite_f hc1 h2; clear h2
  have s103 := St.whenF hc1 s15; clear s15
  have s104 := St.optF (t := 10) hc1 rfl s103; clear s103
  have s105 := St.optF (t := 2) hc1 rfl s104; clear s104
  refine then_normal (hK3 _ _ ?_)
  have s106 := s105.sub (u 1 rfl (u 2 rfl (u 3 rfl (u 100000 rfl (u 100001 rfl .nil))))); clear s105
  refine wp_seq_k fun K10 hK10 => wp_seq_k fun K11 hK11 => ?_
  refine wp_region_lit (qs s106 (.c1 rfl (mv rfl rfl) (.c1 rfl (ob_neq rfl (.tmp rfl) (opd_int rfl)) (.c1 rfl (mv rfl rfl) (.cg rfl rfl rfl rfl (fun hb => ob_move rfl (.tmp rfl)) (.cg rfl rfl rfl rfl (fun hb => (Ob.uncond (t := 15) hb rfl (ob_ptrNil (p := none) rfl pt26 (.tmp rfl) opd_is))) (.c1 rfl ((ob_or2 rfl (.tmp rfl) opd_bool (.tmp rfl)).nm (Y := true) (ite_self _)) (.c1 rfl (mv rfl rfl) .cz))))))) fun _ _ s113 => ?_); clear s106
  refine qg (F := (is (.pointer none))) s113 rfl rfl rfl rfl (fun hb => (absurd hb (by decide))) fun _ _ s114 => ?_; clear s113
  refine qg (F := ((ksl kstr).V ([] : (List (List Int))))) s114 rfl rfl rfl rfl (fun hb => (absurd hb (by decide))) fun _ _ s115 => ?_; clear s114
  refine qg (F := ((kint .i64).V (0 : Int))) s115 rfl rfl rfl rfl (fun hb => (absurd hb (by decide))) fun _ _ s116 => ?_; clear s115
  refine qg (F := (kbool.V false)) s116 rfl rfl rfl rfl (fun hb => (absurd hb (by decide))) fun _ _ s117 => ?_; clear s116
  refine qs s117 (.c1 rfl ((ob_or2 rfl (.tmp rfl) opd_bool (.tmp rfl)).nm (Y := true) (by rfl)) (.ce (u 1 rfl (u 2 rfl (u 23 rfl (u 100000 rfl (u 100001 rfl .nil))))))) fun _ _ s119 => wn hK11 ?_; clear s117
  refine cond_t s119 (.tmp rfl) ?_
  refine wp_seq_k fun K12 hK12 => wp_region_lit (qs s119 (.c1 rfl (ob_assign rfl opd_bool) (.ce (u 0 rfl (u 100000 rfl (u 100001 rfl .nil))))) fun _ _ s121 => wn hK12 ?_); clear s119
  have s122 := St.drop (A := []) s121; clear s121
  have s123 := St.drop (A := []) s122; clear s122
  have s124 := St.drop (A := []) s123; clear s123
  refine wp_ret ?_
  obtain rfl := Option.some.inj h15
  exact leave s124 (.inl rfl) rfl (.cons (.tmp rfl) .nil)
theorem c_caballaw13_great (k : Nat) (p1 : (List (List Int))) (r : Bool) (h0 : caballaw13_great k p1 = some r) (ok : Ok) (w0 : World) (z0 : Value) (u0 : ((ksl kstr).V p1).holds ok w0 z0) :
 Gives Tryd.prog 9 [z0] ok w0 (resFact [kbool.V r]) := by
 unfold caballaw13_great at h0
 refine enter (N := 30) Tryd.func9 rfl rfl (of_decide_eq_true rfl) (.cons u0 .nil) fun a1 s1 => ?_
 refine wp_seq_k fun K1 hK1 => wp_region_lit (qs s1 (.c1 rfl (ob_assign rfl opd_bool) (.ce (u 0 rfl .nil))) fun _ _ s3 => wn hK1 ?_); clear s1
 refine wp_seq_k fun K2 hK2 => wp_region_lit (qs s3 (.c1 rfl (ob_assign rfl (opd_int rfl)) (.ce (u 0 rfl (u 3 rfl .nil)))) fun _ _ s5 => wn hK2 ?_); clear s3
 refine wp_seq_k fun K3 hK3 => wp_seq_k fun K4 hK4 => ?_
 refine wp_region_lit (qs s5 (.c1 rfl (ob_assign rfl (opd_int rfl)) (.ce (u 0 rfl (u 3 rfl (u 4 rfl .nil))))) fun _ _ s7 => wn hK4 ?_); clear s5
 have hj1 : ∀ (y1 : Int) (a : Act) (w : World), (caballaw13_great.j1 k) y1 = some r → St ⟨30, w0, ok, []⟩ [] [(3, ((kint .i64).V y1))] a w → K3 a w := by
  intro y1 a8 w8 h1 s8
  unfold caballaw13_great.j1 at h1
  refine hK3 _ _ ?_
  refine wp_seq_k fun K5 hK5 => wp_region_lit (qs s8 (.c1 rfl (mv rfl rfl) (.c1 rfl (ob_gtr rfl (.tmp rfl) (opd_int rfl)) (.c1 rfl (ob_assign rfl (.tmp rfl)) (.ce (u 2 rfl .nil))))) fun _ _ s12 => wn hK5 ?_); clear s8
  refine wp_ret ?_
  obtain rfl := Option.some.inj h1
  exact leave s12 (.inl rfl) rfl (.cons (.tmp rfl) .nil)
 refine wp_block ?_
 refine wp_loop_fuel (fun m (q : Int × Int) => caballaw13_great.l1 k p1 m q.1 q.2) r (fun _ => rfl) (fun q a w => St ⟨30, w0, ok, []⟩ [] [(0, ((ksl kstr).V p1)), (3, ((kint .i64).V q.1)), (4, ((kint .i64).V q.2))] a w) ?_ k ((0 : Int), (0 : Int)) _ _ h0 (s7.sub (.cons rfl (.cons rfl (.cons rfl .nil))))
 rintro n1 ⟨y2, y3⟩ a13 w13 h2 s13 K6 hK6
 replace h2 : caballaw13_great.l1 k p1 (n1 + 1) y2 y3 = some r := h2; rw [caballaw13_great.l1] at h2
 have h3 := h2; clear h2
 refine wp_seq_k fun K7 hK7 => wp_seq_k fun K8 hK8 => ?_
 refine wp_region_lit (qs s13 (.c1 rfl (mv rfl rfl) (.c1 rfl (mv rfl rfl) (.c1 rfl (ob_lens rfl Tryd.underlying30 (.tmp rfl)) (.c1 rfl (ob_lss rfl (.tmp rfl) (.tmp rfl)) (.ce (u 0 rfl (u 3 rfl (u 4 rfl (u 8 rfl .nil))))))))) fun _ _ s18 => wn hK8 ?_); clear s13
 refine cond_split s18 (.tmp rfl) (fun hc1 => ?_) (fun hc1 => ?_)
 ·have h4 := ite_t hc1 h3; clear h3
  refine wp_skip ?_
  refine then_normal (hK7 _ _ ?_)
  have s19 := s18.sub (u 0 rfl (u 3 rfl (u 4 rfl .nil))); clear s18
  refine wp_seq_k fun K9 hK9 => wp_block ?_
  refine wp_seq_k fun K10 hK10 => wp_seq_k fun K11 hK11 => ?_
  obtain ⟨x1, e_x1, h5⟩ := bind_some h4; clear h4
  obtain ⟨x2, e_x2, h6⟩ := bind_some h5; clear h5; replace e_x2 := Option.some.inj e_x2
  refine wp_region_lit (qs s19 (.c1 rfl (mv rfl rfl) (.c1 rfl (mv rfl rfl) (.c1 rfl (ob_indexAddrs rfl Tryd.underlying30 sz9 (.tmp rfl) (.tmp rfl) e_x1) (.c1 rfl (ob_loadr rfl tk9 (.tmp rfl)) (.c1 rfl (ob_lenStr rfl Tryd.underlying9 (.tmp rfl)) (.c1 rfl (ob_gtr rfl (.tmp rfl) (opd_int rfl)) (.c1 rfl (mv rfl rfl) (.cg rfl rfl rfl rfl (fun hb => ob_move rfl (.tmp rfl)) (.cg rfl rfl rfl rfl (fun hb => (Ob.uncond (t := 18) hb rfl (ob_gtr rfl (.tmp rfl) (opd_int rfl)))) (.c1 rfl ((ob_or2 rfl (.tmp rfl) opd_bool (.tmp rfl)).nm e_x2) (.ce (u 0 rfl (u 3 rfl (u 4 rfl (u 20 rfl .nil))))))))))))))) fun _ _ s30 => wn hK11 ?_); clear s19
  refine cond_split s30 (.tmp rfl) (fun hc2 => ?_) (fun hc2 => ?_)
  ·have h7 := ite_t hc2 h6; clear h6
   refine wp_seq_k fun K12 hK12 => wp_region_lit (qs s30 (.c1 rfl (ob_assign rfl opd_bool) (.ce (u 2 rfl .nil))) fun _ _ s32 => wn hK12 ?_); clear s30
   refine wp_ret ?_
   obtain rfl := Option.some.inj h7
   exact leave s32 (.inl rfl) rfl (.cons (.tmp rfl) .nil)
  ·have h8 := ite_f hc2 h6; clear h6
   refine wp_skip ?_
   refine then_normal (hK10 _ _ ?_)
   have s33 := s30.sub (u 0 rfl (u 3 rfl (u 4 rfl .nil))); clear s30
   obtain ⟨x3, e_x3, h9⟩ := bind_some h8; clear h8
   refine wp_region_lit (qs s33 (.c1 rfl (mv rfl rfl) (.c1 rfl (mv rfl rfl) (.c1 rfl (mv rfl rfl) (.c1 rfl (ob_indexAddrs rfl Tryd.underlying30 sz9 (.tmp rfl) (.tmp rfl) e_x3) (.c1 rfl (ob_loadr rfl tk9 (.tmp rfl)) (.c1 rfl (ob_lenStr rfl Tryd.underlying9 (.tmp rfl)) (.c1 rfl (ob_add rfl (.tmp rfl) (.tmp rfl)) (.c1 rfl (ob_assign rfl (.tmp rfl)) .cz)))))))) fun _ _ s41 => ?_); clear s33
   refine wpList_nil ?_
   refine in_normal ?_
   refine then_normal (hK9 _ _ ?_)
   have s42 := s41.sub (u 0 rfl (u 3 rfl (u 4 rfl .nil))); clear s41
   refine wp_region_lit (qs s42 (.c1 rfl (mv rfl rfl) (.c1 rfl (ob_add rfl (.tmp rfl) (opd_int rfl)) (.c1 rfl (ob_assign rfl (.tmp rfl)) .cz))) fun _ _ s45 => ?_); clear s42
   refine wpList_nil ?_
   refine then_normal ?_
   exact hK6 ((iadd .i64 y2 (x3.length : Int)), (iadd .i64 y3 (1 : Int))) _ _ h9 (s45.sub (.cons rfl (.cons rfl (.cons rfl .nil))))
 ·have h10 := ite_f hc1 h3; clear h3
  refine wp_exit ?_
  refine (then_exit (then_exit (in_here ?_)))
  refine then_normal ?_
  exact hj1 y2 _ _ h10 (s18.sub (.cons rfl .nil))
theorem c_disk_Disk_Crash_1 (k : Nat) (p1 : Int) (p2 : (List Int)) (r : Int) (h0 : disk_Disk_Crash_1 k p1 p2 = some r) (ok : Ok) (w0 : World) (z0 : Value) (z1 : Value) (u0 : ((kint .i64).V p1).holds ok w0 z0) (u1 : (ptrTo (ksl (kint .u8)) p2).holds ok w0 z1) :
 Gives Tryd.prog 38 [z0, z1] ok w0 (resFact [(kint .i64).V r]) := by
 unfold disk_Disk_Crash_1 at h0
 refine enter (N := 14) Tryd.func38 rfl rfl (of_decide_eq_true rfl) (.cons u0 (.cons u1 .nil)) fun a1 s1 => ?_
 refine wp_seq_k fun K1 hK1 => wp_region_lit (qs s1 (.c1 rfl (ob_assign rfl (opd_int rfl)) (.ce (u 0 rfl (u 1 rfl .nil)))) fun _ _ s3 => wn hK1 ?_); clear s1
 refine wp_seq_k fun K2 hK2 => wp_seq_k fun K3 hK3 => ?_
 refine wp_region_lit (qs s3 (.c1 rfl (mv rfl rfl) (.c1 rfl (ob_loadr rfl tk31 (.tmp rfl)) (.c1 rfl (ob_lens rfl Tryd.underlying31 (.tmp rfl)) (.c1 rfl (ob_lss rfl (.tmp rfl) (.tmp rfl)) (.ce (u 0 rfl (u 1 rfl (u 7 rfl .nil)))))))) fun _ _ s8 => wn hK3 ?_); clear s3
 refine cond_split s8 (.tmp rfl) (fun hc1 => ?_) (fun hc1 => ?_)
 ·have h1 := ite_t hc1 h0; clear h0
  obtain ⟨x1, e_x1, h2⟩ := bind_some h1; clear h1
  refine wp_seq_k fun K4 hK4 => wp_region_lit (qs s8 (.c1 rfl (ob_loadr rfl tk31 (.tmp rfl)) (.c1 rfl (mv rfl rfl) (.c1 rfl (ob_indexAddrs rfl Tryd.underlying31 sz5 (.tmp rfl) (.tmp rfl) e_x1) (.c1 rfl (ob_loadr rfl tk5 (.tmp rfl)) (.c1 rfl (ob_rem rfl (.tmp rfl) (opd_int rfl) (by decide)) (.c1 rfl (ob_conv rfl _ Tryd.underlying5 Tryd.underlying3 (.tmp rfl)) (.c1 rfl (ob_assign rfl (.tmp rfl)) (.ce (u 3 rfl .nil))))))))) fun _ _ s16 => wn hK4 ?_); clear s8
  refine wp_ret ?_
  obtain rfl := Option.some.inj h2
  exact leave s16 (.inl rfl) rfl (.cons (.tmp rfl) .nil)
 ·have h3 := ite_f hc1 h0; clear h0
  refine wp_skip ?_
  refine then_normal (hK2 _ _ ?_)
  have s17 := s8.sub .nil; clear s8
  refine wp_seq_k fun K5 hK5 => wp_region_lit (qs s17 (.c1 rfl (ob_assign rfl (opd_int rfl)) (.ce (u 3 rfl .nil))) fun _ _ s19 => wn hK5 ?_); clear s17
  refine wp_ret ?_
  obtain rfl := Option.some.inj h3
  exact leave s19 (.inl rfl) rfl (.cons (.tmp rfl) .nil)
theorem c_disk_Disk_settle_disk_Disk_Crash_1 (k : Nat) (p1 : disk_Disk) (p2 : (List Int)) (r : disk_Disk) (h0 : disk_Disk_settle_disk_Disk_Crash_1 k p1 p2 = some r) (ok : Ok) (w0 : World) (z0 : Value) (z1 : Value) (b00 : Nat) (w0_0 : Value) (w0_1 : Value) (l0 : ∀ q, q ∈ [BF b00 68 (ko_disk_Disk_0_1 w0_0 w0_1) (⟨[], [], p1.fuse, p1.dead⟩ : disk_Disk), RowF w0_0 100 (karr 256 (kint .u8)) p1.firm, RowF w0_1 102 k_disk_write p1.loose] → q.holds ok w0) (d0 : ∀ c, c ∈ idsOf [BF b00 68 (ko_disk_Disk_0_1 w0_0 w0_1) (⟨[], [], p1.fuse, p1.dead⟩ : disk_Disk), RowF w0_0 100 (karr 256 (kint .u8)) p1.firm, RowF w0_1 102 k_disk_write p1.loose] → ¬ ok c) (nd : (idsOf [BF b00 68 (ko_disk_Disk_0_1 w0_0 w0_1) (⟨[], [], p1.fuse, p1.dead⟩ : disk_Disk), RowF w0_0 100 (karr 256 (kint .u8)) p1.firm, RowF w0_1 102 k_disk_write p1.loose]).Nodup) (u0 : (ptrB b00 0).holds ok w0 z0) (u1 : (cloF 38 [] [(ptrTo (ksl (kint .u8)) p2)]).holds ok w0 z1) :
 GivesX Tryd.prog 37 [z0, z1] ok w0 [BF b00 68 (ko_disk_Disk_0_1 w0_0 w0_1) (⟨[], [], p1.fuse, p1.dead⟩ : disk_Disk), RowF w0_0 100 (karr 256 (kint .u8)) p1.firm, RowF w0_1 102 k_disk_write p1.loose] (fun g : Value × Value => resFact []) (fun g : Value × Value => [BF b00 68 (ko_disk_Disk_0_1 (g.1) (g.2)) (⟨[], [], r.fuse, r.dead⟩ : disk_Disk), RowF (g.1) 100 (karr 256 (kint .u8)) r.firm, RowF (g.2) 102 k_disk_write r.loose]) := by
 unfold disk_Disk_settle_disk_Disk_Crash_1 at h0
 refine enterX (N := 38) Tryd.func37 rfl rfl (of_decide_eq_true rfl) (.cons u0 (.cons u1 .nil)) nd l0 d0 fun a1 s1 => ?_
 refine wp_seq_k fun K1 hK1 => wp_seq_k fun K2 hK2 => ?_
 refine wp_region_lit (qs s1 (.c1 rfl (mv rfl rfl) (.c1 rfl (ob_nilCheck rfl (.tmp rfl)) (.c1 rfl (ob_fieldAddr (off' := 1) rfl Tryd.underlying68 rfl sz66 (by decide) (.tmp rfl) rfl) (.c1 rfl (ob_loadRowV rfl (tkr66 _) (.tmp rfl) (.head _) (lgo_disk_Disk_0_1_loose (⟨[], [], p1.fuse, p1.dead⟩ : disk_Disk))) (.c1 rfl (ob_lenRow rfl Tryd.underlying66 (.tmp rfl) (.tail _ (.tail _ (.head _)))) (.c1 rfl (ob_move rfl (opd_int rfl)) (.ce (u 0 rfl (u 1 rfl (u 10 rfl (u 11 rfl (u 12 rfl .nil)))))))))))) fun _ _ s8 => wn hK2 ?_); clear s1
 have hj1 : ∀ (y1 : (List (List Int))) (a : Act) (w : World), (disk_Disk_settle_disk_Disk_Crash_1.j1 k p1) y1 = some r → St ⟨38, w0, ok, (idsOf [BF b00 68 (ko_disk_Disk_0_1 w0_0 w0_1) (⟨[], [], p1.fuse, p1.dead⟩ : disk_Disk), RowF w0_0 100 (karr 256 (kint .u8)) p1.firm, RowF w0_1 102 k_disk_write p1.loose])⟩ [BF b00 68 (ko_disk_Disk_0_1 w0_0 w0_1) (⟨[], [], p1.fuse, p1.dead⟩ : disk_Disk), RowF w0_0 100 (karr 256 (kint .u8)) y1, RowF w0_1 102 k_disk_write p1.loose] [(0, (ptrB b00 0))] a w → K1 a w := by
  intro y1 a9 w9 h1 s9
  unfold disk_Disk_settle_disk_Disk_Crash_1.j1 at h1
  refine hK1 _ _ ?_
  refine wp_region_lit (qs s9 (.c1 rfl (mv rfl rfl) (.c1 rfl (ob_nilCheck rfl (.tmp rfl)) (.c1 rfl (ob_fieldAddr (off' := 1) rfl Tryd.underlying68 rfl sz66 (by decide) (.tmp rfl) rfl) .cz))) fun _ _ s12 => ?_); clear s9
  have s13 := St.adopt s12 (G := RowF (nilRow 12) 102 k_disk_write []) rfl (rowNilN _ _ _ _ _); clear s12
  refine seq_opx0 (B' := (fun _ : Unit => [RowF (nilRow 12) 102 k_disk_write ([] : (List disk_write)), BF b00 68 (ko_disk_Disk_0_1 w0_0 (nilRow 12)) (⟨[], [], p1.fuse, p1.dead⟩ : disk_Disk), RowF w0_0 100 (karr 256 (kint .u8)) y1, RowF w0_1 102 k_disk_write p1.loose])) s13 rfl rfl (ob_storeRowV (A := [_]) rfl (tkr66 _) (.tmp rfl) opd_is (.head _) rfl (lsk_disk_Disk_0_1_to_0_1_at1 (⟨[], [], p1.fuse, p1.dead⟩ : disk_Disk)) rfl) fun _ a14 w14 s14 => ?_; clear s13
  refine wpList_nil ?_
  have s15 := s14.perm (toFront [_] (toFront [_] (toFront [] (List.Perm.refl _)))); clear s14
  obtain rfl := Option.some.inj h1
  exact leaveXD (D := [_]) ⟨w0_0, (nilRow 12)⟩ s15 rfl (.inr rfl) rfl .nil rfl
 refine wp_block ?_
 have s16 := s8.perm (toFront [] (toFront [_] (toFront [] (List.Perm.refl _)))); clear s8
 refine wp_loop_fuel (fun m (q : Int × (List (List Int))) => disk_Disk_settle_disk_Disk_Crash_1.l1 k p1 p2 m q.1 q.2) r (fun _ => rfl) (fun q a w => St ⟨38, w0, ok, (idsOf [BF b00 68 (ko_disk_Disk_0_1 w0_0 w0_1) (⟨[], [], p1.fuse, p1.dead⟩ : disk_Disk), RowF w0_0 100 (karr 256 (kint .u8)) p1.firm, RowF w0_1 102 k_disk_write p1.loose])⟩ [BF b00 68 (ko_disk_Disk_0_1 w0_0 w0_1) (⟨[], [], p1.fuse, p1.dead⟩ : disk_Disk), RowF w0_1 102 k_disk_write p1.loose, RowF w0_0 100 (karr 256 (kint .u8)) q.2] [(0, (ptrB b00 0)), (1, (cloF 38 [] [(ptrTo (ksl (kint .u8)) p2)])), (10, (is w0_1)), (11, ((kint .i64).V (p1.loose.length : Int))), (12, ((kint .i64).V q.1))] a w) ?_ k ((0 : Int), p1.firm) _ _ h0 (s16.sub (.cons rfl (.cons rfl (.cons rfl (.cons rfl (.cons rfl .nil))))))
 rintro n1 ⟨y2, y3⟩ a17 w17 h2 s17 K3 hK3
 replace h2 : disk_Disk_settle_disk_Disk_Crash_1.l1 k p1 p2 (n1 + 1) y2 y3 = some r := h2; rw [disk_Disk_settle_disk_Disk_Crash_1.l1] at h2
 have h3 := h2; clear h2
 refine wp_seq_k fun K4 hK4 => wp_region_lit (qs s17 (.c1 rfl (ob_lss rfl (.tmp rfl) (.tmp rfl)) (.ce (u 0 rfl (u 1 rfl (u 10 rfl (u 11 rfl (u 12 rfl (u 13 rfl .nil)))))))) fun _ _ s19 => wn hK4 ?_); clear s17
 refine wp_seq_k fun K5 hK5 => ?_
 refine cond_split s19 (.tmp rfl) (fun hc1 => ?_) (fun hc1 => ?_)
 ·have h4 := ite_t hc1 h3; clear h3
  refine wp_skip ?_
  refine then_normal (hK5 _ _ ?_)
  have s20 := s19.sub (u 0 rfl (u 1 rfl (u 10 rfl (u 11 rfl (u 12 rfl .nil))))); clear s19
  refine wp_seq_k fun K6 hK6 => wp_block ?_
  obtain ⟨g1, h5⟩ := guard_some h4; clear h4
  obtain ⟨x1, e_x1, h6⟩ := bind_some h5; clear h5
  refine wp_seq_k fun K7 hK7 => wp_region_lit (qs s20 (.c1 rfl (mv rfl rfl) (.c1 rfl (ob_rowAt rfl Tryd.underlying66 sz102 (.tmp rfl) (.tail _ (.head _)) (.tmp rfl) g1) (.c1 rfl (ob_rowLoad rfl tk102 (.tmp rfl) (.tail _ (.head _)) (LG.arrA e_x1)) .cz))) fun _ _ s23 => ?_); clear s20
  refine qx (B' := (fun b1 : Nat => [BF b1 102 k_disk_write (⟨(0 : Int), (List.replicate 256 (0 : Int))⟩ : disk_write), BF b00 68 (ko_disk_Disk_0_1 w0_0 w0_1) (⟨[], [], p1.fuse, p1.dead⟩ : disk_Disk), RowF w0_1 102 k_disk_write p1.loose, RowF w0_0 100 (karr 256 (kint .u8)) y3])) s23 rfl (ob_new (k := k_disk_write) rfl zz102 (Zr.iso (f := t_disk_write) (x := (⟨(0 : Int), (List.replicate 256 (0 : Int))⟩ : disk_write)) (Zr.pair (Zr.int .i64) (Zr.pair (Zr.arr 256 (Zr.int .u8)) Zr.nil)))) fun b1 _ _ s24 => ?_; clear s23
  refine qs s24 (.c1 rfl (ob_assign rfl (.tmp rfl)) .cz) fun _ _ s25 => ?_; clear s24
  refine seq_opx0 (B' := (fun _ : Unit => [BF b1 102 k_disk_write x1, BF b00 68 (ko_disk_Disk_0_1 w0_0 w0_1) (⟨[], [], p1.fuse, p1.dead⟩ : disk_Disk), RowF w0_1 102 k_disk_write p1.loose, RowF w0_0 100 (karr 256 (kint .u8)) y3])) s25 rfl rfl (ob_store (A := []) rfl tk102 (.tmp rfl) (.tmp rfl) rfl (LS.refl _ _ _) rfl) fun _ a26 w26 s26 => ?_; clear s25
  refine wn hK7 ?_
  have s27 := s26.sub (u 0 rfl (u 1 rfl (u 4 rfl (u 5 rfl (u 10 rfl (u 11 rfl (u 12 rfl .nil))))))); clear s26
  obtain ⟨x2, e_x2, h7⟩ := bind_some h6; clear h6
  refine wp_seq_k fun K8 hK8 => wp_region_lit (qs s27 (.c1 rfl (mv rfl rfl) (.c1 rfl (mv rfl rfl) (.c1 rfl (ob_callD (args := [_]) rfl (.clo (.tmp rfl)) hb38 (fun a w s fs gs hf hg => by obtain rfl := hf.unnil; obtain ⟨u0, _, rfl, fu0, hg⟩ := hg.uncons; obtain rfl := hg.unnil; exact c_disk_Disk_Crash_1 k _ _ _ e_x2 _ _ _ _ (s.arg (.tmp rfl)) fu0)) (.c1 rfl (ob_mul rfl (.tmp rfl) (opd_int rfl)) (.c1 rfl (ob_assign rfl (.tmp rfl)) (.ce (u 0 rfl (u 1 rfl (u 5 rfl (u 6 rfl (u 10 rfl (u 11 rfl (u 12 rfl .nil))))))))))))) fun _ _ s33 => wn hK8 ?_); clear s27
  obtain ⟨g2, h8⟩ := guard_some h7; clear h7
  obtain ⟨g3, h9⟩ := guard_some h8; clear h8
  obtain ⟨g4, h10⟩ := guard_some h9; clear h9
  refine wp_goes (Fs := [(ptrB b00 0), (ptrB b00 0), (ptrB b00 0), (is w0_0), (ptrB b1 0), ((kint .i64).V x1.at_), (ptrR w0_0 (x1.at_.toNat * 256)), ((kint .i64).V (imul .i64 x2 (64 : Int))), (slR w0_0 (soff 256 (x1.at_.toNat * 256) (0 : Int).toNat 1) ((imul .i64 x2 (64 : Int)).toNat - (0 : Int).toNat) (256 - (0 : Int).toNat)), (ptrB b1 1), ((kint .i64).V (imul .i64 x2 (64 : Int))), (is (.slice (some ⟨b1, soff 256 1 (0 : Int).toNat 1, none⟩) ((imul .i64 x2 (64 : Int)).toNat - (0 : Int).toNat) (256 - (0 : Int).toNat)))]) (bits := [0, 1, 3, 7, 0, 16, 63, 0, 255, 0, 0, 1536, 4095]) (m := 12) (todo := 0) mx s33 ?_; clear s33
  refine goes_last (by kernel_rfl) rfl (oc (av 0 rfl rfl Av.nil) rfl rfl (mv rfl rfl) (oc (an 0 rfl rfl rfl Av.nil) rfl rfl (ob_nilCheck rfl (.tmp rfl)) (oc (an 1 rfl rfl rfl Av.nil) rfl rfl (ob_fieldAddr (off' := 0) rfl Tryd.underlying68 rfl sz65 (by decide) (.tmp rfl) rfl) (oc (an 2 rfl rfl rfl Av.nil) rfl rfl (ob_loadRowV rfl (tkr65 _) (.tmp rfl) (.tail _ (.head _)) (lgo_disk_Disk_0_1_firm (⟨[], [], p1.fuse, p1.dead⟩ : disk_Disk))) (oc (av 5 rfl rfl Av.nil) rfl rfl (ob_fieldAddr (off' := 0) rfl Tryd.underlying102 rfl sz3 (by decide) (.tmp rfl) rfl) (oc (an 4 rfl rfl rfl Av.nil) rfl rfl (ob_load rfl tk3 (.tmp rfl) (.head _) (lg_disk_write_at_ x1)) (oc (an 3 rfl rfl rfl (an 5 rfl rfl rfl Av.nil)) rfl rfl (ob_rowAt rfl Tryd.underlying65 sz100 (.tmp rfl) (.tail _ (.tail _ (.tail _ (.head _)))) (.tmp rfl) g2) (oc (av 6 rfl rfl Av.nil) rfl rfl (mv rfl rfl) (oc (an 6 rfl rfl rfl (an 7 rfl rfl rfl Av.nil)) rfl rfl (ob_sliceRow rfl Tryd.underlying100 sz5 (.tmp rfl) .none (.some (.tmp rfl)) g3) (oc (av 5 rfl rfl Av.nil) rfl rfl (ob_fieldAddr (off' := 1) rfl Tryd.underlying102 rfl sz100 (by decide) (.tmp rfl) rfl) (oc (av 6 rfl rfl Av.nil) rfl rfl (mv rfl rfl) (oc (an 9 rfl rfl rfl (an 10 rfl rfl rfl Av.nil)) rfl rfl (ob_sliceArr rfl Tryd.underlying100 sz5 (.tmp rfl) .none (.some (.tmp rfl)) g4) opsS_nil)))))))))))) (out_old (t := 0) rfl rfl (out_old (t := 1) rfl rfl (out_old (t := 10) rfl rfl (out_old (t := 11) rfl rfl (out_old (t := 12) rfl rfl (out_new (i := 8) (by decide) rfl rfl (out_new (i := 11) (by decide) rfl rfl out_nil))))))) fun _ _ s34 => ?_
  obtain ⟨x3, e_x3, h11⟩ := bind_some h10; clear h10
  obtain ⟨g5, h12⟩ := guard_some h11; clear h11
  obtain ⟨x4, e_x4, h13⟩ := bind_some h12; clear h12
  obtain ⟨x5, e_x5, h14⟩ := bind_some h13; clear h13
  refine qx (B' := (fun _ : Unit => [BF b1 102 k_disk_write x1, BF b00 68 (ko_disk_Disk_0_1 w0_0 w0_1) (⟨[], [], p1.fuse, p1.dead⟩ : disk_Disk), RowF w0_1 102 k_disk_write p1.loose, RowF w0_0 100 (karr 256 (kint .u8)) x5])) s34 rfl ((ob_lendX (L := [_, _, _]) (List.Perm.refl _) (.cons (t := 32) rfl (lendSlB (.head _) (lg_disk_write_data x1) e_x3 rfl (cut_len e_x3) (cut_cap e_x3 g4 (by decide))) .nil) (fun _ => (Flat.V (KFlat.int _))) (fun _ => (.cons (FlatO.row (KFlat.arr (KFlat.int _))) FlatL.nil)) (fun _ _ => ob_copyR (A := []) rfl Tryd.underlying31 sz5 rfl (.tmp rfl) (srcSl rfl (.tmp rfl)) rfl rfl (sl_fit g3) g5 (LG.arrA e_x4) (LS.arrS e_x5) rfl (by decide)))) fun _ _ _ s35 => ?_; clear s34
  refine wpList_nil ?_
  refine in_normal ?_
  refine then_normal (hK6 _ _ ?_)
  have s36 := s35.sub (u 0 rfl (u 1 rfl (u 10 rfl (u 11 rfl (u 12 rfl .nil))))); clear s35
  have s37 := St.drop (A := []) s36; clear s36
  refine wp_region_lit (qs s37 (.c1 rfl (ob_add rfl (.tmp rfl) (opd_int rfl)) (.c1 rfl (mv rfl rfl) .cz)) fun _ _ s39 => ?_); clear s37
  refine wpList_nil ?_
  refine then_normal ?_
  exact hK3 ((iadd .i64 y2 (1 : Int)), x5) _ _ h14 (s39.sub (.cons rfl (.cons rfl (.cons rfl (.cons rfl (.cons rfl .nil))))))
 ·have h15 := ite_f hc1 h3; clear h3
  refine wp_exit ?_
  refine (then_exit (then_exit (in_here ?_)))
  refine then_normal ?_
  have s40 := s19.perm (toFront [] (toFront [_] (toFront [] (List.Perm.refl _)))); clear s19
  exact hj1 y3 _ _ h15 (s40.sub (.cons rfl .nil))
theorem c_disk_Disk_Crash (k : Nat) (p1 : disk_Disk) (p2 : (List Int)) (r : disk_Disk) (h0 : disk_Disk_Crash k p1 p2 = some r) (ok : Ok) (w0 : World) (z0 : Value) (z1 : Value) (b00 : Nat) (w0_0 : Value) (w0_1 : Value) (l0 : ∀ q, q ∈ [BF b00 68 (ko_disk_Disk_0_1 w0_0 w0_1) (⟨[], [], p1.fuse, p1.dead⟩ : disk_Disk), RowF w0_0 100 (karr 256 (kint .u8)) p1.firm, RowF w0_1 102 k_disk_write p1.loose] → q.holds ok w0) (d0 : ∀ c, c ∈ idsOf [BF b00 68 (ko_disk_Disk_0_1 w0_0 w0_1) (⟨[], [], p1.fuse, p1.dead⟩ : disk_Disk), RowF w0_0 100 (karr 256 (kint .u8)) p1.firm, RowF w0_1 102 k_disk_write p1.loose] → ¬ ok c) (nd : (idsOf [BF b00 68 (ko_disk_Disk_0_1 w0_0 w0_1) (⟨[], [], p1.fuse, p1.dead⟩ : disk_Disk), RowF w0_0 100 (karr 256 (kint .u8)) p1.firm, RowF w0_1 102 k_disk_write p1.loose]).Nodup) (u0 : (ptrB b00 0).holds ok w0 z0) (u1 : ((ksl (kint .u8)).V p2).holds ok w0 z1) :
 GivesX Tryd.prog 10 [z0, z1] ok w0 [BF b00 68 (ko_disk_Disk_0_1 w0_0 w0_1) (⟨[], [], p1.fuse, p1.dead⟩ : disk_Disk), RowF w0_0 100 (karr 256 (kint .u8)) p1.firm, RowF w0_1 102 k_disk_write p1.loose] (fun g : Value × Value => resFact []) (fun g : Value × Value => [BF b00 68 (ko_disk_Disk_0_1 (g.1) (g.2)) (⟨[], [], r.fuse, r.dead⟩ : disk_Disk), RowF (g.1) 100 (karr 256 (kint .u8)) r.firm, RowF (g.2) 102 k_disk_write r.loose]) := by
 unfold disk_Disk_Crash at h0
 refine enterX (N := 15) Tryd.func10 rfl rfl (of_decide_eq_true rfl) (.cons u0 (.cons u1 .nil)) nd l0 d0 fun a1 s1 => ?_
 refine wp_seq_k fun K1 hK1 => wp_region_lit ?_
 refine qx (B' := (fun b1 : Nat => [BF b1 31 (ksl (kint .u8)) p2, BF b00 68 (ko_disk_Disk_0_1 w0_0 w0_1) (⟨[], [], p1.fuse, p1.dead⟩ : disk_Disk), RowF w0_0 100 (karr 256 (kint .u8)) p1.firm, RowF w0_1 102 k_disk_write p1.loose])) s1 rfl (ob_box rfl (.tmp rfl)) fun b1 _ _ s2 => ?_; clear s1
 refine wn hK1 ?_
 have s3 := s2.sub (u 0 rfl (u 3 rfl .nil)); clear s2
 refine wp_seq_k fun K2 hK2 => wp_seq_k fun K3 hK3 => ?_
 refine wp_region_lit (qs s3 (.c1 rfl (mv rfl rfl) (.c1 rfl (ob_ptrNil (p := some _) rfl pt24 (.tmp rfl) opd_is) (.ce (u 0 rfl (u 3 rfl (u 5 rfl .nil)))))) fun _ _ s6 => wn hK3 ?_); clear s3
 refine cond_f s6 (.tmp rfl) ?_
 refine wp_skip ?_
 refine then_normal (hK2 _ _ ?_)
 have s7 := s6.sub (u 0 rfl (u 3 rfl .nil)); clear s6
 obtain ⟨x1, e_x1, h1⟩ := bind_some h0; clear h0
 refine wp_seq_k fun K4 hK4 => wp_region_lit (qs s7 (.c1 rfl (mv rfl rfl) (.c1 rfl (ob_makeFn (xs := []) (ys := [_]) rfl .nil (.cons (.tmp rfl) .nil)) .cz)) fun _ _ s9 => ?_); clear s7
 refine qx (B' := (fun gg : Value × Value => [BF b1 31 (ksl (kint .u8)) p2, BF b00 68 (ko_disk_Disk_0_1 gg.1 gg.2) (⟨[], [], x1.fuse, x1.dead⟩ : disk_Disk), RowF gg.1 100 (karr 256 (kint .u8)) x1.firm, RowF gg.2 102 k_disk_write x1.loose])) s9 rfl ((ob_lendX (L := [_]) (List.Perm.refl _) (.cons (t := 7) rfl (lendClo .nil (.cons (lendPtrB (.head _) (LG.refl _ _)) .nil)) .nil) (fun _ => (Flat.res0)) (fun _ => (.cons (FlatO.bf (KFlat.iso (KFlat.pair (KFlat.kis _) (KFlat.pair (KFlat.kis _) (KFlat.pair (KFlat.int _) (KFlat.pair KFlat.bool KFlat.nil)))))) (.cons (FlatO.row (KFlat.arr (KFlat.int _))) (.cons (FlatO.row kf_disk_write) FlatL.nil)))) (fun _ _ => ob_callL0 (args := [_, _]) (L := [_, _, _]) (D := []) rfl .direct hb37 (List.Perm.refl _) (fun a w s => by exact c_disk_Disk_settle_disk_Disk_Crash_1 k _ _ _ e_x1 _ _ _ _ _ _ _ (ownL s) (disL s) (nodL s) (s.arg (.tmp rfl)) (s.arg (.tmp rfl))) (by exact fun _ => rfl)))) fun gg10 _ _ s10 => ?_; clear s9
 obtain ⟨v1, v2⟩ := gg10
 refine wn hK4 ?_
 have s11 := s10.sub (u 0 rfl .nil); clear s10
 have s12 := St.drop (A := []) s11; clear s11
 refine wp_region_lit (qs s12 (.c1 rfl (mv rfl rfl) (.c1 rfl (mv rfl rfl) (.c1 rfl (ob_nilCheck rfl (.tmp rfl)) (.c1 rfl (ob_fieldAddr (off' := 2) rfl Tryd.underlying68 rfl sz3 (by decide) (.tmp rfl) rfl) .cz)))) fun _ _ s16 => ?_); clear s12
 refine seq_opx0 (B' := (fun _ : Unit => [BF b00 68 (ko_disk_Disk_0_1 v1 v2) (⟨[], [], (-1 : Int), x1.dead⟩ : disk_Disk), RowF v1 100 (karr 256 (kint .u8)) x1.firm, RowF v2 102 k_disk_write x1.loose])) s16 rfl rfl (ob_store (A := []) rfl tk3 (.tmp rfl) (opd_int rfl) rfl (lso_disk_Disk_0_1_fuse (⟨[], [], x1.fuse, x1.dead⟩ : disk_Disk) (-1 : Int)) rfl) fun _ a17 w17 s17 => ?_; clear s16
 refine qs s17 (.c1 rfl (ob_nilCheck rfl (.tmp rfl)) (.c1 rfl (ob_fieldAddr (off' := 3) rfl Tryd.underlying68 rfl sz4 (by decide) (.tmp rfl) rfl) .cz)) fun _ _ s19 => ?_; clear s17
 refine seq_opx0 (B' := (fun _ : Unit => [BF b00 68 (ko_disk_Disk_0_1 v1 v2) (⟨[], [], (-1 : Int), false⟩ : disk_Disk), RowF v1 100 (karr 256 (kint .u8)) x1.firm, RowF v2 102 k_disk_write x1.loose])) s19 rfl rfl (ob_store (A := []) rfl tk4 (.tmp rfl) opd_bool rfl (lso_disk_Disk_0_1_dead (⟨[], [], (-1 : Int), x1.dead⟩ : disk_Disk) false) rfl) fun _ a20 w20 s20 => ?_; clear s19
 refine wpList_nil ?_
 obtain rfl := Option.some.inj h1
 exact leaveXD (D := []) ⟨v1, v2⟩ s20 rfl (.inr rfl) rfl .nil rfl
theorem c_journal_Journal_Records_w2 (k : Nat) (p1 : journal_Journal) (p2 : disk_Disk) (r : (List (List Int))) (h0 : journal_Journal_Records_w2 k p1 p2 = some r) (ok : Ok) (w0 : World) (z0 : Value) (b00 : Nat) (b01 : Nat) (w1_0 : Value) (w1_1 : Value) (l0 : ∀ q, q ∈ [BF b00 70 (ko_journal_Journal_0 (.pointer (some ⟨b01, 0, none⟩))) (⟨(), p1.area, p1.bytes, p1.l⟩ : journal_Journal), BF b01 68 (ko_disk_Disk_0_1 w1_0 w1_1) (⟨[], [], p2.fuse, p2.dead⟩ : disk_Disk), RowF w1_0 100 (karr 256 (kint .u8)) p2.firm, RowF w1_1 102 k_disk_write p2.loose] → q.holds ok w0) (d0 : ∀ c, c ∈ idsOf [BF b00 70 (ko_journal_Journal_0 (.pointer (some ⟨b01, 0, none⟩))) (⟨(), p1.area, p1.bytes, p1.l⟩ : journal_Journal), BF b01 68 (ko_disk_Disk_0_1 w1_0 w1_1) (⟨[], [], p2.fuse, p2.dead⟩ : disk_Disk), RowF w1_0 100 (karr 256 (kint .u8)) p2.firm, RowF w1_1 102 k_disk_write p2.loose] → ¬ ok c) (nd : (idsOf [BF b00 70 (ko_journal_Journal_0 (.pointer (some ⟨b01, 0, none⟩))) (⟨(), p1.area, p1.bytes, p1.l⟩ : journal_Journal), BF b01 68 (ko_disk_Disk_0_1 w1_0 w1_1) (⟨[], [], p2.fuse, p2.dead⟩ : disk_Disk), RowF w1_0 100 (karr 256 (kint .u8)) p2.firm, RowF w1_1 102 k_disk_write p2.loose]).Nodup) (u0 : (ptrB b00 0).holds ok w0 z0) :
 GivesX Tryd.prog 13 [z0] ok w0 [BF b00 70 (ko_journal_Journal_0 (.pointer (some ⟨b01, 0, none⟩))) (⟨(), p1.area, p1.bytes, p1.l⟩ : journal_Journal), BF b01 68 (ko_disk_Disk_0_1 w1_0 w1_1) (⟨[], [], p2.fuse, p2.dead⟩ : disk_Disk), RowF w1_0 100 (karr 256 (kint .u8)) p2.firm, RowF w1_1 102 k_disk_write p2.loose] (fun g : Value => resFact [is g]) (fun g : Value => [RowF (g) 9 kstr r, BF b00 70 (ko_journal_Journal_0 (.pointer (some ⟨b01, 0, none⟩))) (⟨(), p1.area, p1.bytes, p1.l⟩ : journal_Journal), BF b01 68 (ko_disk_Disk_0_1 w1_0 w1_1) (⟨[], [], p2.fuse, p2.dead⟩ : disk_Disk), RowF w1_0 100 (karr 256 (kint .u8)) p2.firm, RowF w1_1 102 k_disk_write p2.loose]) := by
 unfold journal_Journal_Records_w2 at h0
 refine enterX (N := 10) Tryd.func13 rfl rfl (of_decide_eq_true rfl) (.cons u0 .nil) nd l0 d0 fun a1 s1 => ?_
 refine wp_seq_k fun K1 hK1 => wp_region_lit (qs s1 (.c1 rfl (ob_assign rfl opd_is) .cz) fun _ _ s2 => ?_); clear s1
 have s3 := St.adopt s2 (G := RowF (nilRow 13) 9 kstr []) rfl (rowNilN _ _ _ _ _); clear s2
 refine wn hK1 ?_
 have s4 := s3.sub (u 0 rfl .nil); clear s3
 have s5 := St.drop (A := []) s4; clear s4
 refine wp_seq_k fun K2 hK2 => wp_seq_k fun K3 hK3 => ?_
 refine wp_region_lit (qs s5 (.c1 rfl (mv rfl rfl) (.c1 rfl (ob_ptrNil (p := some _) rfl pt26 (.tmp rfl) opd_is) (.ce (u 0 rfl (u 4 rfl .nil))))) fun _ _ s8 => wn hK3 ?_); clear s5
 refine cond_f s8 (.tmp rfl) ?_
 refine wp_skip ?_
 refine then_normal (hK2 _ _ ?_)
 have s9 := s8.sub (u 0 rfl .nil); clear s8
 obtain ⟨x1, e_x1, h1⟩ := bind_some h0; clear h0
 refine wp_seq_k fun K4 hK4 => wp_region_lit (qs s9 (.c1 rfl (mv rfl rfl) (.c1 rfl (ob_nilCheck rfl (.tmp rfl)) (.c1 rfl (ob_fieldAddr (off' := 3) rfl Tryd.underlying70 rfl sz30 (by decide) (.tmp rfl) rfl) (.c1 rfl (ob_load rfl tk30 (.tmp rfl) (.head _) (lgo_journal_Journal_0_l (⟨(), p1.area, p1.bytes, p1.l⟩ : journal_Journal))) .cz)))) fun _ _ s13 => ?_); clear s9
 refine qx (B' := (fun v1 : Value => [RowF v1 9 kstr x1, BF b00 70 (ko_journal_Journal_0 (.pointer (some ⟨b01, 0, none⟩))) (⟨(), p1.area, p1.bytes, p1.l⟩ : journal_Journal), BF b01 68 (ko_disk_Disk_0_1 w1_0 w1_1) (⟨[], [], p2.fuse, p2.dead⟩ : disk_Disk), RowF w1_0 100 (karr 256 (kint .u8)) p2.firm, RowF w1_1 102 k_disk_write p2.loose])) s13 rfl (ob_callL0 (args := [_]) (L := []) rfl .direct hb44 (List.Perm.refl _) (fun a w s => by exact c_slices_Clone_string_string k _ _ e_x1 _ _ _ (s.arg (.tmp rfl))) (by exact fun _ => rfl)) fun v1 _ _ s14 => ?_; clear s13
 refine qs s14 (.c1 rfl (ob_assign rfl (.tmp rfl)) (.ce (u 2 rfl .nil))) fun _ _ s16 => wn hK4 ?_; clear s14
 refine wp_ret ?_
 obtain rfl := Option.some.inj h1
 exact leaveXD (D := []) v1 s16 rfl (.inl rfl) rfl (.cons (.tmp rfl) .nil) rfl
theorem c_caballaw13_JournalKept (k : Nat) (p1 : (List caballaw13_Act)) (r : Bool) (h0 : caballaw13_JournalKept k p1 = some r) (ok : Ok) (w0 : World) (gl0 : (ptrTo (karr 8 (kint .u32)) G_digest_first).holds ok w0 (.pointer (some ⟨0, 0, none⟩))) (gl1 : (ptrTo (karr 64 (kint .u32)) G_digest_rounds).holds ok w0 (.pointer (some ⟨1, 0, none⟩))) (z0 : Value) (u0 : ((ksl k_caballaw13_Act).V p1).holds ok w0 z0) :
 Gives Tryd.prog 3 [z0] ok w0 (resFact [kbool.V r]) := by
 unfold caballaw13_JournalKept at h0
 refine enter (N := 66) Tryd.func3 rfl rfl (of_decide_eq_true rfl) (.cons u0 .nil) fun a1 s1 => ?_
 have s2 := s1.keepKnown 100000 gl0 okIn; clear s1
 have s3 := s2.keepKnown 100001 gl1 okIn; clear s2
 refine wp_seq_k fun K1 hK1 => wp_region_lit (qs s3 (.c1 rfl (ob_assign rfl opd_bool) (.ce (u 0 rfl (u 100000 rfl (u 100001 rfl .nil))))) fun _ _ s5 => wn hK1 ?_); clear s3
 refine wp_seq_k fun K2 hK2 => wp_seq_k fun K3 hK3 => ?_
 obtain ⟨x1, e_x1, h1⟩ := bind_some h0; clear h0
 refine wp_region_lit (qs s5 (.c1 rfl (ob_callD0 (args := []) rfl .direct hb6 (fun a w s => by exact c_caballaw13_alive k _ e_x1 _ _ (s.env _ _ (show get _ 100000 = _ from rfl)) (s.env _ _ (show get _ 100001 = _ from rfl)))) (.c1 rfl (ob_not rfl (.tmp rfl)) (.ce (u 0 rfl (u 10 rfl (u 100000 rfl (u 100001 rfl .nil))))))) fun _ _ s8 => wn hK3 ?_); clear s5
 refine cond_split s8 (.tmp rfl) (fun hc1 => ?_) (fun hc1 => ?_)
 ·have h2 := ite_t hc1 h1; clear h1
  refine wp_seq_k fun K4 hK4 => wp_region_lit (qs s8 (.c1 rfl (ob_assign rfl opd_bool) (.ce (u 2 rfl (u 100000 rfl (u 100001 rfl .nil))))) fun _ _ s10 => wn hK4 ?_); clear s8
  refine wp_ret ?_
  obtain rfl := Option.some.inj h2
  exact leave s10 (.inl rfl) rfl (.cons (.tmp rfl) .nil)
 ·have h3 := ite_f hc1 h1; clear h1
  refine wp_skip ?_
  refine then_normal (hK2 _ _ ?_)
  have s11 := s8.sub (u 0 rfl (u 100000 rfl (u 100001 rfl .nil))); clear s8
  refine wp_seq_k fun K5 hK5 => wp_region_lit ?_
  obtain ⟨x2, e_x2, h4⟩ := bind_some h3; clear h3
  refine qx (B' := (fun gg : Nat × Value × Value => [BF gg.1 68 (ko_disk_Disk_0_1 gg.2.1 gg.2.2) (⟨[], [], x2.fuse, x2.dead⟩ : disk_Disk), RowF gg.2.1 100 (karr 256 (kint .u8)) x2.firm, RowF gg.2.2 102 k_disk_write x2.loose])) s11 rfl (ob_callL0 (args := [_]) (L := []) rfl .direct hb7 (List.Perm.refl _) (fun a w s => by exact c_disk_New k _ _ e_x2 _ _ _ (s.arg (opd_int rfl))) (by exact fun _ => rfl)) fun gg12 _ _ s12 => ?_; clear s11
  obtain ⟨b1, v1, v2⟩ := gg12
  refine qs s12 (.c1 rfl (ob_assign rfl (.tmp rfl)) (.ce (u 0 rfl (u 3 rfl (u 100000 rfl (u 100001 rfl .nil)))))) fun _ _ s14 => wn hK5 ?_; clear s12
  obtain ⟨x3, e_x3, h5⟩ := bind_some h4; clear h4
  refine wp_seq_k fun K6 hK6 => wp_region_lit (qs s14 (.c1 rfl (mv rfl rfl) .cz) fun _ _ s15 => ?_); clear s14
  refine qx (B' := (fun gg : Nat × Value × Value => [whenO x3.1 (BF gg.1 70 (ko_journal_Journal_0 (.pointer (some ⟨b1, 0, none⟩))) (⟨(), x3.2.1.area, x3.2.1.bytes, x3.2.1.l⟩ : journal_Journal)), BF b1 68 (ko_disk_Disk_0_1 gg.2.1 gg.2.2) (⟨[], [], x3.2.2.2.fuse, x3.2.2.2.dead⟩ : disk_Disk), RowF gg.2.1 100 (karr 256 (kint .u8)) x3.2.2.2.firm, RowF gg.2.2 102 k_disk_write x3.2.2.2.loose])) s15 rfl (ob_callL0 (args := [_]) (L := [_, _, _]) rfl .direct hb8 (List.Perm.refl _) (fun a w s => by exact c_journal_Open k _ _ e_x3 _ _ (s.env _ _ (show get _ 100000 = _ from rfl)) (s.env _ _ (show get _ 100001 = _ from rfl)) _ _ _ _ (ownL s) (disL s) (nodL s) (s.arg (.tmp rfl))) (by exact fun _ => rfl)) fun gg16 _ _ s16 => ?_; clear s15
  obtain ⟨b2, v3, v4⟩ := gg16
  refine qs s16 (.c1 rfl (mv rfl rfl) (.c1 rfl (ob_extract rfl (.tmp rfl) rfl) (.c1 rfl (ob_extract rfl (.tmp rfl) rfl) (.c1 rfl (ob_assign rfl (.tmp rfl)) (.c1 rfl (ob_assign rfl (.tmp rfl)) .cz))))) fun _ _ s21 => ?_; clear s16
  refine wpList_nil ?_
  refine bool_split x3.1 (fun hc2 => ?_) (fun hc2 => ?_)
  ·have h6 := ite_t hc2 h5; clear h5
   have s22 := St.whenT hc2 s21; clear s21
   have s23 := St.optT (t := 15) hc2 rfl s22; clear s22
   have s24 := St.optT (t := 4) hc2 rfl s23; clear s23
   refine then_normal (hK6 _ _ ?_)
   have s25 := s24.sub (u 0 rfl (u 3 rfl (u 4 rfl (u 5 rfl (u 100000 rfl (u 100001 rfl .nil)))))); clear s24
   refine wp_seq_k fun K7 hK7 => wp_seq_k fun K8 hK8 => ?_
   refine wp_region_lit (qs s25 (.c1 rfl (mv rfl rfl) (.c1 rfl (ob_neq rfl (.tmp rfl) (opd_int rfl)) (.ce (u 0 rfl (u 3 rfl (u 4 rfl (u 18 rfl (u 100000 rfl (u 100001 rfl .nil))))))))) fun _ _ s28 => wn hK8 ?_); clear s25
   refine cond_split s28 (.tmp rfl) (fun hc3 => ?_) (fun hc3 => ?_)
   ·have h7 := ite_t hc3 h6; clear h6
    refine wp_seq_k fun K9 hK9 => wp_region_lit (qs s28 (.c1 rfl (ob_assign rfl opd_bool) (.ce (u 2 rfl (u 100000 rfl (u 100001 rfl .nil))))) fun _ _ s30 => wn hK9 ?_); clear s28
    have s31 := St.drop (A := []) s30; clear s30
    have s32 := St.drop (A := []) s31; clear s31
    have s33 := St.drop (A := []) s32; clear s32
    have s34 := St.drop (A := []) s33; clear s33
    refine wp_ret ?_
    obtain rfl := Option.some.inj h7
    exact leave s34 (.inl rfl) rfl (.cons (.tmp rfl) .nil)
   ·have h8 := ite_f hc3 h6; clear h6
    refine wp_skip ?_
    refine then_normal (hK7 _ _ ?_)
    have s35 := s28.sub (u 0 rfl (u 3 rfl (u 4 rfl (u 100000 rfl (u 100001 rfl .nil))))); clear s28
    refine wp_seq_k fun K10 hK10 => wp_region_lit (qs s35 (.c1 rfl (ob_assign rfl opd_is) .cz) fun _ _ s36 => ?_); clear s35
    have s37 := St.adopt s36 (G := RowF (nilRow 11) 9 kstr []) rfl (rowNilN _ _ _ _ _); clear s36
    refine wn hK10 ?_
    have s38 := s37.sub (u 0 rfl (u 3 rfl (u 4 rfl (u 6 rfl (u 100000 rfl (u 100001 rfl .nil)))))); clear s37
    refine wp_seq_k fun K11 hK11 => wp_seq_k fun K12 hK12 => ?_
    refine wp_region_lit (qs s38 (.c1 rfl (ob_assign rfl (opd_int rfl)) (.ce (u 0 rfl (u 3 rfl (u 4 rfl (u 6 rfl (u 7 rfl (u 100000 rfl (u 100001 rfl .nil))))))))) fun _ _ s40 => wn hK12 ?_); clear s38
    have hj1 : ∀ (a : Act) (w : World), (caballaw13_JournalKept.j1 k) = some r → St ⟨66, w0, ok, []⟩ [] [(100000, (known (.pointer (some ⟨0, 0, none⟩)) (ptrTo (karr 8 (kint .u32)) G_digest_first))), (100001, (known (.pointer (some ⟨1, 0, none⟩)) (ptrTo (karr 64 (kint .u32)) G_digest_rounds)))] a w → K11 a w := by
     intro a41 w41 h9 s41
     unfold caballaw13_JournalKept.j1 at h9
     refine hK11 _ _ ?_
     obtain ⟨x4, e_x4, h10⟩ := bind_some h9; clear h9
     refine wp_seq_k fun K13 hK13 => wp_region_lit (qs s41 (.c1 rfl (ob_callD0 (args := []) rfl .direct hb6 (fun a w s => by exact c_caballaw13_alive k _ e_x4 _ _ (s.env _ _ (show get _ 100000 = _ from rfl)) (s.env _ _ (show get _ 100001 = _ from rfl)))) (.c1 rfl (ob_assign rfl (.tmp rfl)) (.ce (u 2 rfl (u 100000 rfl (u 100001 rfl .nil)))))) fun _ _ s44 => wn hK13 ?_); clear s41
     refine wp_ret ?_
     obtain rfl := Option.some.inj h10
     exact leave s44 (.inl rfl) rfl (.cons (.tmp rfl) .nil)
    refine wp_block ?_
    have s45 := s40.perm (toFront [_, _] (toFront [_] (toFront [] (toFront [] (toFront [] (List.Perm.refl _)))))); clear s40
    refine wp_loop_fuel (fun m (q : Int × Int × Bool × Int × (List Int) × (List (List Int)) × (List (List Int)) × (List (List Int)) × (List disk_write)) => caballaw13_JournalKept.l1 k p1 m q.1 q.2.1 q.2.2.1 q.2.2.2.1 q.2.2.2.2.1 q.2.2.2.2.2.1 q.2.2.2.2.2.2.1 q.2.2.2.2.2.2.2.1 q.2.2.2.2.2.2.2.2) r (fun _ => rfl) (fun q a w => ∃ (b3 : Nat) (v5 : Value) (v6 : Value) (v7 : Value), St ⟨66, w0, ok, []⟩ [BF b1 68 (ko_disk_Disk_0_1 v6 v7) (⟨[], [], q.2.1, q.2.2.1⟩ : disk_Disk), BF b3 70 (ko_journal_Journal_0 (.pointer (some ⟨b1, 0, none⟩))) (⟨(), q.2.2.2.1, q.2.2.2.2.1, q.2.2.2.2.2.1⟩ : journal_Journal), RowF v5 9 kstr q.2.2.2.2.2.2.1, RowF v6 100 (karr 256 (kint .u8)) q.2.2.2.2.2.2.2.1, RowF v7 102 k_disk_write q.2.2.2.2.2.2.2.2] [(0, ((ksl k_caballaw13_Act).V p1)), (3, (ptrB b1 0)), (4, (ptrB b3 0)), (6, (is v5)), (7, ((kint .i64).V q.1)), (100000, (known (.pointer (some ⟨0, 0, none⟩)) (ptrTo (karr 8 (kint .u32)) G_digest_first))), (100001, (known (.pointer (some ⟨1, 0, none⟩)) (ptrTo (karr 64 (kint .u32)) G_digest_rounds)))] a w) ?_ k ((0 : Int), x3.2.2.2.fuse, x3.2.2.2.dead, x3.2.1.area, x3.2.1.bytes, x3.2.1.l, ([] : (List (List Int))), x3.2.2.2.firm, x3.2.2.2.loose) _ _ h8 ⟨b2, (nilRow 11), v3, v4, (s45.sub (.cons rfl (.cons rfl (.cons rfl (.cons rfl (.cons rfl (.cons rfl (.cons rfl .nil))))))))⟩
    rintro n1 ⟨y1, y2, y3, y4, y5, y6, y7, y8, y9⟩ a46 w46 h11 ⟨b3, v5, v6, v7, s46⟩ K14 hK14
    replace h11 : caballaw13_JournalKept.l1 k p1 (n1 + 1) y1 y2 y3 y4 y5 y6 y7 y8 y9 = some r := h11; rw [caballaw13_JournalKept.l1] at h11
    have h12 := h11; clear h11
    refine wp_seq_k fun K15 hK15 => wp_seq_k fun K16 hK16 => ?_
    obtain ⟨x5, e_x5, h13⟩ := bind_some h12; clear h12; replace e_x5 := Option.some.inj e_x5
    refine wp_region_lit (qs s46 (.c1 rfl (mv rfl rfl) (.c1 rfl (mv rfl rfl) (.c1 rfl (ob_lens rfl Tryd.underlying22 (.tmp rfl)) (.c1 rfl (ob_lss rfl (.tmp rfl) (.tmp rfl)) (.c1 rfl (mv rfl rfl) (.cg rfl rfl rfl rfl (fun hb => ob_move rfl (.tmp rfl)) (.cg rfl rfl rfl rfl (fun hb => (Ob.uncond (t := 24) hb rfl (ob_lss rfl (.tmp rfl) (opd_int rfl)))) (.c1 rfl ((ob_and2 rfl (.tmp rfl) (.tmp rfl) opd_bool).nm e_x5) (.ce (u 0 rfl (u 3 rfl (u 4 rfl (u 6 rfl (u 7 rfl (u 26 rfl (u 100000 rfl (u 100001 rfl .nil))))))))))))))))) fun _ _ s55 => wn hK16 ?_); clear s46
    refine cond_split s55 (.tmp rfl) (fun hc4 => ?_) (fun hc4 => ?_)
    ·have h14 := ite_t hc4 h13; clear h13
     refine wp_skip ?_
     refine then_normal (hK15 _ _ ?_)
     have s56 := s55.sub (u 0 rfl (u 3 rfl (u 4 rfl (u 6 rfl (u 7 rfl (u 100000 rfl (u 100001 rfl .nil))))))); clear s55
     refine wp_seq_k fun K17 hK17 => ?_
     have hj2 : ∀ (y10 : Int) (y11 : Bool) (y12 : Int) (y13 : (List Int)) (y14 : (List (List Int))) (y15 : (List (List Int))) (y16 : (List (List Int))) (y17 : (List disk_write)) (b4 : Nat) (v8 : Value) (v9 : Value) (v10 : Value) (a : Act) (w : World), (caballaw13_JournalKept.j2 k y1 (caballaw13_JournalKept.l1 k p1 n1)) y10 y11 y12 y13 y14 y15 y16 y17 = some r → St ⟨66, w0, ok, []⟩ [BF b1 68 (ko_disk_Disk_0_1 v9 v10) (⟨[], [], y10, y11⟩ : disk_Disk), BF b4 70 (ko_journal_Journal_0 (.pointer (some ⟨b1, 0, none⟩))) (⟨(), y12, y13, y14⟩ : journal_Journal), RowF v8 9 kstr y15, RowF v9 100 (karr 256 (kint .u8)) y16, RowF v10 102 k_disk_write y17] [(0, ((ksl k_caballaw13_Act).V p1)), (3, (ptrB b1 0)), (4, (ptrB b4 0)), (6, (is v8)), (7, ((kint .i64).V y1)), (100000, (known (.pointer (some ⟨0, 0, none⟩)) (ptrTo (karr 8 (kint .u32)) G_digest_first))), (100001, (known (.pointer (some ⟨1, 0, none⟩)) (ptrTo (karr 64 (kint .u32)) G_digest_rounds)))] a w → K17 a w := by
      intro y10 y11 y12 y13 y14 y15 y16 y17 b4 v8 v9 v10 a57 w57 h15 s57
      unfold caballaw13_JournalKept.j2 at h15
      refine hK17 _ _ ?_
      refine wp_region_lit (qs s57 (.c1 rfl (mv rfl rfl) (.c1 rfl (ob_add rfl (.tmp rfl) (opd_int rfl)) (.c1 rfl (ob_assign rfl (.tmp rfl)) .cz))) fun _ _ s60 => ?_); clear s57
      refine wpList_nil ?_
      refine then_normal ?_
      exact hK14 ((iadd .i64 y1 (1 : Int)), y10, y11, y12, y13, y14, y15, y16, y17) _ _ h15 ⟨b4, v8, v9, v10, (s60.sub (.cons rfl (.cons rfl (.cons rfl (.cons rfl (.cons rfl (.cons rfl (.cons rfl .nil))))))))⟩
     refine wp_block ?_
     obtain ⟨x6, e_x6, h16⟩ := bind_some h14; clear h14
     refine wp_seq_k fun K18 hK18 => wp_region_lit (qs s56 (.c1 rfl (mv rfl rfl) (.c1 rfl (mv rfl rfl) (.c1 rfl (ob_indexAddrs rfl Tryd.underlying22 sz33 (.tmp rfl) (.tmp rfl) e_x6) (.c1 rfl (ob_loadr rfl tk33 (.tmp rfl)) .cz)))) fun _ _ s64 => ?_); clear s56
     refine qx (B' := (fun b5 : Nat => [BF b5 33 k_caballaw13_Act (⟨(0 : Int), (0 : Int), [], []⟩ : caballaw13_Act), BF b1 68 (ko_disk_Disk_0_1 v6 v7) (⟨[], [], y2, y3⟩ : disk_Disk), BF b3 70 (ko_journal_Journal_0 (.pointer (some ⟨b1, 0, none⟩))) (⟨(), y4, y5, y6⟩ : journal_Journal), RowF v5 9 kstr y7, RowF v6 100 (karr 256 (kint .u8)) y8, RowF v7 102 k_disk_write y9])) s64 rfl (ob_new (k := k_caballaw13_Act) rfl zz33 (Zr.iso (f := t_caballaw13_Act) (x := (⟨(0 : Int), (0 : Int), [], []⟩ : caballaw13_Act)) (Zr.pair (Zr.int .i64) (Zr.pair (Zr.int .i64) (Zr.pair (Zr.sl _) (Zr.pair (Zr.sl _) Zr.nil)))))) fun b5 _ _ s65 => ?_; clear s64
     refine seq_opx0 (B' := (fun _ : Unit => [BF b5 33 k_caballaw13_Act x6, BF b1 68 (ko_disk_Disk_0_1 v6 v7) (⟨[], [], y2, y3⟩ : disk_Disk), BF b3 70 (ko_journal_Journal_0 (.pointer (some ⟨b1, 0, none⟩))) (⟨(), y4, y5, y6⟩ : journal_Journal), RowF v5 9 kstr y7, RowF v6 100 (karr 256 (kint .u8)) y8, RowF v7 102 k_disk_write y9])) s65 rfl rfl (ob_store (A := []) rfl tk33 (.tmp rfl) (.tmp rfl) rfl (LS.refl _ _ _) rfl) fun _ a66 w66 s66 => ?_; clear s65
     refine wn hK18 ?_
     have s67 := s66.sub (u 0 rfl (u 3 rfl (u 4 rfl (u 6 rfl (u 7 rfl (u 8 rfl (u 100000 rfl (u 100001 rfl .nil)))))))); clear s66
     refine wp_seq_k fun K19 hK19 => wp_seq_k fun K20 hK20 => ?_
     obtain ⟨x7, e_x7, h17⟩ := bind_some h16; clear h16
     refine wp_region_lit (qs s67 (.c1 rfl (ob_fieldAddr (off' := 2) rfl Tryd.underlying33 rfl sz30 (by decide) (.tmp rfl) rfl) (.c1 rfl (ob_load rfl tk30 (.tmp rfl) (.head _) (lg_caballaw13_Act_L x6)) (.c1 rfl (ob_callD0 (args := [_]) rfl .direct hb9 (fun a w s => by exact c_caballaw13_great k _ _ e_x7 _ _ _ (s.arg (.tmp rfl)))) (.ce (u 0 rfl (u 3 rfl (u 4 rfl (u 6 rfl (u 7 rfl (u 8 rfl (u 35 rfl (u 100000 rfl (u 100001 rfl .nil))))))))))))) fun _ _ s71 => wn hK20 ?_); clear s67
     refine cond_split s71 (.tmp rfl) (fun hc5 => ?_) (fun hc5 => ?_)
     ·have h18 := ite_t hc5 h17; clear h17
      refine wp_exit ?_
      refine (then_exit (in_here ?_))
      refine then_normal ?_
      have s72 := St.drop (A := []) s71; clear s71
      exact hj2 y2 y3 y4 y5 y6 y7 y8 y9 b3 v5 v6 v7 _ _ h18 (s72.sub (.cons rfl (.cons rfl (.cons rfl (.cons rfl (.cons rfl (.cons rfl (.cons rfl .nil))))))))
     ·have h19 := ite_f hc5 h17; clear h17
      refine wp_skip ?_
      refine then_normal (hK19 _ _ ?_)
      have s73 := s71.sub (u 0 rfl (u 3 rfl (u 4 rfl (u 6 rfl (u 7 rfl (u 8 rfl (u 100000 rfl (u 100001 rfl .nil)))))))); clear s71
      refine wp_seq_k fun K21 hK21 => wp_seq_k fun K22 hK22 => ?_
      refine wp_region_lit (qs s73 (.c1 rfl (ob_fieldAddr (off' := 0) rfl Tryd.underlying33 rfl sz3 (by decide) (.tmp rfl) rfl) (.c1 rfl (ob_load rfl tk3 (.tmp rfl) (.head _) (lg_caballaw13_Act_Kind x6)) (.c1 rfl (ob_rem rfl (.tmp rfl) (opd_int rfl) (by decide)) (.c1 rfl (ob_eql rfl (.tmp rfl) (opd_int rfl)) (.ce (u 0 rfl (u 3 rfl (u 4 rfl (u 6 rfl (u 7 rfl (u 8 rfl (u 39 rfl (u 100000 rfl (u 100001 rfl .nil)))))))))))))) fun _ _ s78 => wn hK22 ?_); clear s73
      have hj3 : ∀ (y18 : Int) (y19 : Bool) (y20 : Int) (y21 : (List Int)) (y22 : (List (List Int))) (y23 : (List (List Int))) (y24 : (List disk_write)) (b6 : Nat) (v11 : Value) (v12 : Value) (a : Act) (w : World), (caballaw13_JournalKept.j3 k x6 y7 y1 (caballaw13_JournalKept.l1 k p1 n1)) y18 y19 y20 y21 y22 y23 y24 = some r → St ⟨66, w0, ok, []⟩ [BF b1 68 (ko_disk_Disk_0_1 v11 v12) (⟨[], [], y18, y19⟩ : disk_Disk), BF b6 70 (ko_journal_Journal_0 (.pointer (some ⟨b1, 0, none⟩))) (⟨(), y20, y21, y22⟩ : journal_Journal), BF b5 33 k_caballaw13_Act x6, RowF v5 9 kstr y7, RowF v11 100 (karr 256 (kint .u8)) y23, RowF v12 102 k_disk_write y24] [(0, ((ksl k_caballaw13_Act).V p1)), (3, (ptrB b1 0)), (4, (ptrB b6 0)), (6, (is v5)), (7, ((kint .i64).V y1)), (8, (ptrB b5 0)), (100000, (known (.pointer (some ⟨0, 0, none⟩)) (ptrTo (karr 8 (kint .u32)) G_digest_first))), (100001, (known (.pointer (some ⟨1, 0, none⟩)) (ptrTo (karr 64 (kint .u32)) G_digest_rounds)))] a w → K21 a w := by
       intro y18 y19 y20 y21 y22 y23 y24 b6 v11 v12 a79 w79 h20 s79
       unfold caballaw13_JournalKept.j3 at h20
       refine hK21 _ _ ?_
       refine wp_seq_k fun K23 hK23 => wp_seq_k fun K24 hK24 => ?_
       obtain ⟨x8, e_x8, h21⟩ := bind_some h20; clear h20
       refine wp_region_lit (qs s79 (.c1 rfl (mv rfl rfl) (.c1 rfl (ob_fieldAddr (off' := 2) rfl Tryd.underlying33 rfl sz30 (by decide) (.tmp rfl) rfl) (.c1 rfl (ob_load rfl tk30 (.tmp rfl) (.tail _ (.tail _ (.head _))) (lg_caballaw13_Act_L x6)) .cz))) fun _ _ s82 => ?_); clear s79
       refine qx (B' := (fun gg : Value × Value => [BF b6 70 (ko_journal_Journal_0 (.pointer (some ⟨b1, 0, none⟩))) (⟨(), x8.2.1.area, x8.2.1.bytes, x8.2.1.l⟩ : journal_Journal), BF b1 68 (ko_disk_Disk_0_1 gg.1 gg.2) (⟨[], [], x8.2.2.fuse, x8.2.2.dead⟩ : disk_Disk), RowF gg.1 100 (karr 256 (kint .u8)) x8.2.2.firm, RowF gg.2 102 k_disk_write x8.2.2.loose, BF b5 33 k_caballaw13_Act x6, RowF v5 9 kstr y7])) s82 rfl (ob_callL0 (args := [_, _]) (L := [_, _, _, _]) rfl .direct hb11 (toFront [_] (toFront [] (toFront [_, _] (toFront [_, _] (List.Perm.refl _))))) (fun a w s => by exact c_journal_Journal_Append k _ _ _ _ e_x8 _ _ (s.env _ _ (show get _ 100000 = _ from rfl)) (s.env _ _ (show get _ 100001 = _ from rfl)) _ _ _ _ _ _ (ownL s) (disL s) (nodL s) (s.arg (.tmp rfl)) (s.arg (.tmp rfl))) (by exact fun _ => rfl)) fun gg83 _ _ s83 => ?_; clear s82
       obtain ⟨v13, v14⟩ := gg83
       refine qs s83 (.c1 rfl (ob_eql rfl (.tmp rfl) (opd_int rfl)) (.ce (u 0 rfl (u 3 rfl (u 4 rfl (u 6 rfl (u 7 rfl (u 8 rfl (u 55 rfl (u 100000 rfl (u 100001 rfl .nil))))))))))) fun _ _ s85 => wn hK24 ?_; clear s83
       have hj4 : ∀ (y25 : (List (List Int))) (v15 : Value) (a : Act) (w : World), (caballaw13_JournalKept.j4 k x8 y1 (caballaw13_JournalKept.l1 k p1 n1)) y25 = some r → St ⟨66, w0, ok, []⟩ [BF b1 68 (ko_disk_Disk_0_1 v13 v14) (⟨[], [], x8.2.2.fuse, x8.2.2.dead⟩ : disk_Disk), BF b6 70 (ko_journal_Journal_0 (.pointer (some ⟨b1, 0, none⟩))) (⟨(), x8.2.1.area, x8.2.1.bytes, x8.2.1.l⟩ : journal_Journal), RowF v15 9 kstr y25, RowF v13 100 (karr 256 (kint .u8)) x8.2.2.firm, RowF v14 102 k_disk_write x8.2.2.loose] [(0, ((ksl k_caballaw13_Act).V p1)), (3, (ptrB b1 0)), (4, (ptrB b6 0)), (6, (is v15)), (7, ((kint .i64).V y1)), (100000, (known (.pointer (some ⟨0, 0, none⟩)) (ptrTo (karr 8 (kint .u32)) G_digest_first))), (100001, (known (.pointer (some ⟨1, 0, none⟩)) (ptrTo (karr 64 (kint .u32)) G_digest_rounds)))] a w → K23 a w := by
        intro y25 v15 a86 w86 h22 s86
        unfold caballaw13_JournalKept.j4 at h22
        refine hK23 _ _ ?_
        obtain ⟨x9, e_x9, h23⟩ := bind_some h22; clear h22
        refine wp_seq_k fun K25 hK25 => wp_region_lit (qs s86 (.c1 rfl (mv rfl rfl) .cz) fun _ _ s87 => ?_); clear s86
        refine qx (B' := (fun v16 : Value => [RowF v16 9 kstr x9, BF b6 70 (ko_journal_Journal_0 (.pointer (some ⟨b1, 0, none⟩))) (⟨(), x8.2.1.area, x8.2.1.bytes, x8.2.1.l⟩ : journal_Journal), BF b1 68 (ko_disk_Disk_0_1 v13 v14) (⟨[], [], x8.2.2.fuse, x8.2.2.dead⟩ : disk_Disk), RowF v13 100 (karr 256 (kint .u8)) x8.2.2.firm, RowF v14 102 k_disk_write x8.2.2.loose, RowF v15 9 kstr y25])) s87 rfl (ob_callL0 (args := [_]) (L := [_, _, _, _]) rfl .direct hb13 (toFront [_] (toFront [] (toFront [_] (toFront [_] (List.Perm.refl _))))) (fun a w s => by exact c_journal_Journal_Records_w2 k _ _ _ e_x9 _ _ _ _ _ _ _ (ownL s) (disL s) (nodL s) (s.arg (.tmp rfl))) (by exact fun _ => rfl)) fun v16 _ _ s88 => ?_; clear s87
        obtain ⟨x10, e_x10, h24⟩ := bind_some h23; clear h23
        refine qs s88 (.c1 rfl (mv rfl rfl) (.c1 rfl ((ob_lendG (L := [_, _]) (toFront [] (toFront [_, _, _, _] (List.Perm.refl _))) (.cons (t := 61) rfl (lendRow (.head _)) (.cons (t := 62) rfl (lendRow (.tail _ (.head _))) .nil)) (Flat.res1 (Flat.V KFlat.bool)) (fun _ => ob_callD0 (args := [_, _]) rfl .direct hb12 (fun a w s => by exact c_cabalref13_Same k _ _ _ e_x10 _ _ _ _ (s.arg (.tmp rfl)) (s.arg (.tmp rfl)))))) (.c1 rfl (ob_not rfl (.tmp rfl)) (.ce (u 0 rfl (u 3 rfl (u 4 rfl (u 6 rfl (u 7 rfl (u 64 rfl (u 100000 rfl (u 100001 rfl .nil)))))))))))) fun _ _ s92 => wn hK25 ?_; clear s88
        have s93 := St.drop (A := []) s92; clear s92
        refine cond_split s93 (.tmp rfl) (fun hc6 => ?_) (fun hc6 => ?_)
        ·have h25 := ite_t hc6 h24; clear h24
         refine wp_seq_k fun K26 hK26 => wp_region_lit (qs s93 (.c1 rfl (ob_assign rfl opd_bool) (.ce (u 2 rfl (u 100000 rfl (u 100001 rfl .nil))))) fun _ _ s95 => wn hK26 ?_); clear s93
         have s96 := St.drop (A := []) s95; clear s95
         have s97 := St.drop (A := []) s96; clear s96
         have s98 := St.drop (A := []) s97; clear s97
         have s99 := St.drop (A := []) s98; clear s98
         have s100 := St.drop (A := []) s99; clear s99
         refine wp_ret ?_
         obtain rfl := Option.some.inj h25
         exact leave s100 (.inl rfl) rfl (.cons (.tmp rfl) .nil)
        ·have h26 := ite_f hc6 h24; clear h24
         refine wp_skip ?_
         refine in_normal ?_
         refine then_normal ?_
         have s101 := s93.perm (toFront [_] (toFront [] (toFront [_, _] (toFront [] (toFront [] (List.Perm.refl _)))))); clear s93
         exact hj2 x8.2.2.fuse x8.2.2.dead x8.2.1.area x8.2.1.bytes x8.2.1.l y25 x8.2.2.firm x8.2.2.loose b6 v15 v13 v14 _ _ h26 (s101.sub (.cons rfl (.cons rfl (.cons rfl (.cons rfl (.cons rfl (.cons rfl (.cons rfl .nil))))))))
       refine cond_split s85 (.tmp rfl) (fun hc7 => ?_) (fun hc7 => ?_)
       ·have h27 := ite_t hc7 h21; clear h21
        obtain ⟨g1, h28⟩ := guard_some h27; clear h27
        refine wp_region_lit (qs s85 (.c1 rfl (mv rfl rfl) (.c1 rfl (ob_fieldAddr (off' := 2) rfl Tryd.underlying33 rfl sz30 (by decide) (.tmp rfl) rfl) (.c1 rfl (ob_load rfl tk30 (.tmp rfl) (.tail _ (.tail _ (.tail _ (.tail _ (.head _))))) (lg_caballaw13_Act_L x6)) .cz))) fun _ _ s104 => ?_); clear s85
        refine qx (B' := (fun v17 : Value => [BF b6 70 (ko_journal_Journal_0 (.pointer (some ⟨b1, 0, none⟩))) (⟨(), x8.2.1.area, x8.2.1.bytes, x8.2.1.l⟩ : journal_Journal), BF b1 68 (ko_disk_Disk_0_1 v13 v14) (⟨[], [], x8.2.2.fuse, x8.2.2.dead⟩ : disk_Disk), RowF v13 100 (karr 256 (kint .u8)) x8.2.2.firm, RowF v14 102 k_disk_write x8.2.2.loose, BF b5 33 k_caballaw13_Act x6, RowF v17 9 kstr (y7 ++ x6.L)])) s104 rfl (ob_appendL2 (A := [_, _, _, _, _]) rfl Tryd.underlying30 ap9 Zr.str (by decide) (.tmp rfl) (.tmp rfl) rfl g1) fun v17 _ _ s105 => ?_; clear s104
        refine qs s105 (.c1 rfl (ob_assign rfl (.tmp rfl)) .cz) fun _ _ s106 => ?_; clear s105
        refine wpList_nil ?_
        refine then_normal ?_
        have s107 := St.drop (A := [_, _, _, _]) s106; clear s106
        have s108 := s107.perm (toFront [_] (toFront [] (toFront [_, _] (toFront [] (toFront [] (List.Perm.refl _)))))); clear s107
        exact hj4 (y7 ++ x6.L) v17 _ _ h28 (s108.sub (.cons rfl (.cons rfl (.cons rfl (.cons rfl (.cons rfl (.cons rfl (.cons rfl .nil))))))))
       ·have h29 := ite_f hc7 h21; clear h21
        refine wp_skip ?_
        refine then_normal ?_
        have s109 := St.drop (A := [_, _, _, _]) s85; clear s85
        have s110 := s109.perm (toFront [_] (toFront [] (toFront [_, _] (toFront [] (toFront [] (List.Perm.refl _)))))); clear s109
        exact hj4 y7 v5 _ _ h29 (s110.sub (.cons rfl (.cons rfl (.cons rfl (.cons rfl (.cons rfl (.cons rfl (.cons rfl .nil))))))))
      refine cond_split s78 (.tmp rfl) (fun hc8 => ?_) (fun hc8 => ?_)
      ·have h30 := ite_t hc8 h19; clear h19
       obtain ⟨x11, e_x11, h31⟩ := bind_some h30; clear h30
       refine wp_seq_k fun K27 hK27 => wp_region_lit (qs s78 (.c1 rfl (mv rfl rfl) (.c1 rfl (ob_fieldAddr (off' := 3) rfl Tryd.underlying33 rfl sz31 (by decide) (.tmp rfl) rfl) (.c1 rfl (ob_load rfl tk31 (.tmp rfl) (.head _) (lg_caballaw13_Act_Keep x6)) .cz))) fun _ _ s113 => ?_); clear s78
       refine qx (B' := (fun gg : Value × Value => [BF b1 68 (ko_disk_Disk_0_1 gg.1 gg.2) (⟨[], [], x11.fuse, x11.dead⟩ : disk_Disk), RowF gg.1 100 (karr 256 (kint .u8)) x11.firm, RowF gg.2 102 k_disk_write x11.loose, BF b5 33 k_caballaw13_Act x6, BF b3 70 (ko_journal_Journal_0 (.pointer (some ⟨b1, 0, none⟩))) (⟨(), y4, y5, y6⟩ : journal_Journal), RowF v5 9 kstr y7])) s113 rfl (ob_callL0 (args := [_, _]) (L := [_, _, _]) rfl .direct hb10 (toFront [_] (toFront [_, _, _] (toFront [_, _, _] (List.Perm.refl _)))) (fun a w s => by exact c_disk_Disk_Crash k _ _ _ e_x11 _ _ _ _ _ _ _ (ownL s) (disL s) (nodL s) (s.arg (.tmp rfl)) (s.arg (.tmp rfl))) (by exact fun _ => rfl)) fun gg114 _ _ s114 => ?_; clear s113
       obtain ⟨v18, v19⟩ := gg114
       refine wn hK27 ?_
       have s115 := s114.sub (u 0 rfl (u 3 rfl (u 6 rfl (u 7 rfl (u 8 rfl (u 100000 rfl (u 100001 rfl .nil))))))); clear s114
       have s116 := St.drop (A := [_, _, _, _]) s115; clear s115
       obtain ⟨x12, e_x12, h32⟩ := bind_some h31; clear h31
       refine wp_seq_k fun K28 hK28 => wp_region_lit (qs s116 (.c1 rfl (mv rfl rfl) .cz) fun _ _ s117 => ?_); clear s116
       refine qx (B' := (fun gg : Nat × Value × Value => [whenO x12.1 (BF gg.1 70 (ko_journal_Journal_0 (.pointer (some ⟨b1, 0, none⟩))) (⟨(), x12.2.1.area, x12.2.1.bytes, x12.2.1.l⟩ : journal_Journal)), BF b1 68 (ko_disk_Disk_0_1 gg.2.1 gg.2.2) (⟨[], [], x12.2.2.2.fuse, x12.2.2.2.dead⟩ : disk_Disk), RowF gg.2.1 100 (karr 256 (kint .u8)) x12.2.2.2.firm, RowF gg.2.2 102 k_disk_write x12.2.2.2.loose, BF b5 33 k_caballaw13_Act x6, RowF v5 9 kstr y7])) s117 rfl (ob_callL0 (args := [_]) (L := [_, _, _]) rfl .direct hb8 (List.Perm.refl _) (fun a w s => by exact c_journal_Open k _ _ e_x12 _ _ (s.env _ _ (show get _ 100000 = _ from rfl)) (s.env _ _ (show get _ 100001 = _ from rfl)) _ _ _ _ (ownL s) (disL s) (nodL s) (s.arg (.tmp rfl))) (by exact fun _ => rfl)) fun gg118 _ _ s118 => ?_; clear s117
       obtain ⟨b7, v20, v21⟩ := gg118
       refine qs s118 (.c1 rfl (mv rfl rfl) (.c1 rfl (ob_extract rfl (.tmp rfl) rfl) (.c1 rfl (ob_extract rfl (.tmp rfl) rfl) (.c1 rfl (ob_assign rfl (.tmp rfl)) (.c1 rfl (ob_assign rfl (.tmp rfl)) .cz))))) fun _ _ s123 => ?_; clear s118
       refine wpList_nil ?_
       refine bool_split x12.1 (fun hc9 => ?_) (fun hc9 => ?_)
       ·have h33 := ite_t hc9 h32; clear h32
        have s124 := St.whenT hc9 s123; clear s123
        have s125 := St.optT (t := 47) hc9 rfl s124; clear s124
        have s126 := St.optT (t := 4) hc9 rfl s125; clear s125
        refine then_normal (hK28 _ _ ?_)
        have s127 := s126.sub (u 0 rfl (u 3 rfl (u 4 rfl (u 5 rfl (u 6 rfl (u 7 rfl (u 8 rfl (u 100000 rfl (u 100001 rfl .nil))))))))); clear s126
        refine wp_seq_k fun K29 hK29 => wp_region_lit (qs s127 (.c1 rfl (mv rfl rfl) (.c1 rfl (ob_neq rfl (.tmp rfl) (opd_int rfl)) (.ce (u 0 rfl (u 3 rfl (u 4 rfl (u 6 rfl (u 7 rfl (u 8 rfl (u 50 rfl (u 100000 rfl (u 100001 rfl .nil)))))))))))) fun _ _ s130 => wn hK29 ?_); clear s127
        refine cond_split s130 (.tmp rfl) (fun hc10 => ?_) (fun hc10 => ?_)
        ·have h34 := ite_t hc10 h33; clear h33
         refine wp_seq_k fun K30 hK30 => wp_region_lit (qs s130 (.c1 rfl (ob_assign rfl opd_bool) (.ce (u 2 rfl (u 100000 rfl (u 100001 rfl .nil))))) fun _ _ s132 => wn hK30 ?_); clear s130
         have s133 := St.drop (A := []) s132; clear s132
         have s134 := St.drop (A := []) s133; clear s133
         have s135 := St.drop (A := []) s134; clear s134
         have s136 := St.drop (A := []) s135; clear s135
         have s137 := St.drop (A := []) s136; clear s136
         have s138 := St.drop (A := []) s137; clear s137
         refine wp_ret ?_
         obtain rfl := Option.some.inj h34
         exact leave s138 (.inl rfl) rfl (.cons (.tmp rfl) .nil)
        ·have h35 := ite_f hc10 h33; clear h33
         refine wp_skip ?_
         refine then_normal ?_
         have s139 := s130.perm (toFront [_] (toFront [] (toFront [_, _] (toFront [_, _] (toFront [] (toFront [] (List.Perm.refl _))))))); clear s130
         exact hj3 x12.2.2.2.fuse x12.2.2.2.dead x12.2.1.area x12.2.1.bytes x12.2.1.l x12.2.2.2.firm x12.2.2.2.loose b7 v20 v21 _ _ h35 (s139.sub (.cons rfl (.cons rfl (.cons rfl (.cons rfl (.cons rfl (.cons rfl (.cons rfl (.cons rfl .nil)))))))))
       ·have h36 := ite_f hc9 h32; clear h32
        have s140 := St.whenF hc9 s123; clear s123
        have s141 := St.optF (t := 47) hc9 rfl s140; clear s140
        have s142 := St.optF (t := 4) hc9 rfl s141; clear s141
        refine then_normal (hK28 _ _ ?_)
        have s143 := s142.sub (u 0 rfl (u 3 rfl (u 4 rfl (u 5 rfl (u 6 rfl (u 7 rfl (u 8 rfl (u 100000 rfl (u 100001 rfl .nil))))))))); clear s142
        refine wp_seq_k fun K31 hK31 => wp_region_lit (qs s143 (.c1 rfl (mv rfl rfl) (.c1 rfl (ob_neq rfl (.tmp rfl) (opd_int rfl)) (.ce (u 0 rfl (u 3 rfl (u 4 rfl (u 6 rfl (u 7 rfl (u 8 rfl (u 50 rfl (u 100000 rfl (u 100001 rfl .nil)))))))))))) fun _ _ s146 => wn hK31 ?_); clear s143
        refine cond_split s146 (.tmp rfl) (fun hc11 => ?_) (fun hc11 => ?_)
        ·have h37 := ite_t hc11 h36; clear h36
         refine wp_seq_k fun K32 hK32 => wp_region_lit (qs s146 (.c1 rfl (ob_assign rfl opd_bool) (.ce (u 2 rfl (u 100000 rfl (u 100001 rfl .nil))))) fun _ _ s148 => wn hK32 ?_); clear s146
         have s149 := St.drop (A := []) s148; clear s148
         have s150 := St.drop (A := []) s149; clear s149
         have s151 := St.drop (A := []) s150; clear s150
         have s152 := St.drop (A := []) s151; clear s151
         have s153 := St.drop (A := []) s152; clear s152
         refine wp_ret ?_
         obtain rfl := Option.some.inj h37
         exact leave s153 (.inl rfl) rfl (.cons (.tmp rfl) .nil)
        ·have h38 := ite_f hc11 h36; clear h36
         cases h38
      ·have h39 := ite_f hc8 h19; clear h19
       refine wp_skip ?_
       refine then_normal ?_
       have s154 := s78.perm (toFront [_] (toFront [_] (toFront [] (toFront [] (toFront [] (toFront [] (List.Perm.refl _))))))); clear s78
       exact hj3 y2 y3 y4 y5 y6 y8 y9 b3 v6 v7 _ _ h39 (s154.sub (.cons rfl (.cons rfl (.cons rfl (.cons rfl (.cons rfl (.cons rfl (.cons rfl (.cons rfl .nil)))))))))
    ·have h40 := ite_f hc4 h13; clear h13
     refine wp_exit ?_
     refine (then_exit (then_exit (in_here ?_)))
     refine then_normal ?_
     have s155 := St.drop (A := []) s55; clear s55
     have s156 := St.drop (A := []) s155; clear s155
     have s157 := St.drop (A := []) s156; clear s156
     have s158 := St.drop (A := []) s157; clear s157
     have s159 := St.drop (A := []) s158; clear s158
     exact hj1 _ _ h40 (s159.sub (.cons rfl (.cons rfl .nil)))
  ·have h41 := ite_f hc2 h5; clear h5
   have s160 := St.whenF hc2 s21; clear s21
   have s161 := St.optF (t := 15) hc2 rfl s160; clear s160
   have s162 := St.optF (t := 4) hc2 rfl s161; clear s161
   refine then_normal (hK6 _ _ ?_)
   have s163 := s162.sub (u 0 rfl (u 3 rfl (u 4 rfl (u 5 rfl (u 100000 rfl (u 100001 rfl .nil)))))); clear s162
   refine wp_seq_k fun K33 hK33 => wp_seq_k fun K34 hK34 => ?_
   refine wp_region_lit (qs s163 (.c1 rfl (mv rfl rfl) (.c1 rfl (ob_neq rfl (.tmp rfl) (opd_int rfl)) (.ce (u 0 rfl (u 3 rfl (u 4 rfl (u 18 rfl (u 100000 rfl (u 100001 rfl .nil))))))))) fun _ _ s166 => wn hK34 ?_); clear s163
   refine cond_split s166 (.tmp rfl) (fun hc12 => ?_) (fun hc12 => ?_)
   ·have h42 := ite_t hc12 h41; clear h41
    refine wp_seq_k fun K35 hK35 => wp_region_lit (qs s166 (.c1 rfl (ob_assign rfl opd_bool) (.ce (u 2 rfl (u 100000 rfl (u 100001 rfl .nil))))) fun _ _ s168 => wn hK35 ?_); clear s166
    have s169 := St.drop (A := []) s168; clear s168
    have s170 := St.drop (A := []) s169; clear s169
    have s171 := St.drop (A := []) s170; clear s170
    refine wp_ret ?_
    obtain rfl := Option.some.inj h42
    exact leave s171 (.inl rfl) rfl (.cons (.tmp rfl) .nil)
   ·have h43 := ite_f hc12 h41; clear h41
    cases h43
end Go.Proofs.YtjbjladhgmknnaaDoor
