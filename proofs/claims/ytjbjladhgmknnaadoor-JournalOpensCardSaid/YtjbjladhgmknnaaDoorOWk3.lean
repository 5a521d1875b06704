/- Several parts of this proof in one file. No condition. -/
import Derived.Test.YtjbjladhgmknnaaDoorOWk2
namespace Go.Proofs.YtjbjladhgmknnaaDoor
open Go Go.RowKit Go.Proofs.Kit Go.Proofs.Pure
set_option linter.unusedVariables false
set_option linter.unusedSimpArgs false
set_option maxRecDepth 100000
set_option maxHeartbeats 2000000
theorem c_journal_Journal_Append (k : Nat) (p1 : journal_Journal) (p2 : (List (List Int))) (p3 : disk_Disk) (r : (Int × journal_Journal × disk_Disk)) (h0 : journal_Journal_Append k p1 p2 p3 = some r) (ok : Ok) (w0 : World) (gl0 : (ptrTo (karr 8 (kint .u32)) G_digest_first).holds ok w0 (.pointer (some ⟨0, 0, none⟩))) (gl1 : (ptrTo (karr 64 (kint .u32)) G_digest_rounds).holds ok w0 (.pointer (some ⟨1, 0, none⟩))) (z0 : Value) (z1 : Value) (b00 : Nat) (b01 : Nat) (w1_0 : Value) (w1_1 : Value) (l0 : ∀ q, q ∈ [BF b00 70 (ko_journal_Journal_0 (.pointer (some ⟨b01, 0, none⟩))) (⟨(), p1.area, p1.bytes, p1.l⟩ : journal_Journal), BF b01 68 (ko_disk_Disk_0_1 w1_0 w1_1) (⟨[], [], p3.fuse, p3.dead⟩ : disk_Disk), RowF w1_0 100 (karr 256 (kint .u8)) p3.firm, RowF w1_1 102 k_disk_write p3.loose] → q.holds ok w0) (d0 : ∀ c, c ∈ idsOf [BF b00 70 (ko_journal_Journal_0 (.pointer (some ⟨b01, 0, none⟩))) (⟨(), p1.area, p1.bytes, p1.l⟩ : journal_Journal), BF b01 68 (ko_disk_Disk_0_1 w1_0 w1_1) (⟨[], [], p3.fuse, p3.dead⟩ : disk_Disk), RowF w1_0 100 (karr 256 (kint .u8)) p3.firm, RowF w1_1 102 k_disk_write p3.loose] → ¬ ok c) (nd : (idsOf [BF b00 70 (ko_journal_Journal_0 (.pointer (some ⟨b01, 0, none⟩))) (⟨(), p1.area, p1.bytes, p1.l⟩ : journal_Journal), BF b01 68 (ko_disk_Disk_0_1 w1_0 w1_1) (⟨[], [], p3.fuse, p3.dead⟩ : disk_Disk), RowF w1_0 100 (karr 256 (kint .u8)) p3.firm, RowF w1_1 102 k_disk_write p3.loose]).Nodup) (u0 : (ptrB b00 0).holds ok w0 z0) (u1 : ((ksl kstr).V p2).holds ok w0 z1) :
 GivesX Tryd.prog 11 [z0, z1] ok w0 [BF b00 70 (ko_journal_Journal_0 (.pointer (some ⟨b01, 0, none⟩))) (⟨(), p1.area, p1.bytes, p1.l⟩ : journal_Journal), BF b01 68 (ko_disk_Disk_0_1 w1_0 w1_1) (⟨[], [], p3.fuse, p3.dead⟩ : disk_Disk), RowF w1_0 100 (karr 256 (kint .u8)) p3.firm, RowF w1_1 102 k_disk_write p3.loose] (fun g : Value × Value => resFact [(kint .i64).V r.1]) (fun g : Value × Value => [BF b00 70 (ko_journal_Journal_0 (.pointer (some ⟨b01, 0, none⟩))) (⟨(), r.2.1.area, r.2.1.bytes, r.2.1.l⟩ : journal_Journal), BF b01 68 (ko_disk_Disk_0_1 (g.1) (g.2)) (⟨[], [], r.2.2.fuse, r.2.2.dead⟩ : disk_Disk), RowF (g.1) 100 (karr 256 (kint .u8)) r.2.2.firm, RowF (g.2) 102 k_disk_write r.2.2.loose]) := by
 unfold journal_Journal_Append at h0
 refine enterX (N := 73) Tryd.func11 rfl rfl (of_decide_eq_true rfl) (.cons u0 (.cons u1 .nil)) nd l0 d0 fun a1 s1 => ?_
 have s2 := s1.keepKnown 100000 gl0 (okInX (L := [BF b00 70 (ko_journal_Journal_0 (.pointer (some ⟨b01, 0, none⟩))) (⟨(), p1.area, p1.bytes, p1.l⟩ : journal_Journal), BF b01 68 (ko_disk_Disk_0_1 w1_0 w1_1) (⟨[], [], p3.fuse, p3.dead⟩ : disk_Disk), RowF w1_0 100 (karr 256 (kint .u8)) p3.firm, RowF w1_1 102 k_disk_write p3.loose]) d0); clear s1
 have s3 := s2.keepKnown 100001 gl1 (okInX (L := [BF b00 70 (ko_journal_Journal_0 (.pointer (some ⟨b01, 0, none⟩))) (⟨(), p1.area, p1.bytes, p1.l⟩ : journal_Journal), BF b01 68 (ko_disk_Disk_0_1 w1_0 w1_1) (⟨[], [], p3.fuse, p3.dead⟩ : disk_Disk), RowF w1_0 100 (karr 256 (kint .u8)) p3.firm, RowF w1_1 102 k_disk_write p3.loose]) d0); clear s2
 refine wp_seq_k fun K1 hK1 => wp_region_lit (qs s3 (.c1 rfl (ob_assign rfl (opd_int rfl)) (.ce (u 0 rfl (u 1 rfl (u 100000 rfl (u 100001 rfl .nil)))))) fun _ _ s5 => wn hK1 ?_); clear s3
 refine wp_seq_k fun K2 hK2 => wp_region_lit ?_
 have s6 := St.adopt s5 (G := RowF (nilRow 6) 5 (kint .u8) []) rfl (rowNilN _ _ _ _ _); clear s5
 refine qx (B' := (fun b1 : Nat => [BF b1 79 (ko_wire_Writer_0 (nilRow 6)) (⟨[]⟩ : wire_Writer), RowF (nilRow 6) 5 (kint .u8) ([] : (List Int)), BF b00 70 (ko_journal_Journal_0 (.pointer (some ⟨b01, 0, none⟩))) (⟨(), p1.area, p1.bytes, p1.l⟩ : journal_Journal), BF b01 68 (ko_disk_Disk_0_1 w1_0 w1_1) (⟨[], [], p3.fuse, p3.dead⟩ : disk_Disk), RowF w1_0 100 (karr 256 (kint .u8)) p3.firm, RowF w1_1 102 k_disk_write p3.loose])) s6 rfl (ob_new (k := (ko_wire_Writer_0 (nilRow 6))) rfl zz79 (Zr.iso (f := to_wire_Writer_0) (x := (⟨[]⟩ : wire_Writer)) (Zr.pair (Zr.kis 6) Zr.nil))) fun b1 _ _ s7 => ?_; clear s6
 refine wn hK2 ?_
 have s8 := s7.sub (u 0 rfl (u 1 rfl (u 5 rfl (u 100000 rfl (u 100001 rfl .nil))))); clear s7
 obtain ⟨x1, e_x1, h1⟩ := bind_some h0; clear h0
 refine wp_seq_k fun K3 hK3 => wp_region_lit (qs s8 (.c1 rfl (mv rfl rfl) .cz) fun _ _ s9 => ?_); clear s8
 refine qx (B' := (fun v1 : Value => [BF b1 79 (ko_wire_Writer_0 v1) (⟨[]⟩ : wire_Writer), RowF v1 5 (kint .u8) x1.out, BF b00 70 (ko_journal_Journal_0 (.pointer (some ⟨b01, 0, none⟩))) (⟨(), p1.area, p1.bytes, p1.l⟩ : journal_Journal), BF b01 68 (ko_disk_Disk_0_1 w1_0 w1_1) (⟨[], [], p3.fuse, p3.dead⟩ : disk_Disk), RowF w1_0 100 (karr 256 (kint .u8)) p3.firm, RowF w1_1 102 k_disk_write p3.loose])) s9 rfl (ob_callL0 (args := [_, _]) (L := [_, _]) rfl .direct hb39 (List.Perm.refl _) (fun a w s => by exact c_wire_Writer_Texts k _ _ _ e_x1 _ _ _ _ _ _ (ownL s) (disL s) (nodL s) (s.arg (.tmp rfl)) (s.arg (.tmp rfl))) (by exact fun _ => rfl)) fun v1 _ _ s10 => ?_; clear s9
 refine wn hK3 ?_
 have s11 := s10.sub (u 0 rfl (u 1 rfl (u 5 rfl (u 100000 rfl (u 100001 rfl .nil))))); clear s10
 obtain ⟨x2, e_x2, h2⟩ := bind_some h1; clear h1
 refine wp_seq_k fun K4 hK4 => wp_region_lit (qs s11 (.c1 rfl ((ob_lendG (L := [_, _]) (List.Perm.refl _) (.cons (t := 5) rfl (lendObj (K' := k_wire_Writer) (X' := x1) (.head _) rfl (upo_wire_Writer_0 rfl (.row (LetAll.row (.tail _ (.head _)))))) .nil) (Flat.res1 (Flat.V KFlat.str)) (fun _ => ob_callD0 (args := [_]) rfl .direct hb40 (fun a w s => by exact c_wire_Writer_String k _ _ e_x2 _ _ _ (s.arg (.tmp rfl)))))) (.c1 rfl (ob_assign rfl (.tmp rfl)) (.ce (u 0 rfl (u 1 rfl (u 6 rfl (u 100000 rfl (u 100001 rfl .nil)))))))) fun _ _ s14 => wn hK4 ?_); clear s11
 have s15 := St.drop (A := []) s14; clear s14
 have s16 := St.drop (A := []) s15; clear s15
 refine wp_seq_k fun K5 hK5 => wp_block ?_
 refine wp_seq_k fun K6 hK6 => wp_region_lit (qs s16 (.c1 rfl (mv rfl rfl) (.c1 rfl (ob_ptrNil (p := some _) rfl pt26 (.tmp rfl) opd_is) (.c1 rfl (ob_assign rfl (.tmp rfl)) (.ce (u 0 rfl (u 1 rfl (u 6 rfl (u 12 rfl (u 100000 rfl (u 100001 rfl .nil)))))))))) fun _ _ s20 => wn hK6 ?_); clear s16
 refine cond_f s20 (.tmp rfl) ?_
 obtain ⟨x3, e_x3, h3⟩ := bind_some h2; clear h2
 refine wp_seq_k fun K7 hK7 => wp_region_lit (qs s20 (.c1 rfl (mv rfl rfl) (.c1 rfl (ob_callD0 (args := [_, _]) rfl .direct hb41 (fun a w s => by exact c_slices_ContainsFunc_string_string_journal_Journal_Append_1 k _ _ e_x3 _ _ _ _ (s.arg (.tmp rfl)) (s.arg .func))) (.c1 rfl (ob_assign rfl (.tmp rfl)) (.ce (u 0 rfl (u 1 rfl (u 6 rfl (u 15 rfl (u 100000 rfl (u 100001 rfl .nil)))))))))) fun _ _ s24 => wn hK7 ?_); clear s20
 refine cond_split s24 (.tmp rfl) (fun hc2 => ?_) (fun hc2 => ?_)
 ·have h4 := ite_t hc2 h3; clear h3
  refine wp_seq_k fun K8 hK8 => wp_region_lit (qs s24 (.c1 rfl (ob_assign rfl (opd_int rfl)) (.ce (u 4 rfl (u 100000 rfl (u 100001 rfl .nil))))) fun _ _ s26 => wn hK8 ?_); clear s24
  refine wp_ret ?_
  obtain rfl := Option.some.inj h4
  exact leaveXD (D := []) ⟨w1_0, w1_1⟩ s26 rfl (.inl rfl) rfl (.cons (.tmp rfl) .nil) rfl
 ·have h5 := ite_f hc2 h3; clear h3
  obtain ⟨x4, e_x4, h6⟩ := bind_some h5; clear h5
  refine wp_seq_k fun K9 hK9 => wp_region_lit (qs s24 (.c1 rfl (mv rfl rfl) (.c1 rfl (ob_lenStr rfl Tryd.underlying9 (.tmp rfl)) (.c1 rfl (mv rfl rfl) .cz))) fun _ _ s29 => ?_); clear s24
  refine qx (B' := (fun _ : Unit => [BF b00 70 (ko_journal_Journal_0 (.pointer (some ⟨b01, 0, none⟩))) (⟨(), p1.area, p1.bytes, p1.l⟩ : journal_Journal), BF b01 68 (ko_disk_Disk_0_1 w1_0 w1_1) (⟨[], [], p3.fuse, p3.dead⟩ : disk_Disk), RowF w1_0 100 (karr 256 (kint .u8)) p3.firm, RowF w1_1 102 k_disk_write p3.loose])) s29 rfl (ob_callL0 (args := [_]) (L := [_, _, _, _]) rfl .direct hb20 (List.Perm.refl _) (fun a w s => by exact c_journal_Journal_Room k _ _ _ e_x4 _ _ _ _ _ _ _ (ownL s) (disL s) (nodL s) (s.arg (.tmp rfl))) (by exact fun _ => rfl)) fun _ _ _ s30 => ?_; clear s29
  refine qs s30 (.c1 rfl (ob_gtr rfl (.tmp rfl) (.tmp rfl)) (.c1 rfl (ob_assign rfl (.tmp rfl)) (.ce (u 0 rfl (u 1 rfl (u 6 rfl (u 18 rfl (u 100000 rfl (u 100001 rfl .nil))))))))) fun _ _ s33 => wn hK9 ?_; clear s30
  refine cond_split s33 (.tmp rfl) (fun hc3 => ?_) (fun hc3 => ?_)
  ·have h7 := ite_t hc3 h6; clear h6
   refine wp_seq_k fun K10 hK10 => wp_region_lit (qs s33 (.c1 rfl (ob_assign rfl (opd_int rfl)) (.ce (u 4 rfl (u 100000 rfl (u 100001 rfl .nil))))) fun _ _ s35 => wn hK10 ?_); clear s33
   refine wp_ret ?_
   obtain rfl := Option.some.inj h7
   exact leaveXD (D := []) ⟨w1_0, w1_1⟩ s35 rfl (.inl rfl) rfl (.cons (.tmp rfl) .nil) rfl
  ·have h8 := ite_f hc3 h6; clear h6
   refine wp_seq_k fun K11 hK11 => wp_region_lit (qs s33 (.c1 rfl (mv rfl rfl) (.c1 rfl (ob_lens rfl Tryd.underlying30 (.tmp rfl)) (.c1 rfl (ob_eql rfl (.tmp rfl) (opd_int rfl)) (.c1 rfl (ob_assign rfl (.tmp rfl)) (.ce (u 0 rfl (u 1 rfl (u 6 rfl (u 24 rfl (u 100000 rfl (u 100001 rfl .nil))))))))))) fun _ _ s40 => wn hK11 ?_); clear s33
   refine cond_split s40 (.tmp rfl) (fun hc4 => ?_) (fun hc4 => ?_)
   ·have h9 := ite_t hc4 h8; clear h8
    refine wp_seq_k fun K12 hK12 => wp_region_lit (qs s40 (.c1 rfl (ob_assign rfl (opd_int rfl)) (.ce (u 4 rfl (u 100000 rfl (u 100001 rfl .nil))))) fun _ _ s42 => wn hK12 ?_); clear s40
    refine wp_ret ?_
    obtain rfl := Option.some.inj h9
    exact leaveXD (D := []) ⟨w1_0, w1_1⟩ s42 rfl (.inl rfl) rfl (.cons (.tmp rfl) .nil) rfl
   ·have h10 := ite_f hc4 h8; clear h8
    refine wp_skip ?_
    refine in_normal ?_
    refine then_normal (hK5 _ _ ?_)
    have s43 := s40.sub (u 0 rfl (u 1 rfl (u 6 rfl (u 100000 rfl (u 100001 rfl .nil))))); clear s40
    obtain ⟨g1, h11⟩ := guard_some h10; clear h10
    refine wp_seq_k fun K13 hK13 => wp_region_lit (qs s43 (.c1 rfl (mv rfl rfl) (.c1 rfl (ob_nilCheck rfl (.tmp rfl)) (.c1 rfl (ob_fieldAddr (off' := 2) rfl Tryd.underlying70 rfl sz9 (by decide) (.tmp rfl) rfl) (.c1 rfl (ob_load rfl tk9 (.tmp rfl) (.head _) (lgo_journal_Journal_0_bytes (⟨(), p1.area, p1.bytes, p1.l⟩ : journal_Journal))) (.c1 rfl (mv rfl rfl) (.c1 rfl (ob_cat rfl (.tmp rfl) (.tmp rfl) g1) (.c1 rfl (ob_assign rfl (.tmp rfl)) (.ce (u 0 rfl (u 1 rfl (u 7 rfl (u 100000 rfl (u 100001 rfl .nil))))))))))))) fun _ _ s51 => wn hK13 ?_); clear s43
    refine wp_seq_k fun K14 hK14 => wp_seq_k fun K15 hK15 => ?_
    refine wp_goes (Fs := [(ptrB b00 0), (ptrB b00 0), (ptrB b00 0), (ptrB b00 1), ((kint .i64).V p1.area), (ptrB b00 0), (ptrB b00 0), (ptrB b00 2), (kstr.V p1.bytes), ((kint .i64).V (p1.bytes.length : Int)), (kstr.V (p1.bytes ++ x2))]) (bits := [0, 0, 2, 6, 14, 0, 32, 96, 224, 480, 0, 2047, 4095]) (m := 11) (todo := 0) mx s51 ?_; clear s51
    refine goes_last (by kernel_rfl) rfl (oc (av 0 rfl rfl (av 100000 rfl rfl (av 100001 rfl rfl Av.nil))) rfl rfl (mv rfl rfl) (oc (av 0 rfl rfl (av 100000 rfl rfl (av 100001 rfl rfl Av.nil))) rfl rfl (mv rfl rfl) (oc (an 1 rfl rfl rfl (av 100000 rfl rfl (av 100001 rfl rfl Av.nil))) rfl rfl (ob_nilCheck rfl (.tmp rfl)) (oc (an 2 rfl rfl rfl (av 100000 rfl rfl (av 100001 rfl rfl Av.nil))) rfl rfl (ob_fieldAddr (off' := 1) rfl Tryd.underlying70 rfl sz3 (by decide) (.tmp rfl) rfl) (oc (an 3 rfl rfl rfl (av 100000 rfl rfl (av 100001 rfl rfl Av.nil))) rfl rfl (ob_load rfl tk3 (.tmp rfl) (.head _) (lgo_journal_Journal_0_area (⟨(), p1.area, p1.bytes, p1.l⟩ : journal_Journal))) (oc (av 0 rfl rfl (av 100000 rfl rfl (av 100001 rfl rfl Av.nil))) rfl rfl (mv rfl rfl) (oc (an 5 rfl rfl rfl (av 100000 rfl rfl (av 100001 rfl rfl Av.nil))) rfl rfl (ob_nilCheck rfl (.tmp rfl)) (oc (an 6 rfl rfl rfl (av 100000 rfl rfl (av 100001 rfl rfl Av.nil))) rfl rfl (ob_fieldAddr (off' := 2) rfl Tryd.underlying70 rfl sz9 (by decide) (.tmp rfl) rfl) (oc (an 7 rfl rfl rfl (av 100000 rfl rfl (av 100001 rfl rfl Av.nil))) rfl rfl (ob_load rfl tk9 (.tmp rfl) (.head _) (lgo_journal_Journal_0_bytes (⟨(), p1.area, p1.bytes, p1.l⟩ : journal_Journal))) (oc (an 8 rfl rfl rfl (av 100000 rfl rfl (av 100001 rfl rfl Av.nil))) rfl rfl (ob_lenStr rfl Tryd.underlying9 (.tmp rfl)) (oc (av 7 rfl rfl (av 100000 rfl rfl (av 100001 rfl rfl Av.nil))) rfl rfl (mv rfl rfl) opsS_nil))))))))))) (out_old (t := 0) rfl rfl (out_old (t := 1) rfl rfl (out_old (t := 7) rfl rfl (out_new (i := 0) (by decide) rfl rfl (out_new (i := 4) (by decide) rfl rfl (out_new (i := 9) (by decide) rfl rfl (out_new (i := 10) (by decide) rfl rfl (out_old (t := 100000) rfl rfl (out_old (t := 100001) rfl rfl out_nil))))))))) fun _ _ s52 => ?_
    obtain ⟨x5, e_x5, h12⟩ := bind_some h11; clear h11
    refine qx (B' := (fun gg : Value × Value => [BF b00 70 (ko_journal_Journal_0 (.pointer (some ⟨b01, 0, none⟩))) (⟨(), x5.2.1.area, x5.2.1.bytes, x5.2.1.l⟩ : journal_Journal), BF b01 68 (ko_disk_Disk_0_1 gg.1 gg.2) (⟨[], [], x5.2.2.fuse, x5.2.2.dead⟩ : disk_Disk), RowF gg.1 100 (karr 256 (kint .u8)) x5.2.2.firm, RowF gg.2 102 k_disk_write x5.2.2.loose])) s52 rfl (ob_callL0 (args := [_, _, _, _]) (L := [_, _, _, _]) rfl .direct hb43 (List.Perm.refl _) (fun a w s => by exact c_journal_Journal_commit k _ _ _ _ _ _ e_x5 _ _ (s.env _ _ (show get _ 100000 = _ from rfl)) (s.env _ _ (show get _ 100001 = _ from rfl)) _ _ _ _ _ _ _ _ (ownL s) (disL s) (nodL s) (s.arg (.tmp rfl)) (s.arg (.tmp rfl)) (s.arg (.tmp rfl)) (s.arg (.tmp rfl))) (by exact fun _ => rfl)) fun gg53 _ _ s53 => ?_; clear s52
    obtain ⟨v2, v3⟩ := gg53
    refine qs s53 (.c1 rfl (ob_assign rfl (.tmp rfl)) (.ce (u 0 rfl (u 1 rfl (u 7 rfl (u 8 rfl (u 100000 rfl (u 100001 rfl .nil)))))))) fun _ _ s55 => wn hK15 ?_; clear s53
    refine wp_seq_k fun K16 hK16 => wp_region_lit (qs s55 (.c1 rfl (mv rfl rfl) (.c1 rfl (ob_neq rfl (.tmp rfl) (opd_int rfl)) (.ce (u 0 rfl (u 1 rfl (u 7 rfl (u 8 rfl (u 47 rfl (u 100000 rfl (u 100001 rfl .nil)))))))))) fun _ _ s58 => wn hK16 ?_); clear s55
    refine cond_split s58 (.tmp rfl) (fun hc5 => ?_) (fun hc5 => ?_)
    ·have h13 := ite_t hc5 h12; clear h12
     refine wp_seq_k fun K17 hK17 => wp_region_lit (qs s58 (.c1 rfl (mv rfl rfl) (.c1 rfl (ob_assign rfl (.tmp rfl)) (.ce (u 4 rfl (u 100000 rfl (u 100001 rfl .nil)))))) fun _ _ s61 => wn hK17 ?_); clear s58
     refine wp_ret ?_
     obtain rfl := Option.some.inj h13
     exact leaveXD (D := []) ⟨v2, v3⟩ s61 rfl (.inl rfl) rfl (.cons (.tmp rfl) .nil) rfl
    ·have h14 := ite_f hc5 h12; clear h12
     refine wp_skip ?_
     refine then_normal (hK14 _ _ ?_)
     have s62 := s58.sub (u 0 rfl (u 1 rfl (u 7 rfl (u 100000 rfl (u 100001 rfl .nil))))); clear s58
     refine wp_seq_k fun K18 hK18 => ?_
     obtain ⟨g2, h15⟩ := guard_some h14; clear h14
     refine wp_goes (Fs := [(ptrB b00 0), (ptrB b00 0), (kstr.V (p1.bytes ++ x2)), (ptrB b00 0), (ptrB b00 0), (ptrB b00 3), ((ksl kstr).V x5.2.1.l), (ptrB b00 0), (ptrB b00 0), (ptrB b00 3), ((ksl kstr).V x5.2.1.l), ((kint .i64).V (x5.2.1.l.length : Int)), (ptrB b00 0), (ptrB b00 0), (ptrB b00 3), ((ksl kstr).V x5.2.1.l), ((kint .i64).V (x5.2.1.l.length : Int)), (slC kstr x5.2.1.l), ((ksl kstr).V p2), ((ksl kstr).V (x5.2.1.l ++ p2)), (ptrB b00 0), (ptrB b00 2), nofact]) (bits := [0, 0, 0, 0, 8, 24, 56, 0, 128, 384, 896, 1920, 0, 4096, 12288, 28672, 61440, 131064, 0, 524280, 1048573, 2097149, 4194301, 8388607, 16777215, 33554431]) (m := 23) (todo := 4194304) mx s62 ?_; clear s62
     refine goes_turn (B' := (fun _ : Unit => [BF b00 70 (ko_journal_Journal_0 (.pointer (some ⟨b01, 0, none⟩))) (⟨(), x5.2.1.area, (p1.bytes ++ x2), x5.2.1.l⟩ : journal_Journal), BF b01 68 (ko_disk_Disk_0_1 v2 v3) (⟨[], [], x5.2.2.fuse, x5.2.2.dead⟩ : disk_Disk), RowF v2 100 (karr 256 (kint .u8)) x5.2.2.firm, RowF v3 102 k_disk_write x5.2.2.loose])) (Fs' := (fun _ : Unit => setAll ([(ptrB b00 0), (ptrB b00 0), (kstr.V (p1.bytes ++ x2)), (ptrB b00 0), (ptrB b00 0), (ptrB b00 3), ((ksl kstr).V x5.2.1.l), (ptrB b00 0), (ptrB b00 0), (ptrB b00 3), ((ksl kstr).V x5.2.1.l), ((kint .i64).V (x5.2.1.l.length : Int)), (ptrB b00 0), (ptrB b00 0), (ptrB b00 3), ((ksl kstr).V x5.2.1.l), ((kint .i64).V (x5.2.1.l.length : Int)), (slC kstr x5.2.1.l), ((ksl kstr).V p2), ((ksl kstr).V (x5.2.1.l ++ p2)), (ptrB b00 0), (ptrB b00 2), nofact]) [(22, nofact)])) 22 4194304 8388605 0 (by kernel_rfl) rfl rfl rfl (oc (av 0 rfl rfl (av 100000 rfl rfl (av 100001 rfl rfl Av.nil))) rfl rfl (mv rfl rfl) (oc (av 0 rfl rfl (av 100000 rfl rfl (av 100001 rfl rfl Av.nil))) rfl rfl (mv rfl rfl) (oc (av 7 rfl rfl (av 100000 rfl rfl (av 100001 rfl rfl Av.nil))) rfl rfl (mv rfl rfl) (oc (av 0 rfl rfl (av 100000 rfl rfl (av 100001 rfl rfl Av.nil))) rfl rfl (mv rfl rfl) (oc (an 3 rfl rfl rfl (av 100000 rfl rfl (av 100001 rfl rfl Av.nil))) rfl rfl (ob_nilCheck rfl (.tmp rfl)) (oc (an 4 rfl rfl rfl (av 100000 rfl rfl (av 100001 rfl rfl Av.nil))) rfl rfl (ob_fieldAddr (off' := 3) rfl Tryd.underlying70 rfl sz30 (by decide) (.tmp rfl) rfl) (oc (an 5 rfl rfl rfl (av 100000 rfl rfl (av 100001 rfl rfl Av.nil))) rfl rfl (ob_load rfl tk30 (.tmp rfl) (.head _) (lgo_journal_Journal_0_l (⟨(), x5.2.1.area, x5.2.1.bytes, x5.2.1.l⟩ : journal_Journal))) (oc (av 0 rfl rfl (av 100000 rfl rfl (av 100001 rfl rfl Av.nil))) rfl rfl (mv rfl rfl) (oc (an 7 rfl rfl rfl (av 100000 rfl rfl (av 100001 rfl rfl Av.nil))) rfl rfl (ob_nilCheck rfl (.tmp rfl)) (oc (an 8 rfl rfl rfl (av 100000 rfl rfl (av 100001 rfl rfl Av.nil))) rfl rfl (ob_fieldAddr (off' := 3) rfl Tryd.underlying70 rfl sz30 (by decide) (.tmp rfl) rfl) (oc (an 9 rfl rfl rfl (av 100000 rfl rfl (av 100001 rfl rfl Av.nil))) rfl rfl (ob_load rfl tk30 (.tmp rfl) (.head _) (lgo_journal_Journal_0_l (⟨(), x5.2.1.area, x5.2.1.bytes, x5.2.1.l⟩ : journal_Journal))) (oc (an 10 rfl rfl rfl (av 100000 rfl rfl (av 100001 rfl rfl Av.nil))) rfl rfl (ob_lens rfl Tryd.underlying30 (.tmp rfl)) (oc (av 0 rfl rfl (av 100000 rfl rfl (av 100001 rfl rfl Av.nil))) rfl rfl (mv rfl rfl) (oc (an 12 rfl rfl rfl (av 100000 rfl rfl (av 100001 rfl rfl Av.nil))) rfl rfl (ob_nilCheck rfl (.tmp rfl)) (oc (an 13 rfl rfl rfl (av 100000 rfl rfl (av 100001 rfl rfl Av.nil))) rfl rfl (ob_fieldAddr (off' := 3) rfl Tryd.underlying70 rfl sz30 (by decide) (.tmp rfl) rfl) (oc (an 14 rfl rfl rfl (av 100000 rfl rfl (av 100001 rfl rfl Av.nil))) rfl rfl (ob_load rfl tk30 (.tmp rfl) (.head _) (lgo_journal_Journal_0_l (⟨(), x5.2.1.area, x5.2.1.bytes, x5.2.1.l⟩ : journal_Journal))) (oc (an 15 rfl rfl rfl (av 100000 rfl rfl (av 100001 rfl rfl Av.nil))) rfl rfl (ob_lens rfl Tryd.underlying30 (.tmp rfl)) (oc (an 6 rfl rfl rfl (an 11 rfl rfl rfl (an 16 rfl rfl rfl (av 100000 rfl rfl (av 100001 rfl rfl Av.nil))))) rfl rfl (ob_cut3 rfl Tryd.underlying30 sz9 (.tmp rfl) (.tmp rfl) (.tmp rfl)) (oc (av 1 rfl rfl (av 100000 rfl rfl (av 100001 rfl rfl Av.nil))) rfl rfl (mv rfl rfl) (oc (an 17 rfl rfl rfl (an 18 rfl rfl rfl (av 100000 rfl rfl (av 100001 rfl rfl Av.nil)))) rfl rfl (ob_append3 rfl Tryd.underlying30 ap9 Zr.str (by decide) (.tmp rfl) (.tmp rfl) g2) (oc (an 0 rfl rfl rfl (av 100000 rfl rfl (av 100001 rfl rfl Av.nil))) rfl rfl (ob_nilCheck rfl (.tmp rfl)) (oc (an 20 rfl rfl rfl (av 100000 rfl rfl (av 100001 rfl rfl Av.nil))) rfl rfl (ob_fieldAddr (off' := 2) rfl Tryd.underlying70 rfl sz9 (by decide) (.tmp rfl) rfl) (opsS_skip (by rfl) opsS_nil))))))))))))))))))))))) (.plain _ (an 2 rfl rfl rfl (an 21 rfl rfl rfl (av 100000 rfl rfl (av 100001 rfl rfl Av.nil)))) rfl (fun _ => rfl) (fun R => ob_store (A := []) rfl tk9 (.tmp rfl) (.tmp rfl) rfl (lso_journal_Journal_0_bytes (⟨(), x5.2.1.area, x5.2.1.bytes, x5.2.1.l⟩ : journal_Journal) (p1.bytes ++ x2)) rfl)) (setAll_same (us := (fun _ : Unit => [(22, nofact)])) fun _ => by kernel_rfl) fun _ => ?_
     refine goes_last (by kernel_rfl) rfl (opsS_skip (by rfl) (oc (av 0 rfl rfl (av 100000 rfl rfl (av 100001 rfl rfl Av.nil))) rfl rfl (mv rfl rfl) (opsS_skip (by rfl) (opsS_skip (by rfl) (opsS_skip (by rfl) (opsS_skip (by rfl) (opsS_skip (by rfl) (opsS_skip (by rfl) (opsS_skip (by rfl) (opsS_skip (by rfl) (opsS_skip (by rfl) (opsS_skip (by rfl) (opsS_skip (by rfl) (opsS_skip (by rfl) (opsS_skip (by rfl) (opsS_skip (by rfl) (opsS_skip (by rfl) (opsS_skip (by rfl) (opsS_skip (by rfl) (opsS_skip (by rfl) (opsS_skip (by rfl) (opsS_skip (by rfl) (opsS_skip (by rfl) opsS_nil))))))))))))))))))))))) (out_new (i := 1) (by decide) rfl rfl (out_new (i := 19) (by decide) rfl rfl (out_old (t := 100000) rfl rfl (out_old (t := 100001) rfl rfl out_nil)))) fun _ _ s63 => ?_
     refine qs s63 (.c1 rfl (ob_nilCheck rfl (.tmp rfl)) (.c1 rfl (ob_fieldAddr (off' := 3) rfl Tryd.underlying70 rfl sz30 (by decide) (.tmp rfl) rfl) .cz)) fun _ _ s65 => ?_; clear s63
     refine seq_opx0 (B' := (fun _ : Unit => [BF b00 70 (ko_journal_Journal_0 (.pointer (some ⟨b01, 0, none⟩))) (⟨(), x5.2.1.area, (p1.bytes ++ x2), (x5.2.1.l ++ p2)⟩ : journal_Journal), BF b01 68 (ko_disk_Disk_0_1 v2 v3) (⟨[], [], x5.2.2.fuse, x5.2.2.dead⟩ : disk_Disk), RowF v2 100 (karr 256 (kint .u8)) x5.2.2.firm, RowF v3 102 k_disk_write x5.2.2.loose])) s65 rfl rfl (ob_store (A := []) rfl tk30 (.tmp rfl) (.tmp rfl) rfl (lso_journal_Journal_0_l (⟨(), x5.2.1.area, (p1.bytes ++ x2), x5.2.1.l⟩ : journal_Journal) (x5.2.1.l ++ p2)) rfl) fun _ a66 w66 s66 => ?_; clear s65
     refine wn hK18 ?_
     have s67 := s66.sub (u 100000 rfl (u 100001 rfl .nil)); clear s66
     refine wp_seq_k fun K19 hK19 => wp_region_lit (qs s67 (.c1 rfl (ob_assign rfl (opd_int rfl)) (.ce (u 4 rfl (u 100000 rfl (u 100001 rfl .nil))))) fun _ _ s69 => wn hK19 ?_); clear s67
     refine wp_ret ?_
     obtain rfl := Option.some.inj h15
     exact leaveXD (D := []) ⟨v2, v3⟩ s69 rfl (.inl rfl) rfl (.cons (.tmp rfl) .nil) rfl
theorem c_slices_Clone_string_string (k : Nat) (p1 : (List (List Int))) (r : (List (List Int))) (h0 : slices_Clone_string_string k p1 = some r) (ok : Ok) (w0 : World) (z0 : Value) (u0 : ((ksl kstr).V p1).holds ok w0 z0) :
 GivesX Tryd.prog 44 [z0] ok w0 [] (fun g : Value => resFact [is g]) (fun g : Value => [RowF (g) 9 kstr r]) := by
 unfold slices_Clone_string_string at h0
 refine enterX (N := 8) Tryd.func44 rfl rfl (of_decide_eq_true rfl) (.cons u0 .nil) List.nodup_nil (fun _ h => by cases h) (fun _ h => by cases h) fun a1 s1 => ?_
 refine wp_seq_k fun K1 hK1 => wp_region_lit (qs s1 (.c1 rfl (ob_assign rfl opd_is) .cz) fun _ _ s2 => ?_); clear s1
 have s3 := St.adopt s2 (G := RowF (nilRow 9) 9 kstr []) rfl (rowNilN _ _ _ _ _); clear s2
 refine wn hK1 ?_
 have s4 := s3.sub (u 0 rfl .nil); clear s3
 have s5 := St.drop (A := []) s4; clear s4
 refine wp_seq_k fun K2 hK2 => wp_seq_k fun K3 hK3 => ?_
 refine wp_region_lit (qs s5 (.c1 rfl (mv rfl rfl) (.c1 rfl (ob_slNil rfl Tryd.underlying30 (.tmp rfl)) (.ce (u 0 rfl (u 4 rfl .nil))))) fun _ _ s8 => wn hK3 ?_); clear s5
 refine cond_nil s8 (.tmp rfl) (fun hnil => ?_) ?_
 ·subst hnil
  have h1 : some ([] : (List (List Int))) = some r := by first | exact h0 | simpa using h0
  refine wp_seq_k fun K4 hK4 => wp_region_lit (qs s8 (.c1 rfl (ob_assign rfl opd_is) .cz) fun _ _ s9 => ?_); clear s8
  have s10 := St.adopt s9 (G := RowF (nilRow 10) 9 kstr []) rfl (rowNilN _ _ _ _ _); clear s9
  refine wn hK4 ?_
  have s11 := s10.sub (u 2 rfl .nil); clear s10
  refine wp_ret ?_
  obtain rfl := Option.some.inj h1
  exact leaveXD (D := []) (nilRow 10) s11 rfl (.inl rfl) rfl (.cons (.tmp rfl) .nil) rfl
 ·
  refine wp_skip ?_
  refine then_normal (hK2 _ _ ?_)
  have s12 := s8.sub (u 0 rfl .nil); clear s8
  refine wp_seq_k fun K5 hK5 => wp_region_lit ?_
  refine qx (B' := (fun v1 : Value => [RowF v1 9 kstr ([] : List (List Int))])) s12 rfl (ob_emptyRow (k := kstr) rfl Tryd.underlying30 sz9) fun v1 _ _ s13 => ?_; clear s12
  obtain ⟨g1, h2⟩ := guard_some h0; clear h0
  refine qs s13 (.c1 rfl (mv rfl rfl) .cz) fun _ _ s14 => ?_; clear s13
  refine qx (B' := (fun v2 : Value => [RowF v2 9 kstr (([] : List (List Int)) ++ p1)])) s14 rfl (ob_appendL2 (A := []) rfl Tryd.underlying30 ap9 Zr.str (by decide) (.tmp rfl) (.tmp rfl) rfl g1) fun v2 _ _ s15 => ?_; clear s14
  refine qs s15 (.c1 rfl (ob_assign rfl (.tmp rfl)) (.ce (u 2 rfl .nil))) fun _ _ s17 => wn hK5 ?_; clear s15
  refine wp_ret ?_
  obtain rfl := Option.some.inj h2
  exact leaveXD (D := []) v2 s17 rfl (.inl rfl) rfl (.cons (.tmp rfl) .nil) rfl
theorem c_journal_Journal_Records (k : Nat) (p1 : journal_Journal) (p2 : disk_Disk) (r : (List (List Int))) (h0 : journal_Journal_Records k p1 p2 = some r) (ok : Ok) (w0 : World) (z0 : Value) (b00 : Nat) (b01 : Nat) (w1_0 : Value) (w1_1 : Value) (l0 : ∀ q, q ∈ [BF b00 70 (ko_journal_Journal_0 (.pointer (some ⟨b01, 0, none⟩))) (⟨(), p1.area, p1.bytes, p1.l⟩ : journal_Journal), BF b01 68 (ko_disk_Disk_0_1 w1_0 w1_1) (⟨[], [], p2.fuse, p2.dead⟩ : disk_Disk), RowF w1_0 100 (karr 256 (kint .u8)) p2.firm, RowF w1_1 102 k_disk_write p2.loose] → q.holds ok w0) (d0 : ∀ c, c ∈ idsOf [BF b00 70 (ko_journal_Journal_0 (.pointer (some ⟨b01, 0, none⟩))) (⟨(), p1.area, p1.bytes, p1.l⟩ : journal_Journal), BF b01 68 (ko_disk_Disk_0_1 w1_0 w1_1) (⟨[], [], p2.fuse, p2.dead⟩ : disk_Disk), RowF w1_0 100 (karr 256 (kint .u8)) p2.firm, RowF w1_1 102 k_disk_write p2.loose] → ¬ ok c) (nd : (idsOf [BF b00 70 (ko_journal_Journal_0 (.pointer (some ⟨b01, 0, none⟩))) (⟨(), p1.area, p1.bytes, p1.l⟩ : journal_Journal), BF b01 68 (ko_disk_Disk_0_1 w1_0 w1_1) (⟨[], [], p2.fuse, p2.dead⟩ : disk_Disk), RowF w1_0 100 (karr 256 (kint .u8)) p2.firm, RowF w1_1 102 k_disk_write p2.loose]).Nodup) (u0 : (ptrB b00 0).holds ok w0 z0) :
 GivesX Tryd.prog 13 [z0] ok w0 [BF b00 70 (ko_journal_Journal_0 (.pointer (some ⟨b01, 0, none⟩))) (⟨(), p1.area, p1.bytes, p1.l⟩ : journal_Journal), BF b01 68 (ko_disk_Disk_0_1 w1_0 w1_1) (⟨[], [], p2.fuse, p2.dead⟩ : disk_Disk), RowF w1_0 100 (karr 256 (kint .u8)) p2.firm, RowF w1_1 102 k_disk_write p2.loose] (fun g : Unit => resFact [(ksl kstr).V r]) (fun g : Unit => [BF b00 70 (ko_journal_Journal_0 (.pointer (some ⟨b01, 0, none⟩))) (⟨(), p1.area, p1.bytes, p1.l⟩ : journal_Journal), BF b01 68 (ko_disk_Disk_0_1 w1_0 w1_1) (⟨[], [], p2.fuse, p2.dead⟩ : disk_Disk), RowF w1_0 100 (karr 256 (kint .u8)) p2.firm, RowF w1_1 102 k_disk_write p2.loose]) := by
 unfold journal_Journal_Records at h0
 refine enterX (N := 10) Tryd.func13 rfl rfl (of_decide_eq_true rfl) (.cons u0 .nil) nd l0 d0 fun a1 s1 => ?_
 refine wp_seq_k fun K1 hK1 => wp_region_lit (qs s1 (.c1 rfl (ob_assign rfl opd_is) .cz) fun _ _ s2 => ?_); clear s1
 have s3 := St.adopt s2 (G := RowF (nilRow 8) 9 kstr []) rfl (rowNilN _ _ _ _ _); clear s2
 refine wn hK1 ?_
 have s4 := s3.sub (u 0 rfl .nil); clear s3
 have s5 := St.drop (A := []) s4; clear s4
 refine wp_seq_k fun K2 hK2 => wp_seq_k fun K3 hK3 => ?_
 refine wp_region_lit (qs s5 (.c1 rfl (mv rfl rfl) (.c1 rfl (ob_ptrNil (p := some _) rfl pt26 (.tmp rfl) opd_is) (.ce (u 0 rfl (u 4 rfl .nil))))) fun _ _ s8 => wn hK3 ?_); clear s5
 refine cond_f s8 (.tmp rfl) ?_
 refine wp_skip ?_
 refine then_normal (hK2 _ _ ?_)
 have s9 := s8.sub (u 0 rfl .nil); clear s8
 obtain ⟨x1, e_x1, h1⟩ := bind_some h0; clear h0
 refine wp_seq_k fun K4 hK4 => wp_region_lit (qs s9 (.c1 rfl (mv rfl rfl) (.c1 rfl (ob_nilCheck rfl (.tmp rfl)) (.c1 rfl (ob_fieldAddr (off' := 3) rfl Tryd.underlying70 rfl sz30 (by decide) (.tmp rfl) rfl) (.c1 rfl (ob_load rfl tk30 (.tmp rfl) (.head _) (lgo_journal_Journal_0_l (⟨(), p1.area, p1.bytes, p1.l⟩ : journal_Journal))) .cz)))) fun _ _ s13 => ?_); clear s9
 refine qx (B' := (fun v1 : Value => [RowF v1 9 kstr x1, BF b00 70 (ko_journal_Journal_0 (.pointer (some ⟨b01, 0, none⟩))) (⟨(), p1.area, p1.bytes, p1.l⟩ : journal_Journal), BF b01 68 (ko_disk_Disk_0_1 w1_0 w1_1) (⟨[], [], p2.fuse, p2.dead⟩ : disk_Disk), RowF w1_0 100 (karr 256 (kint .u8)) p2.firm, RowF w1_1 102 k_disk_write p2.loose])) s13 rfl (ob_callL0 (args := [_]) (L := []) rfl .direct hb44 (List.Perm.refl _) (fun a w s => by exact c_slices_Clone_string_string k _ _ e_x1 _ _ _ (s.arg (.tmp rfl))) (by exact fun _ => rfl)) fun v1 _ _ s14 => ?_; clear s13
 refine qs s14 (.c1 rfl (ob_assign rfl (.tmp rfl)) (.ce (u 2 rfl .nil))) fun _ _ s16 => wn hK4 ?_; clear s14
 refine wp_ret ?_
 have s17 := St.freezeAllM (A := []) s16 (ts := [2]) (.cons rfl .nil); clear s16
 obtain rfl := Option.some.inj h1
 exact leaveXD (D := []) () s17 rfl (.inl rfl) rfl (.cons (.tmp rfl) .nil) rfl
theorem c_cabalref13_Same (k : Nat) (p1 : (List (List Int))) (p2 : (List (List Int))) (r : Bool) (h0 : cabalref13_Same k p1 p2 = some r) (ok : Ok) (w0 : World) (z0 : Value) (z1 : Value) (u0 : ((ksl kstr).V p1).holds ok w0 z0) (u1 : ((ksl kstr).V p2).holds ok w0 z1) :
 Gives Tryd.prog 12 [z0, z1] ok w0 (resFact [kbool.V r]) := by
 unfold cabalref13_Same at h0
 refine enter (N := 26) Tryd.func12 rfl rfl (of_decide_eq_true rfl) (.cons u0 (.cons u1 .nil)) fun a1 s1 => ?_
 refine wp_seq_k fun K1 hK1 => wp_region_lit (qs s1 (.c1 rfl (ob_assign rfl opd_bool) (.ce (u 0 rfl (u 1 rfl .nil)))) fun _ _ s3 => wn hK1 ?_); clear s1
 refine wp_seq_k fun K2 hK2 => wp_seq_k fun K3 hK3 => ?_
 refine wp_region_lit (qs s3 (.c1 rfl (mv rfl rfl) (.c1 rfl (ob_lens rfl Tryd.underlying30 (.tmp rfl)) (.c1 rfl (mv rfl rfl) (.c1 rfl (ob_lens rfl Tryd.underlying30 (.tmp rfl)) (.c1 rfl (ob_neq rfl (.tmp rfl) (.tmp rfl)) (.ce (u 0 rfl (u 1 rfl (u 10 rfl .nil))))))))) fun _ _ s9 => wn hK3 ?_); clear s3
 refine cond_split s9 (.tmp rfl) (fun hc1 => ?_) (fun hc1 => ?_)
 ·have h1 := ite_t hc1 h0; clear h0
  refine wp_seq_k fun K4 hK4 => wp_region_lit (qs s9 (.c1 rfl (ob_assign rfl opd_bool) (.ce (u 4 rfl .nil))) fun _ _ s11 => wn hK4 ?_); clear s9
  refine wp_ret ?_
  obtain rfl := Option.some.inj h1
  exact leave s11 (.inl rfl) rfl (.cons (.tmp rfl) .nil)
 ·have h2 := ite_f hc1 h0; clear h0
  refine wp_skip ?_
  refine then_normal (hK2 _ _ ?_)
  have s12 := s9.sub (u 0 rfl (u 1 rfl .nil)); clear s9
  refine wp_seq_k fun K5 hK5 => wp_seq_k fun K6 hK6 => ?_
  refine wp_region_lit (qs s12 (.c1 rfl (ob_assign rfl (opd_int rfl)) (.ce (u 0 rfl (u 1 rfl (u 5 rfl .nil))))) fun _ _ s14 => wn hK6 ?_); clear s12
  have hj1 : ∀ (a : Act) (w : World), (cabalref13_Same.j1 k) = some r → St ⟨26, w0, ok, []⟩ [] [] a w → K5 a w := by
   intro a15 w15 h3 s15
   unfold cabalref13_Same.j1 at h3
   refine hK5 _ _ ?_
   refine wp_seq_k fun K7 hK7 => wp_region_lit (qs s15 (.c1 rfl (ob_assign rfl opd_bool) (.ce (u 4 rfl .nil))) fun _ _ s17 => wn hK7 ?_); clear s15
   refine wp_ret ?_
   obtain rfl := Option.some.inj h3
   exact leave s17 (.inl rfl) rfl (.cons (.tmp rfl) .nil)
  refine wp_block ?_
  refine wp_loop_fuel (fun m (q : Int) => cabalref13_Same.l1 k p1 p2 m q) r (fun _ => rfl) (fun q a w => St ⟨26, w0, ok, []⟩ [] [(0, ((ksl kstr).V p1)), (1, ((ksl kstr).V p2)), (5, ((kint .i64).V q))] a w) ?_ k (0 : Int) _ _ h2 (s14.sub (.cons rfl (.cons rfl (.cons rfl .nil))))
  rintro n1 y1 a18 w18 h4 s18 K8 hK8
  replace h4 : cabalref13_Same.l1 k p1 p2 (n1 + 1) y1 = some r := h4; rw [cabalref13_Same.l1] at h4
  have h5 := h4; clear h4
  refine wp_seq_k fun K9 hK9 => wp_seq_k fun K10 hK10 => ?_
  refine wp_region_lit (qs s18 (.c1 rfl (mv rfl rfl) (.c1 rfl (mv rfl rfl) (.c1 rfl (ob_lens rfl Tryd.underlying30 (.tmp rfl)) (.c1 rfl (ob_lss rfl (.tmp rfl) (.tmp rfl)) (.ce (u 0 rfl (u 1 rfl (u 5 rfl (u 14 rfl .nil))))))))) fun _ _ s23 => wn hK10 ?_); clear s18
  refine cond_split s23 (.tmp rfl) (fun hc2 => ?_) (fun hc2 => ?_)
  ·have h6 := ite_t hc2 h5; clear h5
   refine wp_skip ?_
   refine then_normal (hK9 _ _ ?_)
   have s24 := s23.sub (u 0 rfl (u 1 rfl (u 5 rfl .nil))); clear s23
   refine wp_seq_k fun K11 hK11 => wp_block ?_
   refine wp_seq_k fun K12 hK12 => ?_
   obtain ⟨x1, e_x1, h7⟩ := bind_some h6; clear h6
   obtain ⟨x2, e_x2, h8⟩ := bind_some h7; clear h7
   refine wp_goes (Fs := [((ksl kstr).V p1), ((kint .i64).V y1), (ptrTo kstr x1), (kstr.V x1), ((ksl kstr).V p2), ((kint .i64).V y1), (ptrTo kstr x2), (kstr.V x2)]) (bits := [0, 0, 3, 7, 0, 0, 48, 112, 255]) (m := 8) (todo := 0) mx s24 ?_; clear s24
   refine goes_last (by kernel_rfl) rfl (oc (av 0 rfl rfl Av.nil) rfl rfl (mv rfl rfl) (oc (av 5 rfl rfl Av.nil) rfl rfl (mv rfl rfl) (oc (an 0 rfl rfl rfl (an 1 rfl rfl rfl Av.nil)) rfl rfl (ob_indexAddrs rfl Tryd.underlying30 sz9 (.tmp rfl) (.tmp rfl) e_x1) (oc (an 2 rfl rfl rfl Av.nil) rfl rfl (ob_loadr rfl tk9 (.tmp rfl)) (oc (av 1 rfl rfl Av.nil) rfl rfl (mv rfl rfl) (oc (av 5 rfl rfl Av.nil) rfl rfl (mv rfl rfl) (oc (an 4 rfl rfl rfl (an 5 rfl rfl rfl Av.nil)) rfl rfl (ob_indexAddrs rfl Tryd.underlying30 sz9 (.tmp rfl) (.tmp rfl) e_x2) (oc (an 6 rfl rfl rfl Av.nil) rfl rfl (ob_loadr rfl tk9 (.tmp rfl)) opsS_nil)))))))) (out_old (t := 0) rfl rfl (out_old (t := 1) rfl rfl (out_old (t := 5) rfl rfl (out_new (i := 3) (by decide) rfl rfl (out_new (i := 7) (by decide) rfl rfl out_nil))))) fun _ _ s25 => ?_
   refine qs s25 (.c1 rfl (ob_sneq rfl (.tmp rfl) (.tmp rfl)) (.ce (u 0 rfl (u 1 rfl (u 5 rfl (u 25 rfl .nil)))))) fun _ _ s27 => wn hK12 ?_; clear s25
   refine cond_split s27 (.tmp rfl) (fun hc3 => ?_) (fun hc3 => ?_)
   ·have h9 := ite_t hc3 h8; clear h8
    refine wp_seq_k fun K13 hK13 => wp_region_lit (qs s27 (.c1 rfl (ob_assign rfl opd_bool) (.ce (u 4 rfl .nil))) fun _ _ s29 => wn hK13 ?_); clear s27
    refine wp_ret ?_
    obtain rfl := Option.some.inj h9
    exact leave s29 (.inl rfl) rfl (.cons (.tmp rfl) .nil)
   ·have h10 := ite_f hc3 h8; clear h8
    refine wp_skip ?_
    refine in_normal ?_
    refine then_normal (hK11 _ _ ?_)
    have s30 := s27.sub (u 0 rfl (u 1 rfl (u 5 rfl .nil))); clear s27
    refine wp_region_lit (qs s30 (.c1 rfl (mv rfl rfl) (.c1 rfl (ob_add rfl (.tmp rfl) (opd_int rfl)) (.c1 rfl (ob_assign rfl (.tmp rfl)) .cz))) fun _ _ s33 => ?_); clear s30
    refine wpList_nil ?_
    refine then_normal ?_
    exact hK8 (iadd .i64 y1 (1 : Int)) _ _ h10 (s33.sub (.cons rfl (.cons rfl (.cons rfl .nil))))
  ·have h11 := ite_f hc2 h5; clear h5
   refine wp_exit ?_
   refine (then_exit (then_exit (in_here ?_)))
   refine then_normal ?_
   exact hj1 _ _ h11 (s23.sub .nil)
theorem c_caballaw13_alive (k : Nat) (r : Bool) (h0 : caballaw13_alive k = some r) (ok : Ok) (w0 : World) (gl0 : (ptrTo (karr 8 (kint .u32)) G_digest_first).holds ok w0 (.pointer (some ⟨0, 0, none⟩))) (gl1 : (ptrTo (karr 64 (kint .u32)) G_digest_rounds).holds ok w0 (.pointer (some ⟨1, 0, none⟩))) :
 Gives Tryd.prog 6 [] ok w0 (resFact [kbool.V r]) := by
 unfold caballaw13_alive at h0
 refine enter (N := 46) Tryd.func6 rfl rfl (of_decide_eq_true rfl) .nil fun a1 s1 => ?_
 have s2 := s1.keepKnown 100000 gl0 okIn; clear s1
 have s3 := s2.keepKnown 100001 gl1 okIn; clear s2
 refine wp_seq_k fun K1 hK1 => wp_region_lit (qs s3 (.c1 rfl (ob_assign rfl opd_bool) (.ce (u 100000 rfl (u 100001 rfl .nil)))) fun _ _ s5 => wn hK1 ?_); clear s3
 refine wp_seq_k fun K2 hK2 => wp_region_lit ?_
 obtain ⟨x1, e_x1, h1⟩ := bind_some h0; clear h0
 refine qx (B' := (fun gg : Nat × Value × Value => [BF gg.1 68 (ko_disk_Disk_0_1 gg.2.1 gg.2.2) (⟨[], [], x1.fuse, x1.dead⟩ : disk_Disk), RowF gg.2.1 100 (karr 256 (kint .u8)) x1.firm, RowF gg.2.2 102 k_disk_write x1.loose])) s5 rfl (ob_callL0 (args := [_]) (L := []) rfl .direct hb7 (List.Perm.refl _) (fun a w s => by exact c_disk_New k _ _ e_x1 _ _ _ (s.arg (opd_int rfl))) (by exact fun _ => rfl)) fun gg6 _ _ s6 => ?_; clear s5
 obtain ⟨b1, v1, v2⟩ := gg6
 refine qs s6 (.c1 rfl (ob_assign rfl (.tmp rfl)) (.ce (u 1 rfl (u 100000 rfl (u 100001 rfl .nil))))) fun _ _ s8 => wn hK2 ?_; clear s6
 obtain ⟨x2, e_x2, h2⟩ := bind_some h1; clear h1
 refine wp_seq_k fun K3 hK3 => wp_region_lit (qs s8 (.c1 rfl (mv rfl rfl) .cz) fun _ _ s9 => ?_); clear s8
 refine qx (B' := (fun gg : Nat × Value × Value => [whenO x2.1 (BF gg.1 70 (ko_journal_Journal_0 (.pointer (some ⟨b1, 0, none⟩))) (⟨(), x2.2.1.area, x2.2.1.bytes, x2.2.1.l⟩ : journal_Journal)), BF b1 68 (ko_disk_Disk_0_1 gg.2.1 gg.2.2) (⟨[], [], x2.2.2.2.fuse, x2.2.2.2.dead⟩ : disk_Disk), RowF gg.2.1 100 (karr 256 (kint .u8)) x2.2.2.2.firm, RowF gg.2.2 102 k_disk_write x2.2.2.2.loose])) s9 rfl (ob_callL0 (args := [_]) (L := [_, _, _]) rfl .direct hb8 (List.Perm.refl _) (fun a w s => by exact c_journal_Open k _ _ e_x2 _ _ (s.env _ _ (show get _ 100000 = _ from rfl)) (s.env _ _ (show get _ 100001 = _ from rfl)) _ _ _ _ (ownL s) (disL s) (nodL s) (s.arg (.tmp rfl))) (by exact fun _ => rfl)) fun gg10 _ _ s10 => ?_; clear s9
 obtain ⟨b2, v3, v4⟩ := gg10
 refine qs s10 (.c1 rfl (mv rfl rfl) (.c1 rfl (ob_extract rfl (.tmp rfl) rfl) (.c1 rfl (ob_extract rfl (.tmp rfl) rfl) (.c1 rfl (ob_assign rfl (.tmp rfl)) (.c1 rfl (ob_assign rfl (.tmp rfl)) .cz))))) fun _ _ s15 => ?_; clear s10
 refine wpList_nil ?_
 refine bool_split x2.1 (fun hc1 => ?_) (fun hc1 => ?_)
 ·have h3 := ite_t hc1 h2; clear h2
  have s16 := St.whenT hc1 s15; clear s15
  have s17 := St.optT (t := 10) hc1 rfl s16; clear s16
  have s18 := St.optT (t := 2) hc1 rfl s17; clear s17
  refine then_normal (hK3 _ _ ?_)
  have s19 := s18.sub (u 1 rfl (u 2 rfl (u 3 rfl (u 100000 rfl (u 100001 rfl .nil))))); clear s18
  refine wp_seq_k fun K4 hK4 => wp_seq_k fun K5 hK5 => ?_
  obtain ⟨x3, e_x3, h4⟩ := bind_some h3; clear h3
  refine wp_region_lit (qs s19 (.c1 rfl (mv rfl rfl) (.c1 rfl (ob_neq rfl (.tmp rfl) (opd_int rfl)) (.c1 rfl (mv rfl rfl) (.cg rfl rfl rfl rfl (fun hb => ob_move rfl (.tmp rfl)) (.cg rfl rfl rfl rfl (fun hb => (Ob.uncond (t := 15) hb rfl (ob_ptrNil (p := some _) rfl pt26 (.tmp rfl) opd_is))) (.c1 rfl (ob_or2 rfl (.tmp rfl) opd_bool (.tmp rfl)) (.c1 rfl (mv rfl rfl) (.cg rfl rfl rfl rfl (fun hb => ob_move rfl (.tmp rfl)) (.cg rfl rfl rfl rfl (fun hb => ob_mkSlice (k := kstr) (xs := ([([97] : List Int), ([98, 99] : List Int)] : (List (List Int)))) rfl Tryd.underlying30 zz9 sz9 Zr.str (by decide) (by decide) (.cons (opd_str (by rfl) (by decide)) rfl (LS.arr' (i := 0) (ys := ([([97] : List Int), []] : (List (List Int)))) (by simp) (by rfl)) (.cons (opd_str (by rfl) (by decide)) rfl (LS.arr' (i := 1) (ys := ([([97] : List Int), ([98, 99] : List Int)] : (List (List Int)))) (by simp) (by rfl)) (.nil _)))) .cz))))))))) fun _ _ s28 => ?_); clear s19
  refine seq_opxg (B1 := (fun gg : Value × Value => [BF b2 70 (ko_journal_Journal_0 (.pointer (some ⟨b1, 0, none⟩))) (⟨(), x3.2.1.area, x3.2.1.bytes, x3.2.1.l⟩ : journal_Journal), BF b1 68 (ko_disk_Disk_0_1 gg.1 gg.2) (⟨[], [], x3.2.2.fuse, x3.2.2.dead⟩ : disk_Disk), RowF gg.1 100 (karr 256 (kint .u8)) x3.2.2.firm, RowF gg.2 102 k_disk_write x3.2.2.loose])) s28 rfl rfl rfl rfl (of_decide_eq_true rfl) (fun hb => (ObX.uncond (t := 20) hb rfl ((ObX.uncond (t := 19) hb rfl (ob_callL0 (args := [_, _]) (L := [_, _, _, _]) rfl .direct hb11 (List.Perm.refl _) (fun a w s => by exact c_journal_Journal_Append k _ _ _ _ (ite_t hb e_x3) _ _ (s.env _ _ (show get _ 100000 = _ from rfl)) (s.env _ _ (show get _ 100001 = _ from rfl)) _ _ _ _ _ _ (ownL s) (disL s) (nodL s) (s.arg (.tmp rfl)) (s.arg (.tmp rfl))) (by exact fun _ => rfl)))))) (fun hb0 => by obtain rfl := Option.some.inj (ite_f hb0 e_x3); exact ⟨⟨v3, v4⟩, rfl⟩) fun gg29 a29 w29 s29 => ?_; clear s28
  obtain ⟨v5, v6⟩ := gg29
  obtain ⟨x4, e_x4, h5⟩ := bind_some h4; clear h4; replace e_x4 := Option.some.inj e_x4
  refine qs s29 (.cg rfl rfl rfl rfl (fun hb => (Ob.uncond (t := 21) hb rfl (ob_neq rfl (.tmp rfl) (opd_int rfl)))) (.c1 rfl ((ob_or2 rfl (.tmp rfl) opd_bool (.tmp rfl)).nm e_x4) (.ce (u 1 rfl (u 2 rfl (u 23 rfl (u 100000 rfl (u 100001 rfl .nil)))))))) fun _ _ s32 => wn hK5 ?_; clear s29
  refine cond_split s32 (.tmp rfl) (fun hc2 => ?_) (fun hc2 => ?_)
  ·have h6 := ite_t hc2 h5; clear h5
   refine wp_seq_k fun K6 hK6 => wp_region_lit (qs s32 (.c1 rfl (ob_assign rfl opd_bool) (.ce (u 0 rfl (u 100000 rfl (u 100001 rfl .nil))))) fun _ _ s34 => wn hK6 ?_); clear s32
   have s35 := St.drop (A := []) s34; clear s34
   have s36 := St.drop (A := []) s35; clear s35
   have s37 := St.drop (A := []) s36; clear s36
   have s38 := St.drop (A := []) s37; clear s37
   refine wp_ret ?_
   obtain rfl := Option.some.inj h6
   exact leave s38 (.inl rfl) rfl (.cons (.tmp rfl) .nil)
  ·have h7 := ite_f hc2 h5; clear h5
   refine wp_skip ?_
   refine then_normal (hK4 _ _ ?_)
   have s39 := s32.sub (u 1 rfl (u 2 rfl (u 100000 rfl (u 100001 rfl .nil)))); clear s32
   obtain ⟨x5, e_x5, h8⟩ := bind_some h7; clear h7
   refine wp_seq_k fun K7 hK7 => wp_region_lit (qs s39 (.c1 rfl (mv rfl rfl) .cz) fun _ _ s40 => ?_); clear s39
   refine qx (B' := (fun gg : Nat × Value × Value => [whenO x5.1 (BF gg.1 70 (ko_journal_Journal_0 (.pointer (some ⟨b1, 0, none⟩))) (⟨(), x5.2.1.area, x5.2.1.bytes, x5.2.1.l⟩ : journal_Journal)), BF b1 68 (ko_disk_Disk_0_1 gg.2.1 gg.2.2) (⟨[], [], x5.2.2.2.fuse, x5.2.2.2.dead⟩ : disk_Disk), RowF gg.2.1 100 (karr 256 (kint .u8)) x5.2.2.2.firm, RowF gg.2.2 102 k_disk_write x5.2.2.2.loose, BF b2 70 (ko_journal_Journal_0 (.pointer (some ⟨b1, 0, none⟩))) (⟨(), x3.2.1.area, x3.2.1.bytes, x3.2.1.l⟩ : journal_Journal)])) s40 rfl (ob_callL0 (args := [_]) (L := [_, _, _]) rfl .direct hb8 (toFront [_] (toFront [_] (toFront [_] (List.Perm.refl _)))) (fun a w s => by exact c_journal_Open k _ _ e_x5 _ _ (s.env _ _ (show get _ 100000 = _ from rfl)) (s.env _ _ (show get _ 100001 = _ from rfl)) _ _ _ _ (ownL s) (disL s) (nodL s) (s.arg (.tmp rfl))) (by exact fun _ => rfl)) fun gg41 _ _ s41 => ?_; clear s40
   obtain ⟨b3, v7, v8⟩ := gg41
   refine qs s41 (.c1 rfl (mv rfl rfl) (.c1 rfl (ob_extract rfl (.tmp rfl) rfl) (.c1 rfl (ob_extract rfl (.tmp rfl) rfl) (.c1 rfl (ob_assign rfl (.tmp rfl)) (.c1 rfl (ob_assign rfl (.tmp rfl)) .cz))))) fun _ _ s46 => ?_; clear s41
   refine wpList_nil ?_
   refine bool_split x5.1 (fun hc3 => ?_) (fun hc3 => ?_)
   ·have h9 := ite_t hc3 h8; clear h8
    have s47 := St.whenT hc3 s46; clear s46
    have s48 := St.optT (t := 27) hc3 rfl s47; clear s47
    have s49 := St.optT (t := 4) hc3 rfl s48; clear s48
    refine then_normal (hK7 _ _ ?_)
    have s50 := s49.sub (u 2 rfl (u 4 rfl (u 5 rfl (u 100000 rfl (u 100001 rfl .nil))))); clear s49
    obtain ⟨x6, e_x6, h10⟩ := bind_some h9; clear h9
    refine wp_seq_k fun K8 hK8 => wp_region_lit (qs s50 (.c1 rfl (mv rfl rfl) (.c1 rfl (ob_eql rfl (.tmp rfl) (opd_int rfl)) (.c1 rfl (mv rfl rfl) (.cg rfl rfl rfl rfl (fun hb => ob_move rfl (.tmp rfl)) (.cg rfl rfl rfl rfl (fun hb => (Ob.uncond (t := 32) hb rfl (ob_ptrNotNil (p := some _) rfl pt26 (.tmp rfl) opd_is))) (.c1 rfl (ob_and2 rfl (.tmp rfl) (.tmp rfl) opd_bool) (.c1 rfl (mv rfl rfl) (.cg rfl rfl rfl rfl (fun hb => ob_move rfl (.tmp rfl)) .cz)))))))) fun _ _ s58 => ?_); clear s50
    refine seq_opxg (B1 := (fun _ : Unit => [BF b3 70 (ko_journal_Journal_0 (.pointer (some ⟨b1, 0, none⟩))) (⟨(), x5.2.1.area, x5.2.1.bytes, x5.2.1.l⟩ : journal_Journal), BF b1 68 (ko_disk_Disk_0_1 v7 v8) (⟨[], [], x5.2.2.2.fuse, x5.2.2.2.dead⟩ : disk_Disk), RowF v7 100 (karr 256 (kint .u8)) x5.2.2.2.firm, RowF v8 102 k_disk_write x5.2.2.2.loose, BF b2 70 (ko_journal_Journal_0 (.pointer (some ⟨b1, 0, none⟩))) (⟨(), x3.2.1.area, x3.2.1.bytes, x3.2.1.l⟩ : journal_Journal)])) s58 rfl rfl rfl rfl (of_decide_eq_true rfl) (fun hb => (ObX.uncond (t := 36) hb rfl (ob_callL0 (args := [_]) (L := [_, _, _, _]) rfl .direct hb13 (List.Perm.refl _) (fun a w s => by exact c_journal_Journal_Records k _ _ _ (ite_t hb e_x6) _ _ _ _ _ _ _ (ownL s) (disL s) (nodL s) (s.arg (.tmp rfl))) (by exact fun _ => rfl)))) (fun hb0 => by obtain rfl := Option.some.inj (ite_f hb0 e_x6); exact ⟨(), rfl⟩) fun _ a59 w59 s59 => ?_; clear s58
    obtain ⟨x7, e_x7, h11⟩ := bind_some h10; clear h10
    obtain ⟨x8, e_x8, h12⟩ := bind_some h11; clear h11; replace e_x8 := Option.some.inj e_x8
    refine qs s59 (.cg rfl rfl rfl rfl (fun hb => ob_mkSlice (k := kstr) (xs := ([([97] : List Int), ([98, 99] : List Int)] : (List (List Int)))) rfl Tryd.underlying30 zz9 sz9 Zr.str (by decide) (by decide) (.cons (opd_str (by rfl) (by decide)) rfl (LS.arr' (i := 0) (ys := ([([97] : List Int), []] : (List (List Int)))) (by simp) (by rfl)) (.cons (opd_str (by rfl) (by decide)) rfl (LS.arr' (i := 1) (ys := ([([97] : List Int), ([98, 99] : List Int)] : (List (List Int)))) (by simp) (by rfl)) (.nil _)))) (.cg rfl rfl rfl rfl (fun hb => (Ob.uncond (t := 38) hb rfl ((Ob.uncond (t := 37) hb rfl (ob_callD0 (args := [_, _]) rfl .direct hb12 (fun a w s => by exact c_cabalref13_Same k _ _ _ (ite_t hb e_x7) _ _ _ _ (s.arg (.tmp rfl)) (s.arg (.tmp rfl)))))))) (.c1 rfl ((ob_and2 rfl (.tmp rfl) (.tmp rfl) opd_bool).nm e_x8) (.c1 rfl (mv rfl rfl) (.cg rfl rfl rfl rfl (fun hb => ob_move rfl (.tmp rfl)) .cz))))) fun _ _ s64 => ?_; clear s59
    have s65 := s64.perm (toFront [_, _, _, _] (toFront [_] (toFront [_] (toFront [_] (List.Perm.refl _))))); clear s64
    obtain ⟨x9, e_x9, h13⟩ := bind_some h12; clear h12
    refine seq_opxg (B1 := (fun _ : Unit => [BF b2 70 (ko_journal_Journal_0 (.pointer (some ⟨b1, 0, none⟩))) (⟨(), x3.2.1.area, x3.2.1.bytes, x3.2.1.l⟩ : journal_Journal), BF b1 68 (ko_disk_Disk_0_1 v7 v8) (⟨[], [], x5.2.2.2.fuse, x5.2.2.2.dead⟩ : disk_Disk), RowF v7 100 (karr 256 (kint .u8)) x5.2.2.2.firm, RowF v8 102 k_disk_write x5.2.2.2.loose, BF b3 70 (ko_journal_Journal_0 (.pointer (some ⟨b1, 0, none⟩))) (⟨(), x5.2.1.area, x5.2.1.bytes, x5.2.1.l⟩ : journal_Journal)])) s65 rfl rfl rfl rfl (of_decide_eq_true rfl) (fun hb => (ObX.uncond (t := 42) hb rfl (ob_callL0 (args := [_]) (L := [_, _, _, _]) rfl .direct hb20 (List.Perm.refl _) (fun a w s => by exact c_journal_Journal_Room k _ _ _ (ite_t hb e_x9) _ _ _ _ _ _ _ (ownL s) (disL s) (nodL s) (s.arg (.tmp rfl))) (by exact fun _ => rfl)))) (fun hb0 => by obtain rfl := Option.some.inj (ite_f hb0 e_x9); exact ⟨(), rfl⟩) fun _ a66 w66 s66 => ?_; clear s65
    refine qs s66 (.cg rfl rfl rfl rfl (fun hb => (Ob.uncond (t := 43) hb rfl (ob_eql rfl (.tmp rfl) (opd_int rfl)))) (.c1 rfl (ob_and2 rfl (.tmp rfl) (.tmp rfl) opd_bool) (.c1 rfl (ob_assign rfl (.tmp rfl)) (.ce (u 0 rfl (u 100000 rfl (u 100001 rfl .nil))))))) fun _ _ s70 => wn hK8 ?_; clear s66
    have s71 := St.drop (A := []) s70; clear s70
    have s72 := St.drop (A := []) s71; clear s71
    have s73 := St.drop (A := []) s72; clear s72
    have s74 := St.drop (A := []) s73; clear s73
    have s75 := St.drop (A := []) s74; clear s74
    refine wp_ret ?_
    obtain rfl := Option.some.inj h13
    exact leave s75 (.inl rfl) rfl (.cons (.tmp rfl) .nil)
   ·have h14 := ite_f hc3 h8; clear h8
    have s76 := St.whenF hc3 s46; clear s46
    have s77 := St.optF (t := 27) hc3 rfl s76; clear s76
    have s78 := St.optF (t := 4) hc3 rfl s77; clear s77
    refine then_normal (hK7 _ _ ?_)
    have s79 := s78.sub (u 2 rfl (u 4 rfl (u 5 rfl (u 100000 rfl (u 100001 rfl .nil))))); clear s78
    refine wp_seq_k fun K9 hK9 => wp_region_lit (qs s79 (.c1 rfl (mv rfl rfl) (.c1 rfl (ob_eql rfl (.tmp rfl) (opd_int rfl)) (.c1 rfl (mv rfl rfl) (.cg rfl rfl rfl rfl (fun hb => ob_move rfl (.tmp rfl)) (.cg rfl rfl rfl rfl (fun hb => (Ob.uncond (t := 32) hb rfl (ob_ptrNotNil (p := none) rfl pt26 (.tmp rfl) opd_is))) (.c1 rfl ((ob_and2 rfl (.tmp rfl) (.tmp rfl) opd_bool).nm (Y := false) (ite_self _)) (.c1 rfl (mv rfl rfl) .cz))))))) fun _ _ s86 => ?_); clear s79
    refine qg (F := (is (.pointer none))) s86 rfl rfl rfl rfl (fun hb => (absurd hb (by decide))) fun _ _ s87 => ?_; clear s86
    refine qg (F := ((ksl kstr).V ([] : (List (List Int))))) s87 rfl rfl rfl rfl (fun hb => (absurd hb (by decide))) fun _ _ s88 => ?_; clear s87
    refine qg (F := ((ksl kstr).V ([] : (List (List Int))))) s88 rfl rfl rfl rfl (fun hb => (absurd hb (by decide))) fun _ _ s89 => ?_; clear s88
    refine qg (F := (kbool.V false)) s89 rfl rfl rfl rfl (fun hb => (absurd hb (by decide))) fun _ _ s90 => ?_; clear s89
    refine qs s90 (.c1 rfl ((ob_and2 rfl (.tmp rfl) (.tmp rfl) opd_bool).nm (Y := false) (ite_self _)) (.c1 rfl (mv rfl rfl) .cz)) fun _ _ s92 => ?_; clear s90
    refine qg (F := (is (.pointer none))) s92 rfl rfl rfl rfl (fun hb => (absurd hb (by decide))) fun _ _ s93 => ?_; clear s92
    refine qg (F := ((kint .i64).V (0 : Int))) s93 rfl rfl rfl rfl (fun hb => (absurd hb (by decide))) fun _ _ s94 => ?_; clear s93
    refine qg (F := (kbool.V false)) s94 rfl rfl rfl rfl (fun hb => (absurd hb (by decide))) fun _ _ s95 => ?_; clear s94
    refine qs s95 (.c1 rfl ((ob_and2 rfl (.tmp rfl) (.tmp rfl) opd_bool).nm (Y := false) (ite_self _)) (.c1 rfl (ob_assign rfl (.tmp rfl)) (.ce (u 0 rfl (u 100000 rfl (u 100001 rfl .nil)))))) fun _ _ s98 => wn hK9 ?_; clear s95
    have s99 := St.drop (A := []) s98; clear s98
    have s100 := St.drop (A := []) s99; clear s99
    have s101 := St.drop (A := []) s100; clear s100
    have s102 := St.drop (A := []) s101; clear s101
    refine wp_ret ?_
    obtain rfl := Option.some.inj h14
    exact leave s102 (.inl rfl) rfl (.cons (.tmp rfl) .nil)
 ·have h15 := ite_f hc1 h2; clear h2
  have s103 := St.whenF hc1 s15; clear s15
  have s104 := St.optF (t := 10) hc1 rfl s103; clear s103
  have s105 := St.optF (t := 2) hc1 rfl s104; clear s104
  refine then_normal (hK3 _ _ ?_)
  have s106 := s105.sub (u 1 rfl (u 2 rfl (u 3 rfl (u 100000 rfl (u 100001 rfl .nil))))); clear s105
  refine wp_seq_k fun K10 hK10 => wp_seq_k fun K11 hK11 => ?_
  refine wp_region_lit (qs s106 (.c1 rfl (mv rfl rfl) (.c1 rfl (ob_neq rfl (.tmp rfl) (opd_int rfl)) (.c1 rfl (mv rfl rfl) (.cg rfl rfl rfl rfl (fun hb => ob_move rfl (.tmp rfl)) (.cg rfl rfl rfl rfl (fun hb => (Ob.uncond (t := 15) hb rfl (ob_ptrNil (p := none) rfl pt26 (.tmp rfl) opd_is))) (.c1 rfl ((ob_or2 rfl (.tmp rfl) opd_bool (.tmp rfl)).nm (Y := true) (ite_self _)) (.c1 rfl (mv rfl rfl) .cz))))))) fun _ _ s113 => ?_); clear s106
  refine qg (F := (is (.pointer none))) s113 rfl rfl rfl rfl (fun hb => (absurd hb (by decide))) fun _ _ s114 => ?_; clear s113
  refine qg (F := ((ksl kstr).V ([] : (List (List Int))))) s114 rfl rfl rfl rfl (fun hb => (absurd hb (by decide))) fun _ _ s115 => ?_; clear s114
  refine qg (F := ((kint .i64).V (0 : Int))) s115 rfl rfl rfl rfl (fun hb => (absurd hb (by decide))) fun _ _ s116 => ?_; clear s115
  refine qg (F := (kbool.V false)) s116 rfl rfl rfl rfl (fun hb => (absurd hb (by decide))) fun _ _ s117 => ?_; clear s116
  refine qs s117 (.c1 rfl ((ob_or2 rfl (.tmp rfl) opd_bool (.tmp rfl)).nm (Y := true) (by rfl)) (.ce (u 1 rfl (u 2 rfl (u 23 rfl (u 100000 rfl (u 100001 rfl .nil))))))) fun _ _ s119 => wn hK11 ?_; clear s117
  refine cond_t s119 (.tmp rfl) ?_
  refine wp_seq_k fun K12 hK12 => wp_region_lit (qs s119 (.c1 rfl (ob_assign rfl opd_bool) (.ce (u 0 rfl (u 100000 rfl (u 100001 rfl .nil))))) fun _ _ s121 => wn hK12 ?_); clear s119
  have s122 := St.drop (A := []) s121; clear s121
  have s123 := St.drop (A := []) s122; clear s122
  have s124 := St.drop (A := []) s123; clear s123
  refine wp_ret ?_
  obtain rfl := Option.some.inj h15
  exact leave s124 (.inl rfl) rfl (.cons (.tmp rfl) .nil)
theorem c_caballaw13_great (k : Nat) (p1 : (List (List Int))) (r : Bool) (h0 : caballaw13_great k p1 = some r) (ok : Ok) (w0 : World) (z0 : Value) (u0 : ((ksl kstr).V p1).holds ok w0 z0) :
 Gives Tryd.prog 9 [z0] ok w0 (resFact [kbool.V r]) := by
 unfold caballaw13_great at h0
 refine enter (N := 30) Tryd.func9 rfl rfl (of_decide_eq_true rfl) (.cons u0 .nil) fun a1 s1 => ?_
 refine wp_seq_k fun K1 hK1 => wp_region_lit (qs s1 (.c1 rfl (ob_assign rfl opd_bool) (.ce (u 0 rfl .nil))) fun _ _ s3 => wn hK1 ?_); clear s1
 refine wp_seq_k fun K2 hK2 => wp_region_lit (qs s3 (.c1 rfl (ob_assign rfl (opd_int rfl)) (.ce (u 0 rfl (u 3 rfl .nil)))) fun _ _ s5 => wn hK2 ?_); clear s3
 refine wp_seq_k fun K3 hK3 => wp_seq_k fun K4 hK4 => ?_
 refine wp_region_lit (qs s5 (.c1 rfl (ob_assign rfl (opd_int rfl)) (.ce (u 0 rfl (u 3 rfl (u 4 rfl .nil))))) fun _ _ s7 => wn hK4 ?_); clear s5
 have hj1 : ∀ (y1 : Int) (a : Act) (w : World), (caballaw13_great.j1 k) y1 = some r → St ⟨30, w0, ok, []⟩ [] [(3, ((kint .i64).V y1))] a w → K3 a w := by
  intro y1 a8 w8 h1 s8
  unfold caballaw13_great.j1 at h1
  refine hK3 _ _ ?_
  refine wp_seq_k fun K5 hK5 => wp_region_lit (qs s8 (.c1 rfl (mv rfl rfl) (.c1 rfl (ob_gtr rfl (.tmp rfl) (opd_int rfl)) (.c1 rfl (ob_assign rfl (.tmp rfl)) (.ce (u 2 rfl .nil))))) fun _ _ s12 => wn hK5 ?_); clear s8
  refine wp_ret ?_
  obtain rfl := Option.some.inj h1
  exact leave s12 (.inl rfl) rfl (.cons (.tmp rfl) .nil)
 refine wp_block ?_
 refine wp_loop_fuel (fun m (q : Int × Int) => caballaw13_great.l1 k p1 m q.1 q.2) r (fun _ => rfl) (fun q a w => St ⟨30, w0, ok, []⟩ [] [(0, ((ksl kstr).V p1)), (3, ((kint .i64).V q.1)), (4, ((kint .i64).V q.2))] a w) ?_ k ((0 : Int), (0 : Int)) _ _ h0 (s7.sub (.cons rfl (.cons rfl (.cons rfl .nil))))
 rintro n1 ⟨y2, y3⟩ a13 w13 h2 s13 K6 hK6
 replace h2 : caballaw13_great.l1 k p1 (n1 + 1) y2 y3 = some r := h2; rw [caballaw13_great.l1] at h2
 have h3 := h2; clear h2
 refine wp_seq_k fun K7 hK7 => wp_seq_k fun K8 hK8 => ?_
 refine wp_region_lit (qs s13 (.c1 rfl (mv rfl rfl) (.c1 rfl (mv rfl rfl) (.c1 rfl (ob_lens rfl Tryd.underlying30 (.tmp rfl)) (.c1 rfl (ob_lss rfl (.tmp rfl) (.tmp rfl)) (.ce (u 0 rfl (u 3 rfl (u 4 rfl (u 8 rfl .nil))))))))) fun _ _ s18 => wn hK8 ?_); clear s13
 refine cond_split s18 (.tmp rfl) (fun hc1 => ?_) (fun hc1 => ?_)
 ·have h4 := ite_t hc1 h3; clear h3
  refine wp_skip ?_
  refine then_normal (hK7 _ _ ?_)
  have s19 := s18.sub (u 0 rfl (u 3 rfl (u 4 rfl .nil))); clear s18
  refine wp_seq_k fun K9 hK9 => wp_block ?_
  refine wp_seq_k fun K10 hK10 => wp_seq_k fun K11 hK11 => ?_
  obtain ⟨x1, e_x1, h5⟩ := bind_some h4; clear h4
  obtain ⟨x2, e_x2, h6⟩ := bind_some h5; clear h5; replace e_x2 := Option.some.inj e_x2
  refine wp_region_lit (qs s19 (.c1 rfl (mv rfl rfl) (.c1 rfl (mv rfl rfl) (.c1 rfl (ob_indexAddrs rfl Tryd.underlying30 sz9 (.tmp rfl) (.tmp rfl) e_x1) (.c1 rfl (ob_loadr rfl tk9 (.tmp rfl)) (.c1 rfl (ob_lenStr rfl Tryd.underlying9 (.tmp rfl)) (.c1 rfl (ob_gtr rfl (.tmp rfl) (opd_int rfl)) (.c1 rfl (mv rfl rfl) (.cg rfl rfl rfl rfl (fun hb => ob_move rfl (.tmp rfl)) (.cg rfl rfl rfl rfl (fun hb => (Ob.uncond (t := 18) hb rfl (ob_gtr rfl (.tmp rfl) (opd_int rfl)))) (.c1 rfl ((ob_or2 rfl (.tmp rfl) opd_bool (.tmp rfl)).nm e_x2) (.ce (u 0 rfl (u 3 rfl (u 4 rfl (u 20 rfl .nil))))))))))))))) fun _ _ s30 => wn hK11 ?_); clear s19
  refine cond_split s30 (.tmp rfl) (fun hc2 => ?_) (fun hc2 => ?_)
  ·have h7 := ite_t hc2 h6; clear h6
   refine wp_seq_k fun K12 hK12 => wp_region_lit (qs s30 (.c1 rfl (ob_assign rfl opd_bool) (.ce (u 2 rfl .nil))) fun _ _ s32 => wn hK12 ?_); clear s30
   refine wp_ret ?_
   obtain rfl := Option.some.inj h7
   exact leave s32 (.inl rfl) rfl (.cons (.tmp rfl) .nil)
  ·have h8 := ite_f hc2 h6; clear h6
   refine wp_skip ?_
   refine then_normal (hK10 _ _ ?_)
   have s33 := s30.sub (u 0 rfl (u 3 rfl (u 4 rfl .nil))); clear s30
   obtain ⟨x3, e_x3, h9⟩ := bind_some h8; clear h8
   refine wp_region_lit (qs s33 (.c1 rfl (mv rfl rfl) (.c1 rfl (mv rfl rfl) (.c1 rfl (mv rfl rfl) (.c1 rfl (ob_indexAddrs rfl Tryd.underlying30 sz9 (.tmp rfl) (.tmp rfl) e_x3) (.c1 rfl (ob_loadr rfl tk9 (.tmp rfl)) (.c1 rfl (ob_lenStr rfl Tryd.underlying9 (.tmp rfl)) (.c1 rfl (ob_add rfl (.tmp rfl) (.tmp rfl)) (.c1 rfl (ob_assign rfl (.tmp rfl)) .cz)))))))) fun _ _ s41 => ?_); clear s33
   refine wpList_nil ?_
   refine in_normal ?_
   refine then_normal (hK9 _ _ ?_)
   have s42 := s41.sub (u 0 rfl (u 3 rfl (u 4 rfl .nil))); clear s41
   refine wp_region_lit (qs s42 (.c1 rfl (mv rfl rfl) (.c1 rfl (ob_add rfl (.tmp rfl) (opd_int rfl)) (.c1 rfl (ob_assign rfl (.tmp rfl)) .cz))) fun _ _ s45 => ?_); clear s42
   refine wpList_nil ?_
   refine then_normal ?_
   exact hK6 ((iadd .i64 y2 (x3.length : Int)), (iadd .i64 y3 (1 : Int))) _ _ h9 (s45.sub (.cons rfl (.cons rfl (.cons rfl .nil))))
 ·have h10 := ite_f hc1 h3; clear h3
  refine wp_exit ?_
  refine (then_exit (then_exit (in_here ?_)))
  refine then_normal ?_
  exact hj1 y2 _ _ h10 (s18.sub (.cons rfl .nil))
theorem c_cabalref12_New (k : Nat) (p1 : Int) (r : cabalref12_Disk) (h0 : cabalref12_New k p1 = some r) (ok : Ok) (w0 : World) (z0 : Value) (u0 : ((kint .i64).V p1).holds ok w0 z0) :
 GivesX Tryd.prog 14 [z0] ok w0 [] (fun g : Nat × Value × Value × Value => resFact [ptrB g.1 0]) (fun g : Nat × Value × Value × Value => [BF g.1 49 (ko_cabalref12_Disk_0_1_2 (g.2.1) (g.2.2.1) (g.2.2.2)) (⟨[], [], [], r.Fuse, r.Dead⟩ : cabalref12_Disk), RowF (g.2.1) 9 kstr r.Firm, RowF (g.2.2.1) 3 (kint .i64) r.At, RowF (g.2.2.2) 9 kstr r.Data]) := by
 unfold cabalref12_New at h0
 refine enterX (N := 28) Tryd.func14 rfl rfl (of_decide_eq_true rfl) (.cons u0 .nil) List.nodup_nil (fun _ h => by cases h) (fun _ h => by cases h) fun a1 s1 => ?_
 refine wp_seq_k fun K1 hK1 => wp_region_lit (qs s1 (.c1 rfl (ob_assign rfl opd_is) (.ce (u 0 rfl .nil))) fun _ _ s3 => wn hK1 ?_); clear s1
 refine wp_seq_k fun K2 hK2 => wp_seq_k fun K3 hK3 => ?_
 refine wp_region_lit (qs s3 (.c1 rfl (mv rfl rfl) (.c1 rfl (ob_lss rfl (.tmp rfl) (opd_int rfl)) (.ce (u 0 rfl (u 6 rfl .nil))))) fun _ _ s6 => wn hK3 ?_); clear s3
 have hj1 : ∀ (y1 : Int) (a : Act) (w : World), (cabalref12_New.j1 k) y1 = some r → St ⟨28, w0, ok, (idsOf [])⟩ [] [(0, ((kint .i64).V y1))] a w → K2 a w := by
  intro y1 a7 w7 h1 s7
  unfold cabalref12_New.j1 at h1
  refine hK2 _ _ ?_
  refine wp_seq_k fun K4 hK4 => wp_seq_k fun K5 hK5 => ?_
  refine wp_region_lit (qs s7 (.c1 rfl (mv rfl rfl) (.c1 rfl (ob_gtr rfl (.tmp rfl) (opd_int rfl)) (.ce (u 0 rfl (u 8 rfl .nil))))) fun _ _ s10 => wn hK5 ?_); clear s7
  have hj2 : ∀ (y2 : Int) (a : Act) (w : World), (cabalref12_New.j2 k) y2 = some r → St ⟨28, w0, ok, (idsOf [])⟩ [] [(0, ((kint .i64).V y2))] a w → K4 a w := by
   intro y2 a11 w11 h2 s11
   unfold cabalref12_New.j2 at h2
   refine hK4 _ _ ?_
   refine wp_seq_k fun K6 hK6 => wp_region_lit ?_
   have s12 := St.adopt s11 (G := RowF (nilRow 11) 9 kstr []) rfl (rowNilN _ _ _ _ _); clear s11
   have s13 := St.adopt s12 (G := RowF (nilRow 12) 3 (kint .i64) []) rfl (rowNilN _ _ _ _ _); clear s12
   have s14 := St.adopt s13 (G := RowF (nilRow 13) 9 kstr []) rfl (rowNilN _ _ _ _ _); clear s13
   refine qs s14 (.c1 rfl ((ob_mkObj (K0 := (ko_cabalref12_Disk_0_1_2 (nilRow 11) (nilRow 12) (nilRow 13))) (K := (ko_cabalref12_Disk_0_1_2 (nilRow 11) (nilRow 12) (nilRow 13))) (X := (⟨[], [], [], (-1 : Int), false⟩ : cabalref12_Disk)) rfl Tryd.underlying49 zz49 rfl rfl pl49 (Zr.iso (f := to_cabalref12_Disk_0_1_2) (x := (⟨[], [], [], (0 : Int), false⟩ : cabalref12_Disk)) (Zr.pair (Zr.kis 11) (Zr.pair (Zr.kis 12) (Zr.pair (Zr.kis 13) (Zr.pair (Zr.int .i64) (Zr.pair Zr.bool Zr.nil)))))) (.cons (opd_int rfl) rfl (LSK.of (lso_cabalref12_Disk_0_1_2_Fuse (⟨[], [], [], (0 : Int), false⟩ : cabalref12_Disk) (-1 : Int))) (.nil _ _)))) .cz) fun _ _ s15 => ?_; clear s14
   refine qx (B' := (fun b1 : Nat => [BF b1 49 (ko_cabalref12_Disk_0_1_2 (nilRow 11) (nilRow 12) (nilRow 13)) (⟨[], [], [], (-1 : Int), false⟩ : cabalref12_Disk), RowF (nilRow 13) 9 kstr ([] : (List (List Int))), RowF (nilRow 12) 3 (kint .i64) ([] : (List Int)), RowF (nilRow 11) 9 kstr ([] : (List (List Int)))])) s15 rfl (ob_box rfl (.tmp rfl)) fun b1 _ _ s16 => ?_; clear s15
   refine qs s16 (.c1 rfl (ob_assign rfl (.tmp rfl)) (.ce (u 0 rfl (u 3 rfl .nil)))) fun _ _ s18 => wn hK6 ?_; clear s16
   refine wp_seq_k fun K7 hK7 => wp_seq_k fun K8 hK8 => ?_
   refine wp_region_lit (qs s18 (.c1 rfl (ob_assign rfl (opd_int rfl)) (.ce (u 0 rfl (u 3 rfl (u 4 rfl .nil))))) fun _ _ s20 => wn hK8 ?_); clear s18
   have hj3 : ∀ (y3 : (List (List Int))) (v1 : Value) (a : Act) (w : World), (cabalref12_New.j3 k) y3 = some r → St ⟨28, w0, ok, (idsOf [])⟩ [BF b1 49 (ko_cabalref12_Disk_0_1_2 v1 (nilRow 12) (nilRow 13)) (⟨[], [], [], (-1 : Int), false⟩ : cabalref12_Disk), RowF v1 9 kstr y3, RowF (nilRow 12) 3 (kint .i64) ([] : (List Int)), RowF (nilRow 13) 9 kstr ([] : (List (List Int)))] [(3, (ptrB b1 0))] a w → K7 a w := by
    intro y3 v1 a21 w21 h3 s21
    unfold cabalref12_New.j3 at h3
    refine hK7 _ _ ?_
    refine wp_seq_k fun K9 hK9 => wp_region_lit (qs s21 (.c1 rfl (mv rfl rfl) (.c1 rfl (ob_assign rfl (.tmp rfl)) (.ce (u 2 rfl .nil)))) fun _ _ s24 => wn hK9 ?_); clear s21
    refine wp_ret ?_
    obtain rfl := Option.some.inj h3
    exact leaveXD (D := []) ⟨b1, v1, (nilRow 12), (nilRow 13)⟩ s24 rfl (.inl rfl) rfl (.cons (.tmp rfl) .nil) rfl
   refine wp_block ?_
   have s25 := s20.perm (toFront [] (toFront [_, _] (toFront [_] (toFront [] (List.Perm.refl _))))); clear s20
   refine wp_loop_fuel (fun m (q : Int × (List (List Int))) => cabalref12_New.l1 k y2 m q.1 q.2) r (fun _ => rfl) (fun q a w => ∃ (v2 : Value), St ⟨28, w0, ok, (idsOf [])⟩ [BF b1 49 (ko_cabalref12_Disk_0_1_2 v2 (nilRow 12) (nilRow 13)) (⟨[], [], [], (-1 : Int), false⟩ : cabalref12_Disk), RowF v2 9 kstr q.2, RowF (nilRow 12) 3 (kint .i64) ([] : (List Int)), RowF (nilRow 13) 9 kstr ([] : (List (List Int)))] [(0, ((kint .i64).V y2)), (3, (ptrB b1 0)), (4, ((kint .i64).V q.1))] a w) ?_ k ((0 : Int), ([] : (List (List Int)))) _ _ h2 ⟨(nilRow 11), (s25.sub (.cons rfl (.cons rfl (.cons rfl .nil))))⟩
   rintro n1 ⟨y4, y5⟩ a26 w26 h4 ⟨v2, s26⟩ K10 hK10
   replace h4 : cabalref12_New.l1 k y2 (n1 + 1) y4 y5 = some r := h4; rw [cabalref12_New.l1] at h4
   have h5 := h4; clear h4
   refine wp_seq_k fun K11 hK11 => wp_seq_k fun K12 hK12 => ?_
   refine wp_region_lit (qs s26 (.c1 rfl (mv rfl rfl) (.c1 rfl (mv rfl rfl) (.c1 rfl (ob_lss rfl (.tmp rfl) (.tmp rfl)) (.ce (u 0 rfl (u 3 rfl (u 4 rfl (u 13 rfl .nil)))))))) fun _ _ s30 => wn hK12 ?_); clear s26
   refine cond_split s30 (.tmp rfl) (fun hc1 => ?_) (fun hc1 => ?_)
   ·have h6 := ite_t hc1 h5; clear h5
    refine wp_skip ?_
    refine then_normal (hK11 _ _ ?_)
    have s31 := s30.sub (u 0 rfl (u 3 rfl (u 4 rfl .nil))); clear s30
    refine wp_seq_k fun K13 hK13 => wp_block ?_
    obtain ⟨g1, h7⟩ := guard_some h6; clear h6
    obtain ⟨g2, h8⟩ := guard_some h7; clear h7
    refine wp_goes (Fs := [(ptrB b1 0), (ptrB b1 0), (ptrB b1 0), (ptrB b1 0), (is v2), nofact, nofact, nofact, nofact]) (bits := [0, 0, 2, 6, 14, 0, 32, 96, 254, 511, 1023, 2047]) (m := 9) (todo := 288) mx s31 ?_; clear s31
    refine goes_turn (B' := (fun v3 : Value => [RowF v3 5 (kint .u8) (List.replicate (256 : Int).toNat (0 : Int)), BF b1 49 (ko_cabalref12_Disk_0_1_2 v2 (nilRow 12) (nilRow 13)) (⟨[], [], [], (-1 : Int), false⟩ : cabalref12_Disk), RowF v2 9 kstr y5, RowF (nilRow 12) 3 (kint .i64) ([] : (List Int)), RowF (nilRow 13) 9 kstr ([] : (List (List Int)))])) (Fs' := (fun v3 : Value => setAll ([(ptrB b1 0), (ptrB b1 0), (ptrB b1 0), (ptrB b1 0), (is v2), nofact, nofact, nofact, nofact]) [(5, (is v3)), (6, (kstr.V (List.replicate (256 : Int).toNat (0 : Int)))), (7, ((ksl kstr).V ([(List.replicate (256 : Int).toNat (0 : Int))] : (List (List Int)))))])) 5 480 32 256 (by kernel_rfl) rfl rfl rfl (oc (av 3 rfl rfl Av.nil) rfl rfl (mv rfl rfl) (oc (av 3 rfl rfl Av.nil) rfl rfl (mv rfl rfl) (oc (an 1 rfl rfl rfl Av.nil) rfl rfl (ob_nilCheck rfl (.tmp rfl)) (oc (an 2 rfl rfl rfl Av.nil) rfl rfl (ob_fieldAddr (off' := 0) rfl Tryd.underlying49 rfl sz30 (by decide) (.tmp rfl) rfl) (oc (an 3 rfl rfl rfl Av.nil) rfl rfl (ob_loadRowV rfl (tkr30 _) (.tmp rfl) (.head _) (lgo_cabalref12_Disk_0_1_2_Firm (⟨[], [], [], (-1 : Int), false⟩ : cabalref12_Disk))) (opsS_skip (by rfl) (opsS_skip (by rfl) (opsS_skip (by rfl) (opsS_skip (by rfl) opsS_nil))))))))) (.plain _ Av.nil rfl (fun _ => rfl) (fun R => ob_makeRow (T8 := 0) rfl Tryd.underlying31 ap5 (Zr.int .u8) (by decide) (opd_int rfl) g1)) (setAll_same (us := (fun v3 : Value => [(5, (is v3)), (6, (kstr.V (List.replicate (256 : Int).toNat (0 : Int)))), (7, ((ksl kstr).V ([(List.replicate (256 : Int).toNat (0 : Int))] : (List (List Int)))))])) fun _ => by kernel_rfl) fun v3 => ?_
    refine goes_turn (B' := (fun v4 : Value => [RowF v3 5 (kint .u8) (List.replicate (256 : Int).toNat (0 : Int)), BF b1 49 (ko_cabalref12_Disk_0_1_2 v2 (nilRow 12) (nilRow 13)) (⟨[], [], [], (-1 : Int), false⟩ : cabalref12_Disk), RowF v4 9 kstr (y5 ++ ([(List.replicate (256 : Int).toNat (0 : Int))] : (List (List Int)))), RowF (nilRow 12) 3 (kint .i64) ([] : (List Int)), RowF (nilRow 13) 9 kstr ([] : (List (List Int)))])) (Fs' := (fun v4 : Value => setAll (setAll ([(ptrB b1 0), (ptrB b1 0), (ptrB b1 0), (ptrB b1 0), (is v2), nofact, nofact, nofact, nofact]) [(5, (is v3)), (6, (kstr.V (List.replicate (256 : Int).toNat (0 : Int)))), (7, ((ksl kstr).V ([(List.replicate (256 : Int).toNat (0 : Int))] : (List (List Int)))))]) [(8, (is v4))])) 8 288 510 0 (by kernel_rfl) rfl rfl rfl (oc (av 3 rfl rfl Av.nil) rfl rfl (mv rfl rfl) (oc (av 3 rfl rfl Av.nil) rfl rfl (mv rfl rfl) (oc (an 1 rfl rfl rfl Av.nil) rfl rfl (ob_nilCheck rfl (.tmp rfl)) (oc (an 2 rfl rfl rfl Av.nil) rfl rfl (ob_fieldAddr (off' := 0) rfl Tryd.underlying49 rfl sz30 (by decide) (.tmp rfl) rfl) (oc (an 3 rfl rfl rfl Av.nil) rfl rfl (ob_loadRowV rfl (tkr30 _) (.tmp rfl) (.tail _ (.head _)) (lgo_cabalref12_Disk_0_1_2_Firm (⟨[], [], [], (-1 : Int), false⟩ : cabalref12_Disk))) (opsS_skip (by rfl) (oc (an 5 rfl rfl rfl Av.nil) rfl rfl ((ob_lendG (L := [_]) (List.Perm.refl _) (.cons (t := 21) rfl (lendRow (.head _)) .nil) (Flat.V KFlat.str) (fun _ => ob_bytesToStr rfl Tryd.underlying31 Tryd.underlying9 Tryd.underlying5 (.tmp rfl)))) (oc (an 6 rfl rfl rfl Av.nil) rfl rfl (ob_mkSlice (k := kstr) (xs := ([(List.replicate (256 : Int).toNat (0 : Int))] : (List (List Int)))) rfl Tryd.underlying30 zz9 sz9 Zr.str (by decide) (by decide) (.cons (.tmp rfl) rfl (LS.arr' (i := 0) (ys := ([(List.replicate (256 : Int).toNat (0 : Int))] : (List (List Int)))) (by simp) (by rfl)) (.nil _))) (opsS_skip (by rfl) opsS_nil))))))))) (.plain _ (an 4 rfl rfl rfl (an 7 rfl rfl rfl Av.nil)) rfl (fun _ => rfl) (fun R => ob_appendL2 (A := [_, _]) rfl Tryd.underlying30 ap9 Zr.str (by decide) (.tmp rfl) (.tmp rfl) rfl g2)) (setAll_same (us := (fun v4 : Value => [(8, (is v4))])) fun _ => by kernel_rfl) fun v4 => ?_
    refine goes_last (by kernel_rfl) rfl (oc (av 3 rfl rfl Av.nil) rfl rfl (mv rfl rfl) (opsS_skip (by rfl) (opsS_skip (by rfl) (opsS_skip (by rfl) (opsS_skip (by rfl) (opsS_skip (by rfl) (opsS_skip (by rfl) (opsS_skip (by rfl) (opsS_skip (by rfl) opsS_nil))))))))) (out_old (t := 0) rfl rfl (out_old (t := 3) rfl rfl (out_old (t := 4) rfl rfl (out_new (i := 0) (by decide) rfl rfl (out_new (i := 8) (by decide) rfl rfl out_nil))))) fun _ _ s32 => ?_
    refine qs s32 (.c1 rfl (ob_nilCheck rfl (.tmp rfl)) (.c1 rfl (ob_fieldAddr (off' := 0) rfl Tryd.underlying49 rfl sz30 (by decide) (.tmp rfl) rfl) .cz)) fun _ _ s34 => ?_; clear s32
    refine seq_opx0 (B' := (fun _ : Unit => [RowF v3 5 (kint .u8) (List.replicate (256 : Int).toNat (0 : Int)), BF b1 49 (ko_cabalref12_Disk_0_1_2 v4 (nilRow 12) (nilRow 13)) (⟨[], [], [], (-1 : Int), false⟩ : cabalref12_Disk), RowF v4 9 kstr (y5 ++ ([(List.replicate (256 : Int).toNat (0 : Int))] : (List (List Int)))), RowF (nilRow 12) 3 (kint .i64) ([] : (List Int)), RowF (nilRow 13) 9 kstr ([] : (List (List Int)))])) s34 rfl rfl (ob_storeRowV (A := [_]) rfl (tkr30 _) (.tmp rfl) (.tmp rfl) (.tail _ (.tail _ (.head _))) rfl (lsk_cabalref12_Disk_0_1_2_to_0_1_2_at0 (⟨[], [], [], (-1 : Int), false⟩ : cabalref12_Disk)) rfl) fun _ a35 w35 s35 => ?_; clear s34
    refine wpList_nil ?_
    refine in_normal ?_
    refine then_normal (hK13 _ _ ?_)
    have s36 := s35.sub (u 0 rfl (u 3 rfl (u 4 rfl .nil))); clear s35
    have s37 := St.drop (A := []) s36; clear s36
    refine wp_region_lit (qs s37 (.c1 rfl (mv rfl rfl) (.c1 rfl (ob_add rfl (.tmp rfl) (opd_int rfl)) (.c1 rfl (ob_assign rfl (.tmp rfl)) .cz))) fun _ _ s40 => ?_); clear s37
    refine wpList_nil ?_
    refine then_normal ?_
    exact hK10 ((iadd .i64 y4 (1 : Int)), (y5 ++ ([(List.replicate (256 : Int).toNat (0 : Int))] : (List (List Int))))) _ _ h8 ⟨v4, (s40.sub (.cons rfl (.cons rfl (.cons rfl .nil))))⟩
   ·have h9 := ite_f hc1 h5; clear h5
    refine wp_exit ?_
    refine (then_exit (then_exit (in_here ?_)))
    refine then_normal ?_
    exact hj3 y5 v2 _ _ h9 (s30.sub (.cons rfl .nil))
  refine cond_split s10 (.tmp rfl) (fun hc2 => ?_) (fun hc2 => ?_)
  ·have h10 := ite_t hc2 h1; clear h1
   refine wp_region_lit (qs s10 (.c1 rfl (ob_assign rfl (opd_int rfl)) .cz) fun _ _ s41 => ?_); clear s10
   refine wpList_nil ?_
   refine then_normal ?_
   exact hj2 (1024 : Int) _ _ h10 (s41.sub (.cons rfl .nil))
  ·have h11 := ite_f hc2 h1; clear h1
   refine wp_skip ?_
   refine then_normal ?_
   exact hj2 y1 _ _ h11 (s10.sub (.cons rfl .nil))
 refine cond_split s6 (.tmp rfl) (fun hc3 => ?_) (fun hc3 => ?_)
 ·have h12 := ite_t hc3 h0; clear h0
  refine wp_region_lit (qs s6 (.c1 rfl (ob_assign rfl (opd_int rfl)) .cz) fun _ _ s42 => ?_); clear s6
  refine wpList_nil ?_
  refine then_normal ?_
  exact hj1 (1 : Int) _ _ h12 (s42.sub (.cons rfl .nil))
 ·have h13 := ite_f hc3 h0; clear h0
  refine wp_skip ?_
  refine then_normal ?_
  exact hj1 p1 _ _ h13 (s6.sub (.cons rfl .nil))
theorem c_cabalref10_Number (k : Nat) (p1 : Int) (r : (List Int)) (h0 : cabalref10_Number k p1 = some r) (ok : Ok) (w0 : World) (z0 : Value) (u0 : ((kint .u32).V p1).holds ok w0 z0) :
 Gives Tryd.prog 73 [z0] ok w0 (resFact [kstr.V r]) := by
 unfold cabalref10_Number at h0
 refine enter (N := 24) Tryd.func73 rfl rfl (of_decide_eq_true rfl) (.cons u0 .nil) fun a1 s1 => ?_
 refine wp_seq_k fun K1 hK1 => wp_region_lit (qs s1 (.c1 rfl (ob_assign rfl (opd_str (by rfl) (by decide))) (.ce (u 0 rfl .nil))) fun _ _ s3 => wn hK1 ?_); clear s1
 refine wp_seq_k fun K2 hK2 => wp_region_lit (qs s3 (.c1 rfl (mv rfl rfl) (.c1 rfl (ob_rem rfl (.tmp rfl) (opd_int rfl) (by decide)) (.c1 rfl (ob_conv rfl _ Tryd.underlying116 Tryd.underlying5 (.tmp rfl)) (.c1 rfl (ob_mkSlice (k := (kint .u8)) (xs := ([(IntKind.wrap .u8 (irem p1 (128 : Int)))] : (List Int))) rfl Tryd.underlying31 zz5 sz5 (Zr.int .u8) (by decide) (by decide) (.cons (.tmp rfl) rfl (LS.arr' (i := 0) (ys := ([(IntKind.wrap .u8 (irem p1 (128 : Int)))] : (List Int))) (by simp) (by rfl)) (.nil _))) (.c1 rfl (ob_bytesToStr rfl Tryd.underlying31 Tryd.underlying9 Tryd.underlying5 (.tmp rfl)) (.c1 rfl (ob_assign rfl (.tmp rfl)) (.ce (u 0 rfl (u 3 rfl .nil))))))))) fun _ _ s10 => wn hK2 ?_); clear s3
 refine wp_seq_k fun K3 hK3 => wp_seq_k fun K4 hK4 => ?_
 refine wp_region_lit (qs s10 (.c1 rfl (mv rfl rfl) (.c1 rfl (ob_quo rfl (.tmp rfl) (opd_int rfl) (by decide)) (.c1 rfl (ob_assign rfl (.tmp rfl)) (.ce (u 0 rfl (u 3 rfl .nil)))))) fun _ _ s14 => wn hK4 ?_); clear s10
 have hj1 : ∀ (y1 : (List Int)) (a : Act) (w : World), (cabalref10_Number.j1 k) y1 = some r → St ⟨24, w0, ok, []⟩ [] [(3, (kstr.V y1))] a w → K3 a w := by
  intro y1 a15 w15 h1 s15
  unfold cabalref10_Number.j1 at h1
  refine hK3 _ _ ?_
  refine wp_seq_k fun K5 hK5 => wp_region_lit (qs s15 (.c1 rfl (mv rfl rfl) (.c1 rfl (ob_assign rfl (.tmp rfl)) (.ce (u 2 rfl .nil)))) fun _ _ s18 => wn hK5 ?_); clear s15
  refine wp_ret ?_
  obtain rfl := Option.some.inj h1
  exact leave s18 (.inl rfl) rfl (.cons (.tmp rfl) .nil)
 refine wp_block ?_
 refine wp_loop_fuel (fun m (q : Int × (List Int)) => cabalref10_Number.l1 k m q.1 q.2) r (fun _ => rfl) (fun q a w => St ⟨24, w0, ok, []⟩ [] [(0, ((kint .u32).V q.1)), (3, (kstr.V q.2))] a w) ?_ k ((iquo .u32 p1 (128 : Int)), ([(IntKind.wrap .u8 (irem p1 (128 : Int)))] : (List Int))) _ _ h0 (s14.sub (.cons rfl (.cons rfl .nil)))
 rintro n1 ⟨y2, y3⟩ a19 w19 h2 s19 K6 hK6
 replace h2 : cabalref10_Number.l1 k (n1 + 1) y2 y3 = some r := h2; rw [cabalref10_Number.l1] at h2
 have h3 := h2; clear h2
 refine wp_seq_k fun K7 hK7 => wp_seq_k fun K8 hK8 => ?_
 refine wp_region_lit (qs s19 (.c1 rfl (mv rfl rfl) (.c1 rfl (ob_gtr rfl (.tmp rfl) (opd_int rfl)) (.ce (u 0 rfl (u 3 rfl (u 12 rfl .nil)))))) fun _ _ s22 => wn hK8 ?_); clear s19
 refine cond_split s22 (.tmp rfl) (fun hc1 => ?_) (fun hc1 => ?_)
 ·have h4 := ite_t hc1 h3; clear h3
  refine wp_skip ?_
  refine then_normal (hK7 _ _ ?_)
  have s23 := s22.sub (u 0 rfl (u 3 rfl .nil)); clear s22
  refine wp_seq_k fun K9 hK9 => wp_block ?_
  obtain ⟨x1, e_x1, h5⟩ := bind_some h4; clear h4; replace e_x1 := Option.some.inj e_x1
  obtain ⟨g1, h6⟩ := guard_some h5; clear h5
  refine wp_region_lit (qs s23 (.c1 rfl (mv rfl rfl) (.c1 rfl (ob_rem rfl (.tmp rfl) (opd_int rfl) (by decide)) (.c1 rfl (ob_add rfl (.tmp rfl) (opd_int rfl)) (.c1 rfl (ob_conv rfl _ Tryd.underlying116 Tryd.underlying5 (.tmp rfl)) (.c1 rfl ((ob_mkSlice (k := (kint .u8)) (xs := ([(IntKind.wrap .u8 (iadd .u32 (irem y2 (128 : Int)) (128 : Int)))] : (List Int))) rfl Tryd.underlying31 zz5 sz5 (Zr.int .u8) (by decide) (by decide) (.cons (.tmp rfl) rfl (LS.arr' (i := 0) (ys := ([(IntKind.wrap .u8 (iadd .u32 (irem y2 (128 : Int)) (128 : Int)))] : (List Int))) (by simp) (by rfl)) (.nil _))).nm e_x1) (.c1 rfl (ob_bytesToStr rfl Tryd.underlying31 Tryd.underlying9 Tryd.underlying5 (.tmp rfl)) (.c1 rfl (mv rfl rfl) (.c1 rfl (ob_cat rfl (.tmp rfl) (.tmp rfl) g1) (.c1 rfl (ob_assign rfl (.tmp rfl)) .cz))))))))) fun _ _ s32 => ?_); clear s23
  refine wpList_nil ?_
  refine in_normal ?_
  refine then_normal (hK9 _ _ ?_)
  have s33 := s32.sub (u 0 rfl (u 3 rfl .nil)); clear s32
  refine wp_region_lit (qs s33 (.c1 rfl (mv rfl rfl) (.c1 rfl (ob_quo rfl (.tmp rfl) (opd_int rfl) (by decide)) (.c1 rfl (ob_assign rfl (.tmp rfl)) .cz))) fun _ _ s36 => ?_); clear s33
  refine wpList_nil ?_
  refine then_normal ?_
  exact hK6 ((iquo .u32 y2 (128 : Int)), (x1 ++ y3)) _ _ h6 (s36.sub (.cons rfl (.cons rfl .nil)))
 ·have h7 := ite_f hc1 h3; clear h3
  refine wp_exit ?_
  refine (then_exit (then_exit (in_here ?_)))
  refine then_normal ?_
  exact hj1 y3 _ _ h7 (s22.sub (.cons rfl .nil))
theorem c_cabalref10_Text (k : Nat) (p1 : (List Int)) (r : (List Int)) (h0 : cabalref10_Text k p1 = some r) (ok : Ok) (w0 : World) (z0 : Value) (u0 : (kstr.V p1).holds ok w0 z0) :
 Gives Tryd.prog 45 [z0] ok w0 (resFact [kstr.V r]) := by
 unfold cabalref10_Text at h0
 refine enter (N := 9) Tryd.func45 rfl rfl (of_decide_eq_true rfl) (.cons u0 .nil) fun a1 s1 => ?_
 refine wp_seq_k fun K1 hK1 => wp_region_lit (qs s1 (.c1 rfl (ob_assign rfl (opd_str (by rfl) (by decide))) (.ce (u 0 rfl .nil))) fun _ _ s3 => wn hK1 ?_); clear s1
 obtain ⟨x1, e_x1, h1⟩ := bind_some h0; clear h0
 obtain ⟨g1, h2⟩ := guard_some h1; clear h1
 refine wp_seq_k fun K2 hK2 => wp_region_lit (qs s3 (.c1 rfl (mv rfl rfl) (.c1 rfl (ob_lenStr rfl Tryd.underlying9 (.tmp rfl)) (.c1 rfl (ob_conv rfl _ Tryd.underlying3 Tryd.underlying116 (.tmp rfl)) (.c1 rfl (ob_callD0 (args := [_]) rfl .direct hb73 (fun a w s => by exact c_cabalref10_Number k _ _ e_x1 _ _ _ (s.arg (.tmp rfl)))) (.c1 rfl (mv rfl rfl) (.c1 rfl (ob_cat rfl (.tmp rfl) (.tmp rfl) g1) (.c1 rfl (ob_assign rfl (.tmp rfl)) (.ce (u 2 rfl .nil))))))))) fun _ _ s11 => wn hK2 ?_); clear s3
 refine wp_ret ?_
 obtain rfl := Option.some.inj h2
 exact leave s11 (.inl rfl) rfl (.cons (.tmp rfl) .nil)
theorem c_cabalref13_Bytes (k : Nat) (p1 : (List (List Int))) (r : (List Int)) (h0 : cabalref13_Bytes k p1 = some r) (ok : Ok) (w0 : World) (z0 : Value) (u0 : ((ksl kstr).V p1).holds ok w0 z0) :
 Gives Tryd.prog 15 [z0] ok w0 (resFact [kstr.V r]) := by
 unfold cabalref13_Bytes at h0
 refine enter (N := 19) Tryd.func15 rfl rfl (of_decide_eq_true rfl) (.cons u0 .nil) fun a1 s1 => ?_
 refine wp_seq_k fun K1 hK1 => wp_region_lit (qs s1 (.c1 rfl (ob_assign rfl (opd_str (by rfl) (by decide))) (.ce (u 0 rfl .nil))) fun _ _ s3 => wn hK1 ?_); clear s1
 refine wp_seq_k fun K2 hK2 => wp_region_lit (qs s3 (.c1 rfl (ob_assign rfl (opd_str (by rfl) (by decide))) (.ce (u 0 rfl (u 3 rfl .nil)))) fun _ _ s5 => wn hK2 ?_); clear s3
 refine wp_seq_k fun K3 hK3 => wp_seq_k fun K4 hK4 => ?_
 refine wp_region_lit (qs s5 (.c1 rfl (ob_assign rfl (opd_int rfl)) (.ce (u 0 rfl (u 3 rfl (u 4 rfl .nil))))) fun _ _ s7 => wn hK4 ?_); clear s5
 have hj1 : ∀ (y1 : (List Int)) (a : Act) (w : World), (cabalref13_Bytes.j1 k) y1 = some r → St ⟨19, w0, ok, []⟩ [] [(3, (kstr.V y1))] a w → K3 a w := by
  intro y1 a8 w8 h1 s8
  unfold cabalref13_Bytes.j1 at h1
  refine hK3 _ _ ?_
  refine wp_seq_k fun K5 hK5 => wp_region_lit (qs s8 (.c1 rfl (mv rfl rfl) (.c1 rfl (ob_assign rfl (.tmp rfl)) (.ce (u 2 rfl .nil)))) fun _ _ s11 => wn hK5 ?_); clear s8
  refine wp_ret ?_
  obtain rfl := Option.some.inj h1
  exact leave s11 (.inl rfl) rfl (.cons (.tmp rfl) .nil)
 refine wp_block ?_
 refine wp_loop_fuel (fun m (q : (List Int) × Int) => cabalref13_Bytes.l1 k p1 m q.1 q.2) r (fun _ => rfl) (fun q a w => St ⟨19, w0, ok, []⟩ [] [(0, ((ksl kstr).V p1)), (3, (kstr.V q.1)), (4, ((kint .i64).V q.2))] a w) ?_ k (([] : List Int), (0 : Int)) _ _ h0 (s7.sub (.cons rfl (.cons rfl (.cons rfl .nil))))
 rintro n1 ⟨y2, y3⟩ a12 w12 h2 s12 K6 hK6
 replace h2 : cabalref13_Bytes.l1 k p1 (n1 + 1) y2 y3 = some r := h2; rw [cabalref13_Bytes.l1] at h2
 have h3 := h2; clear h2
 refine wp_seq_k fun K7 hK7 => wp_seq_k fun K8 hK8 => ?_
 refine wp_region_lit (qs s12 (.c1 rfl (mv rfl rfl) (.c1 rfl (mv rfl rfl) (.c1 rfl (ob_lens rfl Tryd.underlying30 (.tmp rfl)) (.c1 rfl (ob_lss rfl (.tmp rfl) (.tmp rfl)) (.ce (u 0 rfl (u 3 rfl (u 4 rfl (u 8 rfl .nil))))))))) fun _ _ s17 => wn hK8 ?_); clear s12
 refine cond_split s17 (.tmp rfl) (fun hc1 => ?_) (fun hc1 => ?_)
 ·have h4 := ite_t hc1 h3; clear h3
  refine wp_skip ?_
  refine then_normal (hK7 _ _ ?_)
  have s18 := s17.sub (u 0 rfl (u 3 rfl (u 4 rfl .nil))); clear s17
  refine wp_seq_k fun K9 hK9 => wp_block ?_
  obtain ⟨x1, e_x1, h5⟩ := bind_some h4; clear h4
  obtain ⟨x2, e_x2, h6⟩ := bind_some h5; clear h5
  obtain ⟨g1, h7⟩ := guard_some h6; clear h6
  refine wp_region_lit (qs s18 (.c1 rfl (mv rfl rfl) (.c1 rfl (mv rfl rfl) (.c1 rfl (mv rfl rfl) (.c1 rfl (ob_indexAddrs rfl Tryd.underlying30 sz9 (.tmp rfl) (.tmp rfl) e_x1) (.c1 rfl (ob_loadr rfl tk9 (.tmp rfl)) (.c1 rfl (ob_callD0 (args := [_]) rfl .direct hb45 (fun a w s => by exact c_cabalref10_Text k _ _ e_x2 _ _ _ (s.arg (.tmp rfl)))) (.c1 rfl (ob_cat rfl (.tmp rfl) (.tmp rfl) g1) (.c1 rfl (ob_assign rfl (.tmp rfl)) .cz)))))))) fun _ _ s26 => ?_); clear s18
  refine wpList_nil ?_
  refine in_normal ?_
  refine then_normal (hK9 _ _ ?_)
  have s27 := s26.sub (u 0 rfl (u 3 rfl (u 4 rfl .nil))); clear s26
  refine wp_region_lit (qs s27 (.c1 rfl (mv rfl rfl) (.c1 rfl (ob_add rfl (.tmp rfl) (opd_int rfl)) (.c1 rfl (ob_assign rfl (.tmp rfl)) .cz))) fun _ _ s30 => ?_); clear s27
  refine wpList_nil ?_
  refine then_normal ?_
  exact hK6 ((y2 ++ x2), (iadd .i64 y3 (1 : Int))) _ _ h7 (s30.sub (.cons rfl (.cons rfl (.cons rfl .nil))))
 ·have h8 := ite_f hc1 h3; clear h3
  refine wp_exit ?_
  refine (then_exit (then_exit (in_here ?_)))
  refine then_normal ?_
  exact hj1 y2 _ _ h8 (s17.sub (.cons rfl .nil))
theorem c_cabalref01_Lengthened (k : Nat) (p1 : (List Int)) (r : (List Int)) (h0 : cabalref01_Lengthened k p1 = some r) (ok : Ok) (w0 : World) (z0 : Value) (u0 : (kstr.V p1).holds ok w0 z0) :
 Gives Tryd.prog 74 [z0] ok w0 (resFact [kstr.V r]) := by
 unfold cabalref01_Lengthened at h0
 refine enter (N := 35) Tryd.func74 rfl rfl (of_decide_eq_true rfl) (.cons u0 .nil) fun a1 s1 => ?_
 refine wp_seq_k fun K1 hK1 => wp_region_lit (qs s1 (.c1 rfl (ob_assign rfl (opd_str (by rfl) (by decide))) (.ce (u 0 rfl .nil))) fun _ _ s3 => wn hK1 ?_); clear s1
 obtain ⟨g1, h1⟩ := guard_some h0; clear h0
 refine wp_seq_k fun K2 hK2 => wp_region_lit (qs s3 (.c1 rfl (mv rfl rfl) (.c1 rfl (ob_cat rfl (.tmp rfl) (opd_str (by rfl) (by decide)) g1) (.c1 rfl (ob_assign rfl (.tmp rfl)) (.ce (u 0 rfl (u 3 rfl .nil)))))) fun _ _ s7 => wn hK2 ?_); clear s3
 refine wp_seq_k fun K3 hK3 => ?_
 have hj1 : ∀ (y1 : (List Int)) (a : Act) (w : World), (cabalref01_Lengthened.j1 k p1) y1 = some r → St ⟨35, w0, ok, []⟩ [] [(0, (kstr.V p1)), (3, (kstr.V y1))] a w → K3 a w := by
  intro y1 a8 w8 h2 s8
  unfold cabalref01_Lengthened.j1 at h2
  refine hK3 _ _ ?_
  refine wp_seq_k fun K4 hK4 => wp_region_lit (qs s8 (.c1 rfl (mv rfl rfl) (.c1 rfl (ob_lenStr rfl Tryd.underlying9 (.tmp rfl)) (.c1 rfl (ob_conv rfl _ Tryd.underlying3 Tryd.underlying123 (.tmp rfl)) (.c1 rfl (ob_mul rfl (.tmp rfl) (opd_int rfl)) (.c1 rfl (ob_assign rfl (.tmp rfl)) (.ce (u 3 rfl (u 4 rfl .nil)))))))) fun _ _ s14 => wn hK4 ?_); clear s8
  refine wp_seq_k fun K5 hK5 => wp_region_lit ?_
  refine qx (B' := (fun b1 : Nat => [BF b1 131 (karr 8 (kint .u8)) (List.replicate 8 (0 : Int))])) s14 rfl (ob_new (k := (karr 8 (kint .u8))) rfl zz131 (Zr.arr 8 (Zr.int .u8))) fun b1 _ _ s15 => ?_; clear s14
  refine wn hK5 ?_
  have s16 := s15.sub (u 3 rfl (u 4 rfl (u 5 rfl .nil))); clear s15
  refine wp_seq_k fun K6 hK6 => wp_seq_k fun K7 hK7 => ?_
  refine wp_region_lit (qs s16 (.c1 rfl (ob_assign rfl (opd_int rfl)) (.ce (u 3 rfl (u 4 rfl (u 5 rfl (u 6 rfl .nil)))))) fun _ _ s18 => wn hK7 ?_); clear s16
  have hj2 : ∀ (y2 : (List Int)) (a : Act) (w : World), (cabalref01_Lengthened.j2 k y1) y2 = some r → St ⟨35, w0, ok, []⟩ [BF b1 131 (karr 8 (kint .u8)) y2] [(3, (kstr.V y1)), (5, (ptrB b1 0))] a w → K6 a w := by
   intro y2 a19 w19 h3 s19
   unfold cabalref01_Lengthened.j2 at h3
   refine hK6 _ _ ?_
   obtain ⟨x1, e_x1, h4⟩ := bind_some h3; clear h3
   obtain ⟨g2, h5⟩ := guard_some h4; clear h4
   refine wp_seq_k fun K8 hK8 => wp_region_lit (qs s19 (.c1 rfl (mv rfl rfl) (.c1 rfl (ob_sliceArr rfl Tryd.underlying131 sz5 (.tmp rfl) .none .none (show (0 : Int) ≤ (0 : Int) ∧ (0 : Int) ≤ (8 : Int) ∧ (8 : Int) ≤ ((8 : Nat) : Int) by decide)) (.c1 rfl ((ob_lendG (L := [_]) (List.Perm.refl _) (.cons (t := 32) rfl (lendSlB (.head _) (LG.refl _ _) e_x1 rfl (cut_len e_x1) (cut_cap e_x1 (show (0 : Int) ≤ (0 : Int) ∧ (0 : Int) ≤ (8 : Int) ∧ (8 : Int) ≤ ((8 : Nat) : Int) by decide) (by decide))) .nil) (Flat.V KFlat.str) (fun _ => ob_bytesToStr rfl Tryd.underlying31 Tryd.underlying9 Tryd.underlying5 (.tmp rfl)))) (.c1 rfl (ob_cat rfl (.tmp rfl) (.tmp rfl) g2) (.c1 rfl (ob_assign rfl (.tmp rfl)) (.ce (u 2 rfl .nil))))))) fun _ _ s25 => wn hK8 ?_); clear s19
   have s26 := St.drop (A := []) s25; clear s25
   refine wp_ret ?_
   obtain rfl := Option.some.inj h5
   exact leave s26 (.inl rfl) rfl (.cons (.tmp rfl) .nil)
  refine wp_block ?_
  refine wp_loop_fuel (fun m (q : Int × Int × (List Int)) => cabalref01_Lengthened.l1 k y1 m q.1 q.2.1 q.2.2) r (fun _ => rfl) (fun q a w => St ⟨35, w0, ok, []⟩ [BF b1 131 (karr 8 (kint .u8)) q.2.2] [(3, (kstr.V y1)), (4, ((kint .u64).V q.1)), (5, (ptrB b1 0)), (6, ((kint .i64).V q.2.1))] a w) ?_ k ((imul .u64 (IntKind.wrap .u64 (p1.length : Int)) (8 : Int)), (0 : Int), (List.replicate 8 (0 : Int))) _ _ h2 (s18.sub (.cons rfl (.cons rfl (.cons rfl (.cons rfl .nil)))))
  rintro n1 ⟨y3, y4, y5⟩ a27 w27 h6 s27 K9 hK9
  replace h6 : cabalref01_Lengthened.l1 k y1 (n1 + 1) y3 y4 y5 = some r := h6; rw [cabalref01_Lengthened.l1] at h6
  have h7 := h6; clear h6
  refine wp_seq_k fun K10 hK10 => wp_seq_k fun K11 hK11 => ?_
  refine wp_region_lit (qs s27 (.c1 rfl (mv rfl rfl) (.c1 rfl (ob_lss rfl (.tmp rfl) (opd_int rfl)) (.ce (u 3 rfl (u 4 rfl (u 5 rfl (u 6 rfl (u 20 rfl .nil)))))))) fun _ _ s30 => wn hK11 ?_); clear s27
  refine cond_split s30 (.tmp rfl) (fun hc1 => ?_) (fun hc1 => ?_)
  ·have h8 := ite_t hc1 h7; clear h7
   refine wp_skip ?_
   refine then_normal (hK10 _ _ ?_)
   have s31 := s30.sub (u 3 rfl (u 4 rfl (u 5 rfl (u 6 rfl .nil)))); clear s30
   refine wp_seq_k fun K12 hK12 => wp_block ?_
   obtain ⟨g3, h9⟩ := guard_some h8; clear h8
   obtain ⟨x2, e_x2, h10⟩ := bind_some h9; clear h9
   refine wp_seq_k fun K13 hK13 => wp_region_lit (qs s31 (.c1 rfl (mv rfl rfl) (.c1 rfl (ob_sub rfl (opd_int rfl) (.tmp rfl)) (.c1 rfl (mv rfl rfl) (.c1 rfl (ob_rem rfl (.tmp rfl) (opd_int rfl) (by decide)) (.c1 rfl (ob_conv rfl _ Tryd.underlying123 Tryd.underlying5 (.tmp rfl)) (.c1 rfl (ob_indexAddr rfl Tryd.underlying131 sz5 (.tmp rfl) (.tmp rfl) g3.1 g3.2 (Nat.zero_add _)) .cz)))))) fun _ _ s37 => ?_); clear s31
   refine seq_opx0 (B' := (fun _ : Unit => [BF b1 131 (karr 8 (kint .u8)) x2])) s37 rfl rfl (ob_store (A := []) rfl tk5 (.tmp rfl) (.tmp rfl) rfl (LS.arrS e_x2) rfl) fun _ a38 w38 s38 => ?_; clear s37
   refine wn hK13 ?_
   have s39 := s38.sub (u 3 rfl (u 4 rfl (u 5 rfl (u 6 rfl .nil)))); clear s38
   refine wp_region_lit (qs s39 (.c1 rfl (mv rfl rfl) (.c1 rfl (ob_quo rfl (.tmp rfl) (opd_int rfl) (by decide)) (.c1 rfl (ob_assign rfl (.tmp rfl)) .cz))) fun _ _ s42 => ?_); clear s39
   refine wpList_nil ?_
   refine in_normal ?_
   refine then_normal (hK12 _ _ ?_)
   have s43 := s42.sub (u 3 rfl (u 4 rfl (u 5 rfl (u 6 rfl .nil)))); clear s42
   refine wp_region_lit (qs s43 (.c1 rfl (mv rfl rfl) (.c1 rfl (ob_add rfl (.tmp rfl) (opd_int rfl)) (.c1 rfl (ob_assign rfl (.tmp rfl)) .cz))) fun _ _ s46 => ?_); clear s43
   refine wpList_nil ?_
   refine then_normal ?_
   exact hK9 ((iquo .u64 y3 (256 : Int)), (iadd .i64 y4 (1 : Int)), x2) _ _ h10 (s46.sub (.cons rfl (.cons rfl (.cons rfl (.cons rfl .nil)))))
  ·have h11 := ite_f hc1 h7; clear h7
   refine wp_exit ?_
   refine (then_exit (then_exit (in_here ?_)))
   refine then_normal ?_
   exact hj2 y5 _ _ h11 (s30.sub (.cons rfl (.cons rfl .nil)))
 refine wp_block ?_
 refine wp_loop_fuel (fun m (q : (List Int)) => cabalref01_Lengthened.l2 k p1 m q) r (fun _ => rfl) (fun q a w => St ⟨35, w0, ok, []⟩ [] [(0, (kstr.V p1)), (3, (kstr.V q))] a w) ?_ k (p1 ++ ([128] : List Int)) _ _ h1 (s7.sub (.cons rfl (.cons rfl .nil)))
 rintro n2 y6 a47 w47 h12 s47 K14 hK14
 replace h12 : cabalref01_Lengthened.l2 k p1 (n2 + 1) y6 = some r := h12; rw [cabalref01_Lengthened.l2] at h12
 have h13 := h12; clear h12
 refine wp_seq_k fun K15 hK15 => wp_seq_k fun K16 hK16 => ?_
 refine wp_region_lit (qs s47 (.c1 rfl (mv rfl rfl) (.c1 rfl (ob_lenStr rfl Tryd.underlying9 (.tmp rfl)) (.c1 rfl (ob_rem rfl (.tmp rfl) (opd_int rfl) (by decide)) (.c1 rfl (ob_neq rfl (.tmp rfl) (opd_int rfl)) (.ce (u 0 rfl (u 3 rfl (u 12 rfl .nil)))))))) fun _ _ s52 => wn hK16 ?_); clear s47
 refine cond_split s52 (.tmp rfl) (fun hc2 => ?_) (fun hc2 => ?_)
 ·have h14 := ite_t hc2 h13; clear h13
  refine wp_skip ?_
  refine then_normal (hK15 _ _ ?_)
  have s53 := s52.sub (u 0 rfl (u 3 rfl .nil)); clear s52
  refine wp_block ?_
  obtain ⟨g4, h15⟩ := guard_some h14; clear h14
  refine wp_region_lit (qs s53 (.c1 rfl (mv rfl rfl) (.c1 rfl (ob_cat rfl (.tmp rfl) (opd_str (by rfl) (by decide)) g4) (.c1 rfl (ob_assign rfl (.tmp rfl)) .cz))) fun _ _ s56 => ?_); clear s53
  refine wpList_nil ?_
  refine in_normal ?_
  refine then_normal ?_
  exact hK14 (y6 ++ ([0] : List Int)) _ _ h15 (s56.sub (.cons rfl (.cons rfl .nil)))
 ·have h16 := ite_f hc2 h13; clear h13
  refine wp_exit ?_
  refine (then_exit (then_exit (in_here ?_)))
  refine then_normal ?_
  exact hj1 y6 _ _ h16 (s52.sub (.cons rfl (.cons rfl .nil)))
theorem c_cabalref01_Right (k : Nat) (p1 : Int) (p2 : Int) (r : Int) (h0 : cabalref01_Right k p1 p2 = some r) (ok : Ok) (w0 : World) (z0 : Value) (z1 : Value) (u0 : ((kint .u32).V p1).holds ok w0 z0) (u1 : ((kint .u64).V p2).holds ok w0 z1) :
 Gives Tryd.prog 86 [z0, z1] ok w0 (resFact [(kint .u32).V r]) := by
 unfold cabalref01_Right at h0
 refine enter (N := 13) Tryd.func86 rfl rfl (of_decide_eq_true rfl) (.cons u0 (.cons u1 .nil)) fun a1 s1 => ?_
 refine wp_seq_k fun K1 hK1 => wp_region_lit (qs s1 (.c1 rfl (ob_assign rfl (opd_int rfl)) (.ce (u 0 rfl (u 1 rfl .nil)))) fun _ _ s3 => wn hK1 ?_); clear s1
 obtain ⟨g1, h1⟩ := guard_some h0; clear h0
 obtain ⟨g2, h2⟩ := guard_some h1; clear h1
 refine wp_seq_k fun K2 hK2 => wp_region_lit (qs s3 (.c1 rfl (mv rfl rfl) (.c1 rfl (mv rfl rfl) (.c1 rfl (ob_shr rfl (.tmp rfl) (.tmp rfl) g1) (.c1 rfl (mv rfl rfl) (.c1 rfl (mv rfl rfl) (.c1 rfl (ob_sub rfl (opd_int rfl) (.tmp rfl)) (.c1 rfl (ob_shl rfl (.tmp rfl) (.tmp rfl) g2) (.c1 rfl (ob_or rfl (.tmp rfl) (.tmp rfl)) (.c1 rfl (ob_assign rfl (.tmp rfl)) (.ce (u 4 rfl .nil))))))))))) fun _ _ s13 => wn hK2 ?_); clear s3
 refine wp_ret ?_
 obtain rfl := Option.some.inj h2
 exact leave s13 (.inl rfl) rfl (.cons (.tmp rfl) .nil)
def tabl (n : Nat) : List Int := ([(1116352408 : Int), 1899447441, 3049323471, 3921009573, 961987163, 1508970993, 2453635748, 2870763221, 3624381080, 310598401, 607225278, 1426881987, 1925078388, 2162078206, 2614888103, 3248222580, 3835390401, 4022224774, 264347078, 604807628, 770255983, 1249150122, 1555081692, 1996064986, 2554220882, 2821834349, 2952996808, 3210313671, 3336571891, 3584528711, 113926993, 338241895, 666307205, 773529912, 1294757372, 1396182291, 1695183700, 1986661051, 2177026350, 2456956037, 2730485921, 2820302411, 3259730800, 3345764771, 3516065817, 3600352804, 4094571909, 275423344, 430227734, 506948616, 659060556, 883997877, 958139571, 1322822218, 1537002063, 1747873779, 1955562222, 2024104815, 2227730452, 2361852424, 2428436474, 2756734187, 3204031479, 3329325298] : List Int).take n ++ List.replicate (64 - n) 0
theorem c_cabalref01_Rounds (k : Nat) (r : (List Int)) (h0 : cabalref01_Rounds k = some r) (ok : Ok) (w0 : World) :
 Gives Tryd.prog 87 [] ok w0 (resFact [(karr 64 (kint .u32)).V r]) := by
 unfold cabalref01_Rounds at h0
 refine enter (N := 2) Tryd.func87 rfl rfl (of_decide_eq_true rfl) .nil fun a1 s1 => ?_
 refine wp_seq_k fun K1 hK1 => wp_region_lit ?_
 refine qx (B' := (fun b1 : Nat => [BF b1 132 (karr 64 (kint .u32)) (List.replicate 64 (0 : Int))])) s1 rfl (ob_new (k := (karr 64 (kint .u32))) rfl zz132 (Zr.arr 64 (Zr.int .u32))) fun b1 _ _ s2 => ?_; clear s1
 refine wn hK1 ?_
 have s3 := s2.sub (u 0 rfl .nil); clear s2
 obtain ⟨x1, e_x1, h1⟩ := bind_some h0; clear h0; replace e_x1 := Option.some.inj e_x1
 refine wp_seq_k fun K2 hK2 => wp_region_lit (qs s3 (.c1 rfl (((ob_mkArr (k := (kint .u32)) rfl Tryd.underlying132 zz132 sz116 (Zr.arr 64 (Zr.int .u32)) (.cons (opd_int rfl) rfl (LS.arr' (ys := tabl 1) (by decide) (by rfl)) (.cons (opd_int rfl) rfl (LS.arr' (ys := tabl 2) (by decide) (by rfl)) (.cons (opd_int rfl) rfl (LS.arr' (ys := tabl 3) (by decide) (by rfl)) (.cons (opd_int rfl) rfl (LS.arr' (ys := tabl 4) (by decide) (by rfl)) (.cons (opd_int rfl) rfl (LS.arr' (ys := tabl 5) (by decide) (by rfl)) (.cons (opd_int rfl) rfl (LS.arr' (ys := tabl 6) (by decide) (by rfl)) (.cons (opd_int rfl) rfl (LS.arr' (ys := tabl 7) (by decide) (by rfl)) (.cons (opd_int rfl) rfl (LS.arr' (ys := tabl 8) (by decide) (by rfl)) (.cons (opd_int rfl) rfl (LS.arr' (ys := tabl 9) (by decide) (by rfl)) (.cons (opd_int rfl) rfl (LS.arr' (ys := tabl 10) (by decide) (by rfl)) (.cons (opd_int rfl) rfl (LS.arr' (ys := tabl 11) (by decide) (by rfl)) (.cons (opd_int rfl) rfl (LS.arr' (ys := tabl 12) (by decide) (by rfl)) (.cons (opd_int rfl) rfl (LS.arr' (ys := tabl 13) (by decide) (by rfl)) (.cons (opd_int rfl) rfl (LS.arr' (ys := tabl 14) (by decide) (by rfl)) (.cons (opd_int rfl) rfl (LS.arr' (ys := tabl 15) (by decide) (by rfl)) (.cons (opd_int rfl) rfl (LS.arr' (ys := tabl 16) (by decide) (by rfl)) (.cons (opd_int rfl) rfl (LS.arr' (ys := tabl 17) (by decide) (by rfl)) (.cons (opd_int rfl) rfl (LS.arr' (ys := tabl 18) (by decide) (by rfl)) (.cons (opd_int rfl) rfl (LS.arr' (ys := tabl 19) (by decide) (by rfl)) (.cons (opd_int rfl) rfl (LS.arr' (ys := tabl 20) (by decide) (by rfl)) (.cons (opd_int rfl) rfl (LS.arr' (ys := tabl 21) (by decide) (by rfl)) (.cons (opd_int rfl) rfl (LS.arr' (ys := tabl 22) (by decide) (by rfl)) (.cons (opd_int rfl) rfl (LS.arr' (ys := tabl 23) (by decide) (by rfl)) (.cons (opd_int rfl) rfl (LS.arr' (ys := tabl 24) (by decide) (by rfl)) (.cons (opd_int rfl) rfl (LS.arr' (ys := tabl 25) (by decide) (by rfl)) (.cons (opd_int rfl) rfl (LS.arr' (ys := tabl 26) (by decide) (by rfl)) (.cons (opd_int rfl) rfl (LS.arr' (ys := tabl 27) (by decide) (by rfl)) (.cons (opd_int rfl) rfl (LS.arr' (ys := tabl 28) (by decide) (by rfl)) (.cons (opd_int rfl) rfl (LS.arr' (ys := tabl 29) (by decide) (by rfl)) (.cons (opd_int rfl) rfl (LS.arr' (ys := tabl 30) (by decide) (by rfl)) (.cons (opd_int rfl) rfl (LS.arr' (ys := tabl 31) (by decide) (by rfl)) (.cons (opd_int rfl) rfl (LS.arr' (ys := tabl 32) (by decide) (by rfl)) (.cons (opd_int rfl) rfl (LS.arr' (ys := tabl 33) (by decide) (by rfl)) (.cons (opd_int rfl) rfl (LS.arr' (ys := tabl 34) (by decide) (by rfl)) (.cons (opd_int rfl) rfl (LS.arr' (ys := tabl 35) (by decide) (by rfl)) (.cons (opd_int rfl) rfl (LS.arr' (ys := tabl 36) (by decide) (by rfl)) (.cons (opd_int rfl) rfl (LS.arr' (ys := tabl 37) (by decide) (by rfl)) (.cons (opd_int rfl) rfl (LS.arr' (ys := tabl 38) (by decide) (by rfl)) (.cons (opd_int rfl) rfl (LS.arr' (ys := tabl 39) (by decide) (by rfl)) (.cons (opd_int rfl) rfl (LS.arr' (ys := tabl 40) (by decide) (by rfl)) (.cons (opd_int rfl) rfl (LS.arr' (ys := tabl 41) (by decide) (by rfl)) (.cons (opd_int rfl) rfl (LS.arr' (ys := tabl 42) (by decide) (by rfl)) (.cons (opd_int rfl) rfl (LS.arr' (ys := tabl 43) (by decide) (by rfl)) (.cons (opd_int rfl) rfl (LS.arr' (ys := tabl 44) (by decide) (by rfl)) (.cons (opd_int rfl) rfl (LS.arr' (ys := tabl 45) (by decide) (by rfl)) (.cons (opd_int rfl) rfl (LS.arr' (ys := tabl 46) (by decide) (by rfl)) (.cons (opd_int rfl) rfl (LS.arr' (ys := tabl 47) (by decide) (by rfl)) (.cons (opd_int rfl) rfl (LS.arr' (ys := tabl 48) (by decide) (by rfl)) (.cons (opd_int rfl) rfl (LS.arr' (ys := tabl 49) (by decide) (by rfl)) (.cons (opd_int rfl) rfl (LS.arr' (ys := tabl 50) (by decide) (by rfl)) (.cons (opd_int rfl) rfl (LS.arr' (ys := tabl 51) (by decide) (by rfl)) (.cons (opd_int rfl) rfl (LS.arr' (ys := tabl 52) (by decide) (by rfl)) (.cons (opd_int rfl) rfl (LS.arr' (ys := tabl 53) (by decide) (by rfl)) (.cons (opd_int rfl) rfl (LS.arr' (ys := tabl 54) (by decide) (by rfl)) (.cons (opd_int rfl) rfl (LS.arr' (ys := tabl 55) (by decide) (by rfl)) (.cons (opd_int rfl) rfl (LS.arr' (ys := tabl 56) (by decide) (by rfl)) (.cons (opd_int rfl) rfl (LS.arr' (ys := tabl 57) (by decide) (by rfl)) (.cons (opd_int rfl) rfl (LS.arr' (ys := tabl 58) (by decide) (by rfl)) (.cons (opd_int rfl) rfl (LS.arr' (ys := tabl 59) (by decide) (by rfl)) (.cons (opd_int rfl) rfl (LS.arr' (ys := tabl 60) (by decide) (by rfl)) (.cons (opd_int rfl) rfl (LS.arr' (ys := tabl 61) (by decide) (by rfl)) (.cons (opd_int rfl) rfl (LS.arr' (ys := tabl 62) (by decide) (by rfl)) (.cons (opd_int rfl) rfl (LS.arr' (ys := tabl 63) (by decide) (by rfl)) (.cons (opd_int rfl) rfl (LS.arr' (ys := tabl 64) (by decide) (by rfl)) (.nil _))))))))))))))))))))))))))))))))))))))))))))))))))))))))))))))))) : Ob _ _ _ _ _ ((karr 64 (kint .u32)).V ([(1116352408 : Int), 1899447441, 3049323471, 3921009573, 961987163, 1508970993, 2453635748, 2870763221, 3624381080, 310598401, 607225278, 1426881987, 1925078388, 2162078206, 2614888103, 3248222580, 3835390401, 4022224774, 264347078, 604807628, 770255983, 1249150122, 1555081692, 1996064986, 2554220882, 2821834349, 2952996808, 3210313671, 3336571891, 3584528711, 113926993, 338241895, 666307205, 773529912, 1294757372, 1396182291, 1695183700, 1986661051, 2177026350, 2456956037, 2730485921, 2820302411, 3259730800, 3345764771, 3516065817, 3600352804, 4094571909, 275423344, 430227734, 506948616, 659060556, 883997877, 958139571, 1322822218, 1537002063, 1747873779, 1955562222, 2024104815, 2227730452, 2361852424, 2428436474, 2756734187, 3204031479, 3329325298] : (List Int))))).nm e_x1) .cz) fun _ _ s4 => ?_); clear s3
 refine seq_opx0 (B' := (fun _ : Unit => [BF b1 132 (karr 64 (kint .u32)) x1])) s4 rfl rfl (ob_store (A := []) rfl tk132 (.tmp rfl) (.tmp rfl) rfl (LS.refl _ _ _) rfl) fun _ a5 w5 s5 => ?_; clear s4
 refine wn hK2 ?_
 have s6 := s5.sub (u 0 rfl .nil); clear s5
 refine wp_ret ?_
 obtain rfl := Option.some.inj h1
 exact leave s6 (.inl rfl) rfl (.cons (.cell rfl tk132 (.head _) (LG.refl _ _)) .nil)
end Go.Proofs.YtjbjladhgmknnaaDoor
