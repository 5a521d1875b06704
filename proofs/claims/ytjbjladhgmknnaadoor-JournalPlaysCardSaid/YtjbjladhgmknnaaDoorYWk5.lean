/- Several parts of this proof in one file. No condition. -/
import Derived.Test.YtjbjladhgmknnaaDoorYWk4
namespace Go.Proofs.YtjbjladhgmknnaaDoor
open Go Go.RowKit Go.Proofs.Kit Go.Proofs.Pure
set_option linter.unusedVariables false
set_option linter.unusedSimpArgs false
set_option maxRecDepth 100000
set_option maxHeartbeats 2000000
theorem c_cabalref12_Disk_Write (k : Nat) (p1 : cabalref12_Disk) (p2 : Int) (p3 : (List Int)) (r : (Int × cabalref12_Disk)) (h0 : cabalref12_Disk_Write k p1 p2 p3 = some r) (ok : Ok) (w0 : World) (z0 : Value) (z1 : Value) (z2 : Value) (b00 : Nat) (w0_0 : Value) (w0_1 : Value) (w0_2 : Value) (l0 : ∀ q, q ∈ [BF b00 49 (ko_cabalref12_Disk_0_1_2 w0_0 w0_1 w0_2) (⟨[], [], [], p1.Fuse, p1.Dead⟩ : cabalref12_Disk), RowF w0_0 9 kstr p1.Firm, RowF w0_1 3 (kint .i64) p1.At, RowF w0_2 9 kstr p1.Data] → q.holds ok w0) (d0 : ∀ c, c ∈ idsOf [BF b00 49 (ko_cabalref12_Disk_0_1_2 w0_0 w0_1 w0_2) (⟨[], [], [], p1.Fuse, p1.Dead⟩ : cabalref12_Disk), RowF w0_0 9 kstr p1.Firm, RowF w0_1 3 (kint .i64) p1.At, RowF w0_2 9 kstr p1.Data] → ¬ ok c) (nd : (idsOf [BF b00 49 (ko_cabalref12_Disk_0_1_2 w0_0 w0_1 w0_2) (⟨[], [], [], p1.Fuse, p1.Dead⟩ : cabalref12_Disk), RowF w0_0 9 kstr p1.Firm, RowF w0_1 3 (kint .i64) p1.At, RowF w0_2 9 kstr p1.Data]).Nodup) (u0 : (ptrB b00 0).holds ok w0 z0) (u1 : ((kint .i64).V p2).holds ok w0 z1) (u2 : (kstr.V p3).holds ok w0 z2) :
 GivesX Tryd.prog 51 [z0, z1, z2] ok w0 [BF b00 49 (ko_cabalref12_Disk_0_1_2 w0_0 w0_1 w0_2) (⟨[], [], [], p1.Fuse, p1.Dead⟩ : cabalref12_Disk), RowF w0_0 9 kstr p1.Firm, RowF w0_1 3 (kint .i64) p1.At, RowF w0_2 9 kstr p1.Data] (fun g : Value × Value × Value => resFact [(kint .i64).V r.1]) (fun g : Value × Value × Value => [BF b00 49 (ko_cabalref12_Disk_0_1_2 (g.1) (g.2.1) (g.2.2)) (⟨[], [], [], r.2.Fuse, r.2.Dead⟩ : cabalref12_Disk), RowF (g.1) 9 kstr r.2.Firm, RowF (g.2.1) 3 (kint .i64) r.2.At, RowF (g.2.2) 9 kstr r.2.Data]) := by
 unfold cabalref12_Disk_Write at h0
 refine enterX (N := 43) Tryd.func51 rfl rfl (of_decide_eq_true rfl) (.cons u0 (.cons u1 (.cons u2 .nil))) nd l0 d0 fun a1 s1 => ?_
 refine wp_seq_k fun K1 hK1 => wp_region_lit (qs s1 (.c1 rfl (ob_assign rfl (opd_int rfl)) (.ce (u 0 rfl (u 1 rfl (u 2 rfl .nil))))) fun _ _ s3 => wn hK1 ?_); clear s1
 refine wp_seq_k fun K2 hK2 => wp_seq_k fun K3 hK3 => ?_
 obtain ⟨x1, e_x1, h1⟩ := bind_some h0; clear h0
 refine wp_region_lit (qs s3 (.c1 rfl (mv rfl rfl) (.c1 rfl (mv rfl rfl) (.c1 rfl ((ob_lendG (L := [_, _, _, _]) (List.Perm.refl _) (.cons (t := 7) rfl (lendObj (K' := k_cabalref12_Disk) (X' := p1) (.head _) rfl (upo_cabalref12_Disk_0_1_2 rfl (.row (LetAll.row (.tail _ (.head _)))) (.row (LetAll.row (.tail _ (.tail _ (.head _))))) (.row (LetAll.row (.tail _ (.tail _ (.tail _ (.head _)))))))) .nil) (Flat.res1 (Flat.V KFlat.bool)) (fun _ => ob_callD0 (args := [_, _]) rfl .direct hb48 (fun a w s => by exact c_cabalref12_Disk_Has k _ _ _ e_x1 _ _ _ _ (s.arg (.tmp rfl)) (s.arg (.tmp rfl)))))) (.c1 rfl (ob_not rfl (.tmp rfl)) (.c1 rfl (mv rfl rfl) (.cg rfl rfl rfl rfl (fun hb => ob_move rfl (.tmp rfl)) (.cg rfl rfl rfl rfl (fun hb => (Ob.uncond (t := 12) hb rfl (ob_lenStr rfl Tryd.underlying9 (.tmp rfl)))) (.cg rfl rfl rfl rfl (fun hb => (Ob.uncond (t := 13) hb rfl (ob_neq rfl (.tmp rfl) (opd_int rfl)))) (.c1 rfl (ob_or2 rfl (.tmp rfl) opd_bool (.tmp rfl)) (.ce (u 0 rfl (u 1 rfl (u 2 rfl (u 15 rfl .nil)))))))))))))) fun _ _ s13 => wn hK3 ?_); clear s3
 refine cond_split s13 (.tmp rfl) (fun hc1 => ?_) (fun hc1 => ?_)
 ·have h2 := ite_t hc1 h1; clear h1
  refine wp_seq_k fun K4 hK4 => wp_region_lit (qs s13 (.c1 rfl (ob_assign rfl (opd_int rfl)) (.ce (u 6 rfl .nil))) fun _ _ s15 => wn hK4 ?_); clear s13
  refine wp_ret ?_
  obtain rfl := Option.some.inj h2
  exact leaveXD (D := []) ⟨w0_0, w0_1, w0_2⟩ s15 rfl (.inl rfl) rfl (.cons (.tmp rfl) .nil) rfl
 ·have h3 := ite_f hc1 h1; clear h1
  refine wp_skip ?_
  refine then_normal (hK2 _ _ ?_)
  have s16 := s13.sub (u 0 rfl (u 1 rfl (u 2 rfl .nil))); clear s13
  refine wp_seq_k fun K5 hK5 => wp_seq_k fun K6 hK6 => ?_
  refine wp_region_lit (qs s16 (.c1 rfl (mv rfl rfl) (.c1 rfl (ob_nilCheck rfl (.tmp rfl)) (.c1 rfl (ob_fieldAddr (off' := 4) rfl Tryd.underlying49 rfl sz4 (by decide) (.tmp rfl) rfl) (.c1 rfl (ob_load rfl tk4 (.tmp rfl) (.head _) (lgo_cabalref12_Disk_0_1_2_Dead (⟨[], [], [], p1.Fuse, p1.Dead⟩ : cabalref12_Disk))) (.ce (u 0 rfl (u 1 rfl (u 2 rfl (u 19 rfl .nil))))))))) fun _ _ s21 => wn hK6 ?_); clear s16
  refine cond_split s21 (.tmp rfl) (fun hc2 => ?_) (fun hc2 => ?_)
  ·have h4 := ite_t hc2 h3; clear h3
   refine wp_seq_k fun K7 hK7 => wp_region_lit (qs s21 (.c1 rfl (ob_assign rfl (opd_int rfl)) (.ce (u 6 rfl .nil))) fun _ _ s23 => wn hK7 ?_); clear s21
   refine wp_ret ?_
   obtain rfl := Option.some.inj h4
   exact leaveXD (D := []) ⟨w0_0, w0_1, w0_2⟩ s23 rfl (.inl rfl) rfl (.cons (.tmp rfl) .nil) rfl
  ·have h5 := ite_f hc2 h3; clear h3
   refine wp_skip ?_
   refine then_normal (hK5 _ _ ?_)
   have s24 := s21.sub (u 0 rfl (u 1 rfl (u 2 rfl .nil))); clear s21
   obtain ⟨g1, h6⟩ := guard_some h5; clear h5
   refine wp_seq_k fun K8 hK8 => wp_region_lit (qs s24 (.c1 rfl (mv rfl rfl) (.c1 rfl (mv rfl rfl) (.c1 rfl (ob_nilCheck rfl (.tmp rfl)) (.c1 rfl (ob_fieldAddr (off' := 1) rfl Tryd.underlying49 rfl sz47 (by decide) (.tmp rfl) rfl) (.c1 rfl (ob_loadRowV rfl (tkr47 _) (.tmp rfl) (.head _) (lgo_cabalref12_Disk_0_1_2_At (⟨[], [], [], p1.Fuse, p1.Dead⟩ : cabalref12_Disk))) (.c1 rfl (mv rfl rfl) (.c1 rfl (ob_mkSlice (k := (kint .i64)) (xs := ([p2] : (List Int))) rfl Tryd.underlying47 zz3 sz3 (Zr.int .i64) (by decide) (by decide) (.cons (.tmp rfl) rfl (LS.arr' (i := 0) (ys := ([p2] : (List Int))) (by simp) (by rfl)) (.nil _))) .cz))))))) fun _ _ s31 => ?_); clear s24
   refine qx (B' := (fun v1 : Value => [BF b00 49 (ko_cabalref12_Disk_0_1_2 w0_0 w0_1 w0_2) (⟨[], [], [], p1.Fuse, p1.Dead⟩ : cabalref12_Disk), RowF w0_0 9 kstr p1.Firm, RowF v1 3 (kint .i64) (p1.At ++ ([p2] : (List Int))), RowF w0_2 9 kstr p1.Data])) s31 rfl (ob_appendL2 (A := [_, _]) rfl Tryd.underlying47 ap3 (Zr.int .i64) (by decide) (.tmp rfl) (.tmp rfl) rfl g1) fun v1 _ _ s32 => ?_; clear s31
   refine qs s32 (.c1 rfl (ob_nilCheck rfl (.tmp rfl)) (.c1 rfl (ob_fieldAddr (off' := 1) rfl Tryd.underlying49 rfl sz47 (by decide) (.tmp rfl) rfl) .cz)) fun _ _ s34 => ?_; clear s32
   refine seq_opx0 (B' := (fun _ : Unit => [BF b00 49 (ko_cabalref12_Disk_0_1_2 w0_0 v1 w0_2) (⟨[], [], [], p1.Fuse, p1.Dead⟩ : cabalref12_Disk), RowF w0_0 9 kstr p1.Firm, RowF v1 3 (kint .i64) (p1.At ++ ([p2] : (List Int))), RowF w0_2 9 kstr p1.Data])) s34 rfl rfl (ob_storeRowV (A := []) rfl (tkr47 _) (.tmp rfl) (.tmp rfl) (.tail _ (.tail _ (.head _))) rfl (lsk_cabalref12_Disk_0_1_2_to_0_1_2_at1 (⟨[], [], [], p1.Fuse, p1.Dead⟩ : cabalref12_Disk)) rfl) fun _ a35 w35 s35 => ?_; clear s34
   refine wn hK8 ?_
   have s36 := s35.sub (u 0 rfl (u 2 rfl .nil)); clear s35
   obtain ⟨g2, h7⟩ := guard_some h6; clear h6
   refine wp_seq_k fun K9 hK9 => wp_region_lit (qs s36 (.c1 rfl (mv rfl rfl) (.c1 rfl (mv rfl rfl) (.c1 rfl (ob_nilCheck rfl (.tmp rfl)) (.c1 rfl (ob_fieldAddr (off' := 2) rfl Tryd.underlying49 rfl sz30 (by decide) (.tmp rfl) rfl) (.c1 rfl (ob_loadRowV rfl (tkr30 _) (.tmp rfl) (.head _) (lgo_cabalref12_Disk_0_1_2_Data (⟨[], [], [], p1.Fuse, p1.Dead⟩ : cabalref12_Disk))) (.c1 rfl (mv rfl rfl) (.c1 rfl (ob_mkSlice (k := kstr) (xs := ([p3] : (List (List Int)))) rfl Tryd.underlying30 zz9 sz9 Zr.str (by decide) (by decide) (.cons (.tmp rfl) rfl (LS.arr' (i := 0) (ys := ([p3] : (List (List Int)))) (by simp) (by rfl)) (.nil _))) .cz))))))) fun _ _ s43 => ?_); clear s36
   refine qx (B' := (fun v2 : Value => [BF b00 49 (ko_cabalref12_Disk_0_1_2 w0_0 v1 w0_2) (⟨[], [], [], p1.Fuse, p1.Dead⟩ : cabalref12_Disk), RowF w0_0 9 kstr p1.Firm, RowF v1 3 (kint .i64) (p1.At ++ ([p2] : (List Int))), RowF v2 9 kstr (p1.Data ++ ([p3] : (List (List Int))))])) s43 rfl (ob_appendL2 (A := [_, _, _]) rfl Tryd.underlying30 ap9 Zr.str (by decide) (.tmp rfl) (.tmp rfl) rfl g2) fun v2 _ _ s44 => ?_; clear s43
   refine qs s44 (.c1 rfl (ob_nilCheck rfl (.tmp rfl)) (.c1 rfl (ob_fieldAddr (off' := 2) rfl Tryd.underlying49 rfl sz30 (by decide) (.tmp rfl) rfl) .cz)) fun _ _ s46 => ?_; clear s44
   refine seq_opx0 (B' := (fun _ : Unit => [BF b00 49 (ko_cabalref12_Disk_0_1_2 w0_0 v1 v2) (⟨[], [], [], p1.Fuse, p1.Dead⟩ : cabalref12_Disk), RowF w0_0 9 kstr p1.Firm, RowF v1 3 (kint .i64) (p1.At ++ ([p2] : (List Int))), RowF v2 9 kstr (p1.Data ++ ([p3] : (List (List Int))))])) s46 rfl rfl (ob_storeRowV (A := []) rfl (tkr30 _) (.tmp rfl) (.tmp rfl) (.tail _ (.tail _ (.tail _ (.head _)))) rfl (lsk_cabalref12_Disk_0_1_2_to_0_1_2_at2 (⟨[], [], [], p1.Fuse, p1.Dead⟩ : cabalref12_Disk)) rfl) fun _ a47 w47 s47 => ?_; clear s46
   refine wn hK9 ?_
   have s48 := s47.sub (u 0 rfl .nil); clear s47
   refine wp_seq_k fun K10 hK10 => wp_seq_k fun K11 hK11 => ?_
   obtain ⟨x2, e_x2, h8⟩ := bind_some h7; clear h7
   refine wp_region_lit (qs s48 (.c1 rfl (mv rfl rfl) .cz) fun _ _ s49 => ?_); clear s48
   refine qx (B' := (fun gg : Value × Value × Value => [BF b00 49 (ko_cabalref12_Disk_0_1_2 gg.1 gg.2.1 gg.2.2) (⟨[], [], [], x2.2.Fuse, x2.2.Dead⟩ : cabalref12_Disk), RowF gg.1 9 kstr x2.2.Firm, RowF gg.2.1 3 (kint .i64) x2.2.At, RowF gg.2.2 9 kstr x2.2.Data])) s49 rfl (ob_callL0 (args := [_]) (L := [_, _, _, _]) rfl .direct hb78 (List.Perm.refl _) (fun a w s => by exact c_cabalref12_Disk_burn k _ _ e_x2 _ _ _ _ _ _ _ (ownL s) (disL s) (nodL s) (s.arg (.tmp rfl))) (by exact fun _ => rfl)) fun gg50 _ _ s50 => ?_; clear s49
   obtain ⟨v3, v4, v5⟩ := gg50
   refine qs s50 (.c1 rfl (ob_not rfl (.tmp rfl)) (.ce (u 42 rfl .nil))) fun _ _ s52 => wn hK11 ?_; clear s50
   refine cond_split s52 (.tmp rfl) (fun hc3 => ?_) (fun hc3 => ?_)
   ·have h9 := ite_t hc3 h8; clear h8
    refine wp_seq_k fun K12 hK12 => wp_region_lit (qs s52 (.c1 rfl (ob_assign rfl (opd_int rfl)) (.ce (u 6 rfl .nil))) fun _ _ s54 => wn hK12 ?_); clear s52
    refine wp_ret ?_
    obtain rfl := Option.some.inj h9
    exact leaveXD (D := []) ⟨v3, v4, v5⟩ s54 rfl (.inl rfl) rfl (.cons (.tmp rfl) .nil) rfl
   ·have h10 := ite_f hc3 h8; clear h8
    refine wp_skip ?_
    refine then_normal (hK10 _ _ ?_)
    have s55 := s52.sub .nil; clear s52
    refine wp_seq_k fun K13 hK13 => wp_region_lit (qs s55 (.c1 rfl (ob_assign rfl (opd_int rfl)) (.ce (u 6 rfl .nil))) fun _ _ s57 => wn hK13 ?_); clear s55
    refine wp_ret ?_
    obtain rfl := Option.some.inj h10
    exact leaveXD (D := []) ⟨v3, v4, v5⟩ s57 rfl (.inl rfl) rfl (.cons (.tmp rfl) .nil) rfl
theorem c_cabalref12_Disk_settle (k : Nat) (p1 : cabalref12_Disk) (p2 : Int) (p3 : Int) (r : cabalref12_Disk) (h0 : cabalref12_Disk_settle k p1 p2 p3 = some r) (ok : Ok) (w0 : World) (z0 : Value) (z1 : Value) (z2 : Value) (b00 : Nat) (w0_0 : Value) (w0_1 : Value) (w0_2 : Value) (l0 : ∀ q, q ∈ [BF b00 49 (ko_cabalref12_Disk_0_1_2 w0_0 w0_1 w0_2) (⟨[], [], [], p1.Fuse, p1.Dead⟩ : cabalref12_Disk), RowF w0_0 9 kstr p1.Firm, RowF w0_1 3 (kint .i64) p1.At, RowF w0_2 9 kstr p1.Data] → q.holds ok w0) (d0 : ∀ c, c ∈ idsOf [BF b00 49 (ko_cabalref12_Disk_0_1_2 w0_0 w0_1 w0_2) (⟨[], [], [], p1.Fuse, p1.Dead⟩ : cabalref12_Disk), RowF w0_0 9 kstr p1.Firm, RowF w0_1 3 (kint .i64) p1.At, RowF w0_2 9 kstr p1.Data] → ¬ ok c) (nd : (idsOf [BF b00 49 (ko_cabalref12_Disk_0_1_2 w0_0 w0_1 w0_2) (⟨[], [], [], p1.Fuse, p1.Dead⟩ : cabalref12_Disk), RowF w0_0 9 kstr p1.Firm, RowF w0_1 3 (kint .i64) p1.At, RowF w0_2 9 kstr p1.Data]).Nodup) (u0 : (ptrB b00 0).holds ok w0 z0) (u1 : ((kint .i64).V p2).holds ok w0 z1) (u2 : ((kint .i64).V p3).holds ok w0 z2) :
 GivesX Tryd.prog 58 [z0, z1, z2] ok w0 [BF b00 49 (ko_cabalref12_Disk_0_1_2 w0_0 w0_1 w0_2) (⟨[], [], [], p1.Fuse, p1.Dead⟩ : cabalref12_Disk), RowF w0_0 9 kstr p1.Firm, RowF w0_1 3 (kint .i64) p1.At, RowF w0_2 9 kstr p1.Data] (fun g : Value × Value × Value => resFact []) (fun g : Value × Value × Value => [BF b00 49 (ko_cabalref12_Disk_0_1_2 (g.1) (g.2.1) (g.2.2)) (⟨[], [], [], r.Fuse, r.Dead⟩ : cabalref12_Disk), RowF (g.1) 9 kstr r.Firm, RowF (g.2.1) 3 (kint .i64) r.At, RowF (g.2.2) 9 kstr r.Data]) := by
 unfold cabalref12_Disk_settle at h0
 refine enterX (N := 39) Tryd.func58 rfl rfl (of_decide_eq_true rfl) (.cons u0 (.cons u1 (.cons u2 .nil))) nd l0 d0 fun a1 s1 => ?_
 obtain ⟨g1, h1⟩ := guard_some h0; clear h0
 obtain ⟨x1, e_x1, h2⟩ := bind_some h1; clear h1
 refine wp_seq_k fun K1 hK1 => wp_region_lit (qs s1 (.c1 rfl (mv rfl rfl) (.c1 rfl (ob_nilCheck rfl (.tmp rfl)) (.c1 rfl (ob_fieldAddr (off' := 1) rfl Tryd.underlying49 rfl sz47 (by decide) (.tmp rfl) rfl) (.c1 rfl (ob_loadRowV rfl (tkr47 _) (.tmp rfl) (.head _) (lgo_cabalref12_Disk_0_1_2_At (⟨[], [], [], p1.Fuse, p1.Dead⟩ : cabalref12_Disk))) (.c1 rfl (mv rfl rfl) (.c1 rfl (ob_rowAt rfl Tryd.underlying47 sz3 (.tmp rfl) (.tail _ (.tail _ (.head _))) (.tmp rfl) g1) (.c1 rfl (ob_rowLoad rfl tk3 (.tmp rfl) (.tail _ (.tail _ (.head _))) (LG.arrA e_x1)) (.c1 rfl (ob_assign rfl (.tmp rfl)) (.ce (u 0 rfl (u 1 rfl (u 2 rfl (u 6 rfl .nil))))))))))))) fun _ _ s10 => wn hK1 ?_); clear s1
 obtain ⟨g2, h3⟩ := guard_some h2; clear h2
 obtain ⟨x2, e_x2, h4⟩ := bind_some h3; clear h3
 obtain ⟨x3, e_x3, h5⟩ := bind_some h4; clear h4
 obtain ⟨g3, h6⟩ := guard_some h5; clear h5
 obtain ⟨x4, e_x4, h7⟩ := bind_some h6; clear h6
 obtain ⟨x5, e_x5, h8⟩ := bind_some h7; clear h7
 obtain ⟨g4, h9⟩ := guard_some h8; clear h8
 refine wp_goes (Fs := [(ptrB b00 0), (ptrB b00 0), (ptrB b00 0), (is w0_0), ((kint .i64).V x1), (ptrB b00 0), (ptrB b00 0), (ptrB b00 2), (is w0_2), ((kint .i64).V p2), (ptrR w0_2 (p2.toNat * 1)), (kstr.V x2), ((kint .i64).V p3), (kstr.V x3), (ptrB b00 0), (ptrB b00 0), (ptrB b00 0), (is w0_0), ((kint .i64).V x1), (ptrR w0_0 (x1.toNat * 1)), (kstr.V x4), ((kint .i64).V p3), (kstr.V x5), (kstr.V (x3 ++ x5))]) (bits := [0, 1, 3, 7, 0, 0, 32, 96, 224, 0, 992, 2016, 0, 8160, 0, 16384, 49152, 114688, 0, 507904, 1032192, 0, 4177920, 8388576, 16777215, 33554431]) (m := 24) (todo := 0) mx s10 ?_; clear s10
 refine goes_last (by kernel_rfl) rfl (oc (av 0 rfl rfl Av.nil) rfl rfl (mv rfl rfl) (oc (an 0 rfl rfl rfl Av.nil) rfl rfl (ob_nilCheck rfl (.tmp rfl)) (oc (an 1 rfl rfl rfl Av.nil) rfl rfl (ob_fieldAddr (off' := 0) rfl Tryd.underlying49 rfl sz30 (by decide) (.tmp rfl) rfl) (oc (an 2 rfl rfl rfl Av.nil) rfl rfl (ob_loadRowV rfl (tkr30 _) (.tmp rfl) (.head _) (lgo_cabalref12_Disk_0_1_2_Firm (⟨[], [], [], p1.Fuse, p1.Dead⟩ : cabalref12_Disk))) (oc (av 6 rfl rfl Av.nil) rfl rfl (mv rfl rfl) (oc (av 0 rfl rfl Av.nil) rfl rfl (mv rfl rfl) (oc (an 5 rfl rfl rfl Av.nil) rfl rfl (ob_nilCheck rfl (.tmp rfl)) (oc (an 6 rfl rfl rfl Av.nil) rfl rfl (ob_fieldAddr (off' := 2) rfl Tryd.underlying49 rfl sz30 (by decide) (.tmp rfl) rfl) (oc (an 7 rfl rfl rfl Av.nil) rfl rfl (ob_loadRowV rfl (tkr30 _) (.tmp rfl) (.head _) (lgo_cabalref12_Disk_0_1_2_Data (⟨[], [], [], p1.Fuse, p1.Dead⟩ : cabalref12_Disk))) (oc (av 1 rfl rfl Av.nil) rfl rfl (mv rfl rfl) (oc (an 8 rfl rfl rfl (an 9 rfl rfl rfl Av.nil)) rfl rfl (ob_rowAt rfl Tryd.underlying30 sz9 (.tmp rfl) (.tail _ (.tail _ (.tail _ (.head _)))) (.tmp rfl) g2) (oc (an 10 rfl rfl rfl Av.nil) rfl rfl (ob_rowLoad rfl tk9 (.tmp rfl) (.tail _ (.tail _ (.tail _ (.head _)))) (LG.arrA e_x2)) (oc (av 2 rfl rfl Av.nil) rfl rfl (mv rfl rfl) (oc (an 11 rfl rfl rfl (an 12 rfl rfl rfl Av.nil)) rfl rfl (ob_cutStr rfl Tryd.underlying9 (.tmp rfl) .none (.some (.tmp rfl)) e_x3) (oc (av 0 rfl rfl Av.nil) rfl rfl (mv rfl rfl) (oc (an 14 rfl rfl rfl Av.nil) rfl rfl (ob_nilCheck rfl (.tmp rfl)) (oc (an 15 rfl rfl rfl Av.nil) rfl rfl (ob_fieldAddr (off' := 0) rfl Tryd.underlying49 rfl sz30 (by decide) (.tmp rfl) rfl) (oc (an 16 rfl rfl rfl Av.nil) rfl rfl (ob_loadRowV rfl (tkr30 _) (.tmp rfl) (.head _) (lgo_cabalref12_Disk_0_1_2_Firm (⟨[], [], [], p1.Fuse, p1.Dead⟩ : cabalref12_Disk))) (oc (av 6 rfl rfl Av.nil) rfl rfl (mv rfl rfl) (oc (an 17 rfl rfl rfl (an 18 rfl rfl rfl Av.nil)) rfl rfl (ob_rowAt rfl Tryd.underlying30 sz9 (.tmp rfl) (.tail _ (.head _)) (.tmp rfl) g3) (oc (an 19 rfl rfl rfl Av.nil) rfl rfl (ob_rowLoad rfl tk9 (.tmp rfl) (.tail _ (.head _)) (LG.arrA e_x4)) (oc (av 2 rfl rfl Av.nil) rfl rfl (mv rfl rfl) (oc (an 20 rfl rfl rfl (an 21 rfl rfl rfl Av.nil)) rfl rfl (ob_cutStr rfl Tryd.underlying9 (.tmp rfl) (.some (.tmp rfl)) .none e_x5) (oc (an 13 rfl rfl rfl (an 22 rfl rfl rfl Av.nil)) rfl rfl (ob_cat rfl (.tmp rfl) (.tmp rfl) g4) opsS_nil)))))))))))))))))))))))) (out_new (i := 3) (by decide) rfl rfl (out_new (i := 4) (by decide) rfl rfl (out_new (i := 23) (by decide) rfl rfl out_nil))) fun _ _ s11 => ?_
 obtain ⟨g5, h10⟩ := guard_some h9; clear h9
 obtain ⟨x6, e_x6, h11⟩ := bind_some h10; clear h10
 refine qs s11 (.c1 rfl (ob_rowAt rfl Tryd.underlying30 sz9 (.tmp rfl) (.tail _ (.head _)) (.tmp rfl) g5) .cz) fun _ _ s12 => ?_; clear s11
 refine seq_opx0 (B' := (fun _ : Unit => [BF b00 49 (ko_cabalref12_Disk_0_1_2 w0_0 w0_1 w0_2) (⟨[], [], [], p1.Fuse, p1.Dead⟩ : cabalref12_Disk), RowF w0_0 9 kstr x6, RowF w0_1 3 (kint .i64) p1.At, RowF w0_2 9 kstr p1.Data])) s12 rfl rfl (ob_rowStore (A := [_]) rfl tk9 (.tmp rfl) (.tmp rfl) rfl (LS.arrS e_x6) rfl) fun _ a13 w13 s13 => ?_; clear s12
 refine wpList_nil ?_
 obtain rfl := Option.some.inj h11
 exact leaveXD (D := []) ⟨w0_0, w0_1, w0_2⟩ s13 rfl (.inr rfl) rfl .nil rfl
theorem c_cabalref12_Disk_clear (k : Nat) (p1 : cabalref12_Disk) (r : cabalref12_Disk) (h0 : cabalref12_Disk_clear k p1 = some r) (ok : Ok) (w0 : World) (z0 : Value) (b00 : Nat) (w0_0 : Value) (w0_1 : Value) (w0_2 : Value) (l0 : ∀ q, q ∈ [BF b00 49 (ko_cabalref12_Disk_0_1_2 w0_0 w0_1 w0_2) (⟨[], [], [], p1.Fuse, p1.Dead⟩ : cabalref12_Disk), RowF w0_0 9 kstr p1.Firm, RowF w0_1 3 (kint .i64) p1.At, RowF w0_2 9 kstr p1.Data] → q.holds ok w0) (d0 : ∀ c, c ∈ idsOf [BF b00 49 (ko_cabalref12_Disk_0_1_2 w0_0 w0_1 w0_2) (⟨[], [], [], p1.Fuse, p1.Dead⟩ : cabalref12_Disk), RowF w0_0 9 kstr p1.Firm, RowF w0_1 3 (kint .i64) p1.At, RowF w0_2 9 kstr p1.Data] → ¬ ok c) (nd : (idsOf [BF b00 49 (ko_cabalref12_Disk_0_1_2 w0_0 w0_1 w0_2) (⟨[], [], [], p1.Fuse, p1.Dead⟩ : cabalref12_Disk), RowF w0_0 9 kstr p1.Firm, RowF w0_1 3 (kint .i64) p1.At, RowF w0_2 9 kstr p1.Data]).Nodup) (u0 : (ptrB b00 0).holds ok w0 z0) :
 GivesX Tryd.prog 59 [z0] ok w0 [BF b00 49 (ko_cabalref12_Disk_0_1_2 w0_0 w0_1 w0_2) (⟨[], [], [], p1.Fuse, p1.Dead⟩ : cabalref12_Disk), RowF w0_0 9 kstr p1.Firm, RowF w0_1 3 (kint .i64) p1.At, RowF w0_2 9 kstr p1.Data] (fun g : Value × Value × Value => resFact []) (fun g : Value × Value × Value => [BF b00 49 (ko_cabalref12_Disk_0_1_2 (g.1) (g.2.1) (g.2.2)) (⟨[], [], [], r.Fuse, r.Dead⟩ : cabalref12_Disk), RowF (g.1) 9 kstr r.Firm, RowF (g.2.1) 3 (kint .i64) r.At, RowF (g.2.2) 9 kstr r.Data]) := by
 unfold cabalref12_Disk_clear at h0
 refine enterX (N := 8) Tryd.func59 rfl rfl (of_decide_eq_true rfl) (.cons u0 .nil) nd l0 d0 fun a1 s1 => ?_
 refine wp_seq_k fun K1 hK1 => wp_region_lit (qs s1 (.c1 rfl (mv rfl rfl) (.c1 rfl (ob_nilCheck rfl (.tmp rfl)) (.c1 rfl (ob_fieldAddr (off' := 1) rfl Tryd.underlying49 rfl sz47 (by decide) (.tmp rfl) rfl) .cz))) fun _ _ s4 => ?_); clear s1
 have s5 := St.adopt s4 (G := RowF (nilRow 15) 3 (kint .i64) []) rfl (rowNilN _ _ _ _ _); clear s4
 refine seq_opx0 (B' := (fun _ : Unit => [RowF (nilRow 15) 3 (kint .i64) ([] : (List Int)), BF b00 49 (ko_cabalref12_Disk_0_1_2 w0_0 (nilRow 15) w0_2) (⟨[], [], [], p1.Fuse, p1.Dead⟩ : cabalref12_Disk), RowF w0_0 9 kstr p1.Firm, RowF w0_1 3 (kint .i64) p1.At, RowF w0_2 9 kstr p1.Data])) s5 rfl rfl (ob_storeRowV (A := [_]) rfl (tkr47 _) (.tmp rfl) opd_is (.head _) rfl (lsk_cabalref12_Disk_0_1_2_to_0_1_2_at1 (⟨[], [], [], p1.Fuse, p1.Dead⟩ : cabalref12_Disk)) rfl) fun _ a6 w6 s6 => ?_; clear s5
 refine wn hK1 ?_
 have s7 := s6.sub (u 0 rfl .nil); clear s6
 have s8 := St.drop (A := [_, _, _]) s7; clear s7
 refine wp_region_lit (qs s8 (.c1 rfl (mv rfl rfl) (.c1 rfl (ob_nilCheck rfl (.tmp rfl)) (.c1 rfl (ob_fieldAddr (off' := 2) rfl Tryd.underlying49 rfl sz30 (by decide) (.tmp rfl) rfl) .cz))) fun _ _ s11 => ?_); clear s8
 have s12 := St.adopt s11 (G := RowF (nilRow 16) 9 kstr []) rfl (rowNilN _ _ _ _ _); clear s11
 refine seq_opx0 (B' := (fun _ : Unit => [RowF (nilRow 16) 9 kstr ([] : (List (List Int))), RowF (nilRow 15) 3 (kint .i64) ([] : (List Int)), BF b00 49 (ko_cabalref12_Disk_0_1_2 w0_0 (nilRow 15) (nilRow 16)) (⟨[], [], [], p1.Fuse, p1.Dead⟩ : cabalref12_Disk), RowF w0_0 9 kstr p1.Firm, RowF w0_2 9 kstr p1.Data])) s12 rfl rfl (ob_storeRowV (A := [_, _]) rfl (tkr30 _) (.tmp rfl) opd_is (.head _) rfl (lsk_cabalref12_Disk_0_1_2_to_0_1_2_at2 (⟨[], [], [], p1.Fuse, p1.Dead⟩ : cabalref12_Disk)) rfl) fun _ a13 w13 s13 => ?_; clear s12
 refine wpList_nil ?_
 have s14 := s13.perm (toFront [_, _] (toFront [_, _] (toFront [_] (toFront [] (List.Perm.refl _))))); clear s13
 obtain rfl := Option.some.inj h0
 exact leaveXD (D := [_]) ⟨w0_0, (nilRow 15), (nilRow 16)⟩ s14 rfl (.inr rfl) rfl .nil rfl
theorem c_cabalref12_Disk_Sync (k : Nat) (p1 : cabalref12_Disk) (r : (Int × cabalref12_Disk)) (h0 : cabalref12_Disk_Sync k p1 = some r) (ok : Ok) (w0 : World) (z0 : Value) (b00 : Nat) (w0_0 : Value) (w0_1 : Value) (w0_2 : Value) (l0 : ∀ q, q ∈ [BF b00 49 (ko_cabalref12_Disk_0_1_2 w0_0 w0_1 w0_2) (⟨[], [], [], p1.Fuse, p1.Dead⟩ : cabalref12_Disk), RowF w0_0 9 kstr p1.Firm, RowF w0_1 3 (kint .i64) p1.At, RowF w0_2 9 kstr p1.Data] → q.holds ok w0) (d0 : ∀ c, c ∈ idsOf [BF b00 49 (ko_cabalref12_Disk_0_1_2 w0_0 w0_1 w0_2) (⟨[], [], [], p1.Fuse, p1.Dead⟩ : cabalref12_Disk), RowF w0_0 9 kstr p1.Firm, RowF w0_1 3 (kint .i64) p1.At, RowF w0_2 9 kstr p1.Data] → ¬ ok c) (nd : (idsOf [BF b00 49 (ko_cabalref12_Disk_0_1_2 w0_0 w0_1 w0_2) (⟨[], [], [], p1.Fuse, p1.Dead⟩ : cabalref12_Disk), RowF w0_0 9 kstr p1.Firm, RowF w0_1 3 (kint .i64) p1.At, RowF w0_2 9 kstr p1.Data]).Nodup) (u0 : (ptrB b00 0).holds ok w0 z0) :
 GivesX Tryd.prog 52 [z0] ok w0 [BF b00 49 (ko_cabalref12_Disk_0_1_2 w0_0 w0_1 w0_2) (⟨[], [], [], p1.Fuse, p1.Dead⟩ : cabalref12_Disk), RowF w0_0 9 kstr p1.Firm, RowF w0_1 3 (kint .i64) p1.At, RowF w0_2 9 kstr p1.Data] (fun g : Value × Value × Value => resFact [(kint .i64).V r.1]) (fun g : Value × Value × Value => [BF b00 49 (ko_cabalref12_Disk_0_1_2 (g.1) (g.2.1) (g.2.2)) (⟨[], [], [], r.2.Fuse, r.2.Dead⟩ : cabalref12_Disk), RowF (g.1) 9 kstr r.2.Firm, RowF (g.2.1) 3 (kint .i64) r.2.At, RowF (g.2.2) 9 kstr r.2.Data]) := by
 unfold cabalref12_Disk_Sync at h0
 refine enterX (N := 27) Tryd.func52 rfl rfl (of_decide_eq_true rfl) (.cons u0 .nil) nd l0 d0 fun a1 s1 => ?_
 refine wp_seq_k fun K1 hK1 => wp_region_lit (qs s1 (.c1 rfl (ob_assign rfl (opd_int rfl)) (.ce (u 0 rfl .nil))) fun _ _ s3 => wn hK1 ?_); clear s1
 refine wp_seq_k fun K2 hK2 => wp_seq_k fun K3 hK3 => ?_
 obtain ⟨x1, e_x1, h1⟩ := bind_some h0; clear h0
 refine wp_region_lit (qs s3 (.c1 rfl (mv rfl rfl) (.c1 rfl (ob_nilCheck rfl (.tmp rfl)) (.c1 rfl (ob_fieldAddr (off' := 4) rfl Tryd.underlying49 rfl sz4 (by decide) (.tmp rfl) rfl) (.c1 rfl (ob_load rfl tk4 (.tmp rfl) (.head _) (lgo_cabalref12_Disk_0_1_2_Dead (⟨[], [], [], p1.Fuse, p1.Dead⟩ : cabalref12_Disk))) (.c1 rfl (mv rfl rfl) (.cg rfl rfl rfl rfl (fun hb => ob_move rfl (.tmp rfl)) .cz)))))) fun _ _ s9 => ?_); clear s3
 refine seq_opxg (B1 := (fun gg : Value × Value × Value => [BF b00 49 (ko_cabalref12_Disk_0_1_2 gg.1 gg.2.1 gg.2.2) (⟨[], [], [], x1.2.Fuse, x1.2.Dead⟩ : cabalref12_Disk), RowF gg.1 9 kstr x1.2.Firm, RowF gg.2.1 3 (kint .i64) x1.2.At, RowF gg.2.2 9 kstr x1.2.Data])) s9 rfl rfl rfl rfl (of_decide_eq_true rfl) (fun hb => (ObX.uncond (t := 9) hb rfl (ob_callL0 (args := [_]) (L := [_, _, _, _]) rfl .direct hb78 (List.Perm.refl _) (fun a w s => by exact c_cabalref12_Disk_burn k _ _ (ite_t hb e_x1) _ _ _ _ _ _ _ (ownL s) (disL s) (nodL s) (s.arg (.tmp rfl))) (by exact fun _ => rfl)))) (fun hb0 => by obtain rfl := Option.some.inj (ite_f hb0 e_x1); exact ⟨⟨w0_0, w0_1, w0_2⟩, rfl⟩) fun gg10 a10 w10 s10 => ?_; clear s9
 obtain ⟨v1, v2, v3⟩ := gg10
 refine qs s10 (.cg rfl rfl rfl rfl (fun hb => (Ob.uncond (t := 10) hb rfl (ob_not rfl (.tmp rfl)))) (.c1 rfl (ob_or2 rfl (.tmp rfl) opd_bool (.tmp rfl)) (.ce (u 0 rfl (u 12 rfl .nil))))) fun _ _ s13 => wn hK3 ?_; clear s10
 refine cond_split s13 (.tmp rfl) (fun hc1 => ?_) (fun hc1 => ?_)
 ·have h2 := ite_t hc1 h1; clear h1
  refine wp_seq_k fun K4 hK4 => wp_region_lit (qs s13 (.c1 rfl (ob_assign rfl (opd_int rfl)) (.ce (u 2 rfl .nil))) fun _ _ s15 => wn hK4 ?_); clear s13
  refine wp_ret ?_
  obtain rfl := Option.some.inj h2
  exact leaveXD (D := []) ⟨v1, v2, v3⟩ s15 rfl (.inl rfl) rfl (.cons (.tmp rfl) .nil) rfl
 ·have h3 := ite_f hc1 h1; clear h1
  refine wp_skip ?_
  refine then_normal (hK2 _ _ ?_)
  have s16 := s13.sub (u 0 rfl .nil); clear s13
  refine wp_seq_k fun K5 hK5 => wp_seq_k fun K6 hK6 => ?_
  refine wp_region_lit (qs s16 (.c1 rfl (ob_assign rfl (opd_int rfl)) (.ce (u 0 rfl (u 3 rfl .nil)))) fun _ _ s18 => wn hK6 ?_); clear s16
  have hj1 : ∀ (y1 : Int) (y2 : Bool) (y3 : (List (List Int))) (y4 : (List Int)) (y5 : (List (List Int))) (v4 : Value) (v5 : Value) (v6 : Value) (a : Act) (w : World), (cabalref12_Disk_Sync.j1 k) y1 y2 y3 y4 y5 = some r → St ⟨27, w0, ok, (idsOf [BF b00 49 (ko_cabalref12_Disk_0_1_2 w0_0 w0_1 w0_2) (⟨[], [], [], p1.Fuse, p1.Dead⟩ : cabalref12_Disk), RowF w0_0 9 kstr p1.Firm, RowF w0_1 3 (kint .i64) p1.At, RowF w0_2 9 kstr p1.Data])⟩ [BF b00 49 (ko_cabalref12_Disk_0_1_2 v4 v5 v6) (⟨[], [], [], y1, y2⟩ : cabalref12_Disk), RowF v4 9 kstr y3, RowF v5 3 (kint .i64) y4, RowF v6 9 kstr y5] [(0, (ptrB b00 0))] a w → K5 a w := by
   intro y1 y2 y3 y4 y5 v4 v5 v6 a19 w19 h4 s19
   unfold cabalref12_Disk_Sync.j1 at h4
   refine hK5 _ _ ?_
   obtain ⟨x2, e_x2, h5⟩ := bind_some h4; clear h4
   refine wp_seq_k fun K7 hK7 => wp_region_lit (qs s19 (.c1 rfl (mv rfl rfl) .cz) fun _ _ s20 => ?_); clear s19
   refine qx (B' := (fun gg : Value × Value × Value => [BF b00 49 (ko_cabalref12_Disk_0_1_2 gg.1 gg.2.1 gg.2.2) (⟨[], [], [], x2.Fuse, x2.Dead⟩ : cabalref12_Disk), RowF gg.1 9 kstr x2.Firm, RowF gg.2.1 3 (kint .i64) x2.At, RowF gg.2.2 9 kstr x2.Data])) s20 rfl (ob_callL0 (args := [_]) (L := [_, _, _, _]) rfl .direct hb59 (List.Perm.refl _) (fun a w s => by exact c_cabalref12_Disk_clear k _ _ e_x2 _ _ _ _ _ _ _ (ownL s) (disL s) (nodL s) (s.arg (.tmp rfl))) (by exact fun _ => rfl)) fun gg21 _ _ s21 => ?_; clear s20
   obtain ⟨v7, v8, v9⟩ := gg21
   refine wn hK7 ?_
   have s22 := s21.sub .nil; clear s21
   refine wp_seq_k fun K8 hK8 => wp_region_lit (qs s22 (.c1 rfl (ob_assign rfl (opd_int rfl)) (.ce (u 2 rfl .nil))) fun _ _ s24 => wn hK8 ?_); clear s22
   refine wp_ret ?_
   obtain rfl := Option.some.inj h5
   exact leaveXD (D := []) ⟨v7, v8, v9⟩ s24 rfl (.inl rfl) rfl (.cons (.tmp rfl) .nil) rfl
  refine wp_block ?_
  refine wp_loop_fuel (fun m (q : Int × Int × Bool × (List (List Int)) × (List Int) × (List (List Int))) => cabalref12_Disk_Sync.l1 k m q.1 q.2.1 q.2.2.1 q.2.2.2.1 q.2.2.2.2.1 q.2.2.2.2.2) r (fun _ => rfl) (fun q a w => ∃ (v10 : Value) (v11 : Value) (v12 : Value), St ⟨27, w0, ok, (idsOf [BF b00 49 (ko_cabalref12_Disk_0_1_2 w0_0 w0_1 w0_2) (⟨[], [], [], p1.Fuse, p1.Dead⟩ : cabalref12_Disk), RowF w0_0 9 kstr p1.Firm, RowF w0_1 3 (kint .i64) p1.At, RowF w0_2 9 kstr p1.Data])⟩ [BF b00 49 (ko_cabalref12_Disk_0_1_2 v10 v11 v12) (⟨[], [], [], q.2.1, q.2.2.1⟩ : cabalref12_Disk), RowF v10 9 kstr q.2.2.2.1, RowF v11 3 (kint .i64) q.2.2.2.2.1, RowF v12 9 kstr q.2.2.2.2.2] [(0, (ptrB b00 0)), (3, ((kint .i64).V q.1))] a w) ?_ k ((0 : Int), x1.2.Fuse, x1.2.Dead, x1.2.Firm, x1.2.At, x1.2.Data) _ _ h3 ⟨v1, v2, v3, (s18.sub (.cons rfl (.cons rfl .nil)))⟩
  rintro n1 ⟨y6, y7, y8, y9, y10, y11⟩ a25 w25 h6 ⟨v10, v11, v12, s25⟩ K9 hK9
  replace h6 : cabalref12_Disk_Sync.l1 k (n1 + 1) y6 y7 y8 y9 y10 y11 = some r := h6; rw [cabalref12_Disk_Sync.l1] at h6
  have h7 := h6; clear h6
  refine wp_seq_k fun K10 hK10 => wp_seq_k fun K11 hK11 => ?_
  refine wp_region_lit (qs s25 (.c1 rfl (mv rfl rfl) (.c1 rfl (mv rfl rfl) (.c1 rfl (ob_nilCheck rfl (.tmp rfl)) (.c1 rfl (ob_fieldAddr (off' := 1) rfl Tryd.underlying49 rfl sz47 (by decide) (.tmp rfl) rfl) (.c1 rfl (ob_loadRowV rfl (tkr47 _) (.tmp rfl) (.head _) (lgo_cabalref12_Disk_0_1_2_At (⟨[], [], [], y7, y8⟩ : cabalref12_Disk))) (.c1 rfl (ob_lenRow rfl Tryd.underlying47 (.tmp rfl) (.tail _ (.tail _ (.head _)))) (.c1 rfl (ob_lss rfl (.tmp rfl) (.tmp rfl)) (.ce (u 0 rfl (u 3 rfl (u 19 rfl .nil))))))))))) fun _ _ s33 => wn hK11 ?_); clear s25
  refine cond_split s33 (.tmp rfl) (fun hc2 => ?_) (fun hc2 => ?_)
  ·have h8 := ite_t hc2 h7; clear h7
   refine wp_skip ?_
   refine then_normal (hK10 _ _ ?_)
   have s34 := s33.sub (u 0 rfl (u 3 rfl .nil)); clear s33
   refine wp_seq_k fun K12 hK12 => wp_block ?_
   obtain ⟨x3, e_x3, h9⟩ := bind_some h8; clear h8
   refine wp_region_lit (qs s34 (.c1 rfl (mv rfl rfl) (.c1 rfl (mv rfl rfl) .cz)) fun _ _ s36 => ?_); clear s34
   refine qx (B' := (fun gg : Value × Value × Value => [BF b00 49 (ko_cabalref12_Disk_0_1_2 gg.1 gg.2.1 gg.2.2) (⟨[], [], [], x3.Fuse, x3.Dead⟩ : cabalref12_Disk), RowF gg.1 9 kstr x3.Firm, RowF gg.2.1 3 (kint .i64) x3.At, RowF gg.2.2 9 kstr x3.Data])) s36 rfl (ob_callL0 (args := [_, _, _]) (L := [_, _, _, _]) rfl .direct hb58 (List.Perm.refl _) (fun a w s => by exact c_cabalref12_Disk_settle k _ _ _ _ e_x3 _ _ _ _ _ _ _ _ _ (ownL s) (disL s) (nodL s) (s.arg (.tmp rfl)) (s.arg (.tmp rfl)) (s.arg (opd_int rfl))) (by exact fun _ => rfl)) fun gg37 _ _ s37 => ?_; clear s36
   obtain ⟨v13, v14, v15⟩ := gg37
   refine wpList_nil ?_
   refine in_normal ?_
   refine then_normal (hK12 _ _ ?_)
   have s38 := s37.sub (u 0 rfl (u 3 rfl .nil)); clear s37
   refine wp_region_lit (qs s38 (.c1 rfl (mv rfl rfl) (.c1 rfl (ob_add rfl (.tmp rfl) (opd_int rfl)) (.c1 rfl (ob_assign rfl (.tmp rfl)) .cz))) fun _ _ s41 => ?_); clear s38
   refine wpList_nil ?_
   refine then_normal ?_
   exact hK9 ((iadd .i64 y6 (1 : Int)), x3.Fuse, x3.Dead, x3.Firm, x3.At, x3.Data) _ _ h9 ⟨v13, v14, v15, (s41.sub (.cons rfl (.cons rfl .nil)))⟩
  ·have h10 := ite_f hc2 h7; clear h7
   refine wp_exit ?_
   refine (then_exit (then_exit (in_here ?_)))
   refine then_normal ?_
   exact hj1 y7 y8 y9 y10 y11 v10 v11 v12 _ _ h10 (s33.sub (.cons rfl .nil))
theorem c_cabalref13_Journal_commit (k : Nat) (p1 : cabalref13_Journal) (p2 : Int) (p3 : Int) (p4 : (List Int)) (p5 : cabalref12_Disk) (r : (Int × cabalref13_Journal × cabalref12_Disk)) (h0 : cabalref13_Journal_commit k p1 p2 p3 p4 p5 = some r) (ok : Ok) (w0 : World) (z0 : Value) (z1 : Value) (z2 : Value) (z3 : Value) (b00 : Nat) (b01 : Nat) (w1_0 : Value) (w1_1 : Value) (w1_2 : Value) (l0 : ∀ q, q ∈ [BF b00 56 (ko_cabalref13_Journal_0 (.pointer (some ⟨b01, 0, none⟩))) (⟨(), p1.Area, p1.L⟩ : cabalref13_Journal), BF b01 49 (ko_cabalref12_Disk_0_1_2 w1_0 w1_1 w1_2) (⟨[], [], [], p5.Fuse, p5.Dead⟩ : cabalref12_Disk), RowF w1_0 9 kstr p5.Firm, RowF w1_1 3 (kint .i64) p5.At, RowF w1_2 9 kstr p5.Data] → q.holds ok w0) (d0 : ∀ c, c ∈ idsOf [BF b00 56 (ko_cabalref13_Journal_0 (.pointer (some ⟨b01, 0, none⟩))) (⟨(), p1.Area, p1.L⟩ : cabalref13_Journal), BF b01 49 (ko_cabalref12_Disk_0_1_2 w1_0 w1_1 w1_2) (⟨[], [], [], p5.Fuse, p5.Dead⟩ : cabalref12_Disk), RowF w1_0 9 kstr p5.Firm, RowF w1_1 3 (kint .i64) p5.At, RowF w1_2 9 kstr p5.Data] → ¬ ok c) (nd : (idsOf [BF b00 56 (ko_cabalref13_Journal_0 (.pointer (some ⟨b01, 0, none⟩))) (⟨(), p1.Area, p1.L⟩ : cabalref13_Journal), BF b01 49 (ko_cabalref12_Disk_0_1_2 w1_0 w1_1 w1_2) (⟨[], [], [], p5.Fuse, p5.Dead⟩ : cabalref12_Disk), RowF w1_0 9 kstr p5.Firm, RowF w1_1 3 (kint .i64) p5.At, RowF w1_2 9 kstr p5.Data]).Nodup) (u0 : (ptrB b00 0).holds ok w0 z0) (u1 : ((kint .i64).V p2).holds ok w0 z1) (u2 : ((kint .i64).V p3).holds ok w0 z2) (u3 : (kstr.V p4).holds ok w0 z3) :
 GivesX Tryd.prog 57 [z0, z1, z2, z3] ok w0 [BF b00 56 (ko_cabalref13_Journal_0 (.pointer (some ⟨b01, 0, none⟩))) (⟨(), p1.Area, p1.L⟩ : cabalref13_Journal), BF b01 49 (ko_cabalref12_Disk_0_1_2 w1_0 w1_1 w1_2) (⟨[], [], [], p5.Fuse, p5.Dead⟩ : cabalref12_Disk), RowF w1_0 9 kstr p5.Firm, RowF w1_1 3 (kint .i64) p5.At, RowF w1_2 9 kstr p5.Data] (fun g : Value × Value × Value => resFact [(kint .i64).V r.1]) (fun g : Value × Value × Value => [BF b00 56 (ko_cabalref13_Journal_0 (.pointer (some ⟨b01, 0, none⟩))) (⟨(), r.2.1.Area, r.2.1.L⟩ : cabalref13_Journal), BF b01 49 (ko_cabalref12_Disk_0_1_2 (g.1) (g.2.1) (g.2.2)) (⟨[], [], [], r.2.2.Fuse, r.2.2.Dead⟩ : cabalref12_Disk), RowF (g.1) 9 kstr r.2.2.Firm, RowF (g.2.1) 3 (kint .i64) r.2.2.At, RowF (g.2.2) 9 kstr r.2.2.Data]) := by
 unfold cabalref13_Journal_commit at h0
 refine enterX (N := 72) Tryd.func57 rfl rfl (of_decide_eq_true rfl) (.cons u0 (.cons u1 (.cons u2 (.cons u3 .nil)))) nd l0 d0 fun a1 s1 => ?_
 refine wp_seq_k fun K1 hK1 => wp_region_lit (qs s1 (.c1 rfl (ob_assign rfl (opd_int rfl)) (.ce (u 0 rfl (u 1 rfl (u 2 rfl (u 3 rfl .nil)))))) fun _ _ s3 => wn hK1 ?_); clear s1
 refine wp_seq_k fun K2 hK2 => wp_seq_k fun K3 hK3 => ?_
 refine wp_region_lit (qs s3 (.c1 rfl (mv rfl rfl) (.c1 rfl (ob_quo rfl (.tmp rfl) (opd_int rfl) (by decide)) (.c1 rfl (ob_mul rfl (.tmp rfl) (opd_int rfl)) (.c1 rfl (ob_assign rfl (.tmp rfl)) (.ce (u 0 rfl (u 1 rfl (u 3 rfl (u 9 rfl .nil))))))))) fun _ _ s8 => wn hK3 ?_); clear s3
 have hj1 : ∀ (y1 : Int) (y2 : Bool) (y3 : (List (List Int))) (y4 : (List Int)) (y5 : (List (List Int))) (v1 : Value) (v2 : Value) (v3 : Value) (a : Act) (w : World), (cabalref13_Journal_commit.j1 k p1 p2 p4) y1 y2 y3 y4 y5 = some r → St ⟨72, w0, ok, (idsOf [BF b00 56 (ko_cabalref13_Journal_0 (.pointer (some ⟨b01, 0, none⟩))) (⟨(), p1.Area, p1.L⟩ : cabalref13_Journal), BF b01 49 (ko_cabalref12_Disk_0_1_2 w1_0 w1_1 w1_2) (⟨[], [], [], p5.Fuse, p5.Dead⟩ : cabalref12_Disk), RowF w1_0 9 kstr p5.Firm, RowF w1_1 3 (kint .i64) p5.At, RowF w1_2 9 kstr p5.Data])⟩ [BF b00 56 (ko_cabalref13_Journal_0 (.pointer (some ⟨b01, 0, none⟩))) (⟨(), p1.Area, p1.L⟩ : cabalref13_Journal), BF b01 49 (ko_cabalref12_Disk_0_1_2 v1 v2 v3) (⟨[], [], [], y1, y2⟩ : cabalref12_Disk), RowF v1 9 kstr y3, RowF v2 3 (kint .i64) y4, RowF v3 9 kstr y5] [(0, (ptrB b00 0)), (1, ((kint .i64).V p2)), (3, (kstr.V p4))] a w → K2 a w := by
  intro y1 y2 y3 y4 y5 v1 v2 v3 a9 w9 h1 s9
  unfold cabalref13_Journal_commit.j1 at h1
  refine hK2 _ _ ?_
  refine wp_seq_k fun K4 hK4 => wp_seq_k fun K5 hK5 => ?_
  obtain ⟨x1, e_x1, h2⟩ := bind_some h1; clear h1
  refine wp_region_lit (qs s9 (.c1 rfl (mv rfl rfl) (.c1 rfl (ob_nilCheck rfl (.tmp rfl)) (.c1 rfl (ob_fieldAddr (off' := 0) rfl Tryd.underlying56 rfl sz41 (by decide) (.tmp rfl) rfl) (.c1 rfl (ob_loadRowV rfl (tkr41 _) (.tmp rfl) (.head _) (lgo_cabalref13_Journal_0_D (⟨(), p1.Area, p1.L⟩ : cabalref13_Journal))) .cz)))) fun _ _ s13 => ?_); clear s9
  refine qx (B' := (fun gg : Value × Value × Value => [BF b01 49 (ko_cabalref12_Disk_0_1_2 gg.1 gg.2.1 gg.2.2) (⟨[], [], [], x1.2.Fuse, x1.2.Dead⟩ : cabalref12_Disk), RowF gg.1 9 kstr x1.2.Firm, RowF gg.2.1 3 (kint .i64) x1.2.At, RowF gg.2.2 9 kstr x1.2.Data, BF b00 56 (ko_cabalref13_Journal_0 (.pointer (some ⟨b01, 0, none⟩))) (⟨(), p1.Area, p1.L⟩ : cabalref13_Journal)])) s13 rfl (ob_callL0 (args := [_]) (L := [_, _, _, _]) rfl .direct hb52 (toFront [_] (toFront [_] (toFront [_] (toFront [_] (List.Perm.refl _))))) (fun a w s => by exact c_cabalref12_Disk_Sync k _ _ e_x1 _ _ _ _ _ _ _ (ownL s) (disL s) (nodL s) (s.arg (.tmp rfl))) (by exact fun _ => rfl)) fun gg14 _ _ s14 => ?_; clear s13
  obtain ⟨v4, v5, v6⟩ := gg14
  refine qs s14 (.c1 rfl (ob_neq rfl (.tmp rfl) (opd_int rfl)) (.ce (u 0 rfl (u 1 rfl (u 3 rfl (u 55 rfl .nil)))))) fun _ _ s16 => wn hK5 ?_; clear s14
  refine cond_split s16 (.tmp rfl) (fun hc1 => ?_) (fun hc1 => ?_)
  ·have h3 := ite_t hc1 h2; clear h2
   refine wp_seq_k fun K6 hK6 => wp_region_lit (qs s16 (.c1 rfl (ob_assign rfl (opd_int rfl)) (.ce (u 8 rfl .nil))) fun _ _ s18 => wn hK6 ?_); clear s16
   refine wp_ret ?_
   have s19 := s18.perm (toFront [_, _, _, _] (toFront [] (toFront [] (toFront [] (toFront [] (List.Perm.refl _)))))); clear s18
   obtain rfl := Option.some.inj h3
   exact leaveXD (D := []) ⟨v4, v5, v6⟩ s19 rfl (.inl rfl) rfl (.cons (.tmp rfl) .nil) rfl
  ·have h4 := ite_f hc1 h2; clear h2
   refine wp_skip ?_
   refine then_normal (hK4 _ _ ?_)
   have s20 := s16.sub (u 0 rfl (u 1 rfl (u 3 rfl .nil))); clear s16
   refine wp_seq_k fun K7 hK7 => wp_seq_k fun K8 hK8 => ?_
   obtain ⟨x2, e_x2, h5⟩ := bind_some h4; clear h4
   obtain ⟨x3, e_x3, h6⟩ := bind_some h5; clear h5
   refine wp_goes (Fs := [(ptrB b00 0), (ptrB b00 0), (ptrB b00 0), (ptrB b01 0), ((kint .i64).V p2), (kstr.V p4), ((kint .i64).V (p4.length : Int)), (kstr.V x2), (kstr.V x3)]) (bits := [0, 1, 3, 7, 0, 0, 32, 112, 240, 511, 1023]) (m := 9) (todo := 0) mx s20 ?_; clear s20
   refine goes_last (by kernel_rfl) rfl (oc (av 0 rfl rfl Av.nil) rfl rfl (mv rfl rfl) (oc (an 0 rfl rfl rfl Av.nil) rfl rfl (ob_nilCheck rfl (.tmp rfl)) (oc (an 1 rfl rfl rfl Av.nil) rfl rfl (ob_fieldAddr (off' := 0) rfl Tryd.underlying56 rfl sz41 (by decide) (.tmp rfl) rfl) (oc (an 2 rfl rfl rfl Av.nil) rfl rfl (ob_loadRowV rfl (tkr41 _) (.tmp rfl) (.tail _ (.tail _ (.tail _ (.tail _ (.head _))))) (lgo_cabalref13_Journal_0_D (⟨(), p1.Area, p1.L⟩ : cabalref13_Journal))) (oc (av 1 rfl rfl Av.nil) rfl rfl (mv rfl rfl) (oc (av 3 rfl rfl Av.nil) rfl rfl (mv rfl rfl) (oc (an 5 rfl rfl rfl Av.nil) rfl rfl (ob_lenStr rfl Tryd.underlying9 (.tmp rfl)) (oc (an 4 rfl rfl rfl (an 6 rfl rfl rfl Av.nil)) rfl rfl (ob_callD0 (args := [_, _]) rfl .direct hb16 (fun a w s => by exact c_cabalref13_Mark k _ _ _ e_x2 _ _ _ _ (s.arg (.tmp rfl)) (s.arg (.tmp rfl)))) (oc (an 7 rfl rfl rfl Av.nil) rfl rfl (ob_callD0 (args := [_, _]) rfl .direct hb47 (fun a w s => by exact c_cabalref13_filled k _ _ _ e_x3 _ _ _ _ (s.arg (.tmp rfl)) (s.arg (opd_int rfl)))) opsS_nil))))))))) (out_old (t := 0) rfl rfl (out_new (i := 3) (by decide) rfl rfl (out_new (i := 8) (by decide) rfl rfl out_nil))) fun _ _ s21 => ?_
   obtain ⟨x4, e_x4, h7⟩ := bind_some h6; clear h6
   refine qx (B' := (fun gg : Value × Value × Value => [BF b01 49 (ko_cabalref12_Disk_0_1_2 gg.1 gg.2.1 gg.2.2) (⟨[], [], [], x4.2.Fuse, x4.2.Dead⟩ : cabalref12_Disk), RowF gg.1 9 kstr x4.2.Firm, RowF gg.2.1 3 (kint .i64) x4.2.At, RowF gg.2.2 9 kstr x4.2.Data, BF b00 56 (ko_cabalref13_Journal_0 (.pointer (some ⟨b01, 0, none⟩))) (⟨(), p1.Area, p1.L⟩ : cabalref13_Journal)])) s21 rfl (ob_callL0 (args := [_, _, _]) (L := [_, _, _, _]) rfl .direct hb51 (List.Perm.refl _) (fun a w s => by exact c_cabalref12_Disk_Write k _ _ _ _ e_x4 _ _ _ _ _ _ _ _ _ (ownL s) (disL s) (nodL s) (s.arg (.tmp rfl)) (s.arg (opd_int rfl)) (s.arg (.tmp rfl))) (by exact fun _ => rfl)) fun gg22 _ _ s22 => ?_; clear s21
   obtain ⟨v7, v8, v9⟩ := gg22
   refine qs s22 (.c1 rfl (ob_neq rfl (.tmp rfl) (opd_int rfl)) (.ce (u 0 rfl (u 66 rfl .nil)))) fun _ _ s24 => wn hK8 ?_; clear s22
   refine cond_split s24 (.tmp rfl) (fun hc2 => ?_) (fun hc2 => ?_)
   ·have h8 := ite_t hc2 h7; clear h7
    refine wp_seq_k fun K9 hK9 => wp_region_lit (qs s24 (.c1 rfl (ob_assign rfl (opd_int rfl)) (.ce (u 8 rfl .nil))) fun _ _ s26 => wn hK9 ?_); clear s24
    refine wp_ret ?_
    have s27 := s26.perm (toFront [_, _, _, _] (toFront [] (toFront [] (toFront [] (toFront [] (List.Perm.refl _)))))); clear s26
    obtain rfl := Option.some.inj h8
    exact leaveXD (D := []) ⟨v7, v8, v9⟩ s27 rfl (.inl rfl) rfl (.cons (.tmp rfl) .nil) rfl
   ·have h9 := ite_f hc2 h7; clear h7
    refine wp_skip ?_
    refine then_normal (hK7 _ _ ?_)
    have s28 := s24.sub (u 0 rfl .nil); clear s24
    obtain ⟨x5, e_x5, h10⟩ := bind_some h9; clear h9
    refine wp_seq_k fun K10 hK10 => wp_region_lit (qs s28 (.c1 rfl (mv rfl rfl) (.c1 rfl (ob_nilCheck rfl (.tmp rfl)) (.c1 rfl (ob_fieldAddr (off' := 0) rfl Tryd.underlying56 rfl sz41 (by decide) (.tmp rfl) rfl) (.c1 rfl (ob_loadRowV rfl (tkr41 _) (.tmp rfl) (.tail _ (.tail _ (.tail _ (.tail _ (.head _))))) (lgo_cabalref13_Journal_0_D (⟨(), p1.Area, p1.L⟩ : cabalref13_Journal))) .cz)))) fun _ _ s32 => ?_); clear s28
    refine qx (B' := (fun gg : Value × Value × Value => [BF b01 49 (ko_cabalref12_Disk_0_1_2 gg.1 gg.2.1 gg.2.2) (⟨[], [], [], x5.2.Fuse, x5.2.Dead⟩ : cabalref12_Disk), RowF gg.1 9 kstr x5.2.Firm, RowF gg.2.1 3 (kint .i64) x5.2.At, RowF gg.2.2 9 kstr x5.2.Data, BF b00 56 (ko_cabalref13_Journal_0 (.pointer (some ⟨b01, 0, none⟩))) (⟨(), p1.Area, p1.L⟩ : cabalref13_Journal)])) s32 rfl (ob_callL0 (args := [_]) (L := [_, _, _, _]) rfl .direct hb52 (List.Perm.refl _) (fun a w s => by exact c_cabalref12_Disk_Sync k _ _ e_x5 _ _ _ _ _ _ _ (ownL s) (disL s) (nodL s) (s.arg (.tmp rfl))) (by exact fun _ => rfl)) fun gg33 _ _ s33 => ?_; clear s32
    obtain ⟨v10, v11, v12⟩ := gg33
    refine qs s33 (.c1 rfl (ob_assign rfl (.tmp rfl)) (.ce (u 8 rfl .nil))) fun _ _ s35 => wn hK10 ?_; clear s33
    refine wp_ret ?_
    have s36 := s35.perm (toFront [_, _, _, _] (toFront [] (toFront [] (toFront [] (toFront [] (List.Perm.refl _)))))); clear s35
    obtain rfl := Option.some.inj h10
    exact leaveXD (D := []) ⟨v10, v11, v12⟩ s36 rfl (.inl rfl) rfl (.cons (.tmp rfl) .nil) rfl
 refine wp_block ?_
 refine wp_loop_fuel (fun m (q : Int × Int × Bool × (List (List Int)) × (List Int) × (List (List Int))) => cabalref13_Journal_commit.l1 k p4 p2 p1 m q.1 q.2.1 q.2.2.1 q.2.2.2.1 q.2.2.2.2.1 q.2.2.2.2.2) r (fun _ => rfl) (fun q a w => ∃ (v13 : Value) (v14 : Value) (v15 : Value), St ⟨72, w0, ok, (idsOf [BF b00 56 (ko_cabalref13_Journal_0 (.pointer (some ⟨b01, 0, none⟩))) (⟨(), p1.Area, p1.L⟩ : cabalref13_Journal), BF b01 49 (ko_cabalref12_Disk_0_1_2 w1_0 w1_1 w1_2) (⟨[], [], [], p5.Fuse, p5.Dead⟩ : cabalref12_Disk), RowF w1_0 9 kstr p5.Firm, RowF w1_1 3 (kint .i64) p5.At, RowF w1_2 9 kstr p5.Data])⟩ [BF b00 56 (ko_cabalref13_Journal_0 (.pointer (some ⟨b01, 0, none⟩))) (⟨(), p1.Area, p1.L⟩ : cabalref13_Journal), BF b01 49 (ko_cabalref12_Disk_0_1_2 v13 v14 v15) (⟨[], [], [], q.2.1, q.2.2.1⟩ : cabalref12_Disk), RowF v13 9 kstr q.2.2.2.1, RowF v14 3 (kint .i64) q.2.2.2.2.1, RowF v15 9 kstr q.2.2.2.2.2] [(0, (ptrB b00 0)), (1, ((kint .i64).V p2)), (3, (kstr.V p4)), (9, ((kint .i64).V q.1))] a w) ?_ k ((imul .i64 (iquo .i64 p3 (256 : Int)) (256 : Int)), p5.Fuse, p5.Dead, p5.Firm, p5.At, p5.Data) _ _ h0 ⟨w1_0, w1_1, w1_2, (s8.sub (.cons rfl (.cons rfl (.cons rfl (.cons rfl .nil)))))⟩
 rintro n1 ⟨y6, y7, y8, y9, y10, y11⟩ a37 w37 h11 ⟨v13, v14, v15, s37⟩ K11 hK11
 replace h11 : cabalref13_Journal_commit.l1 k p4 p2 p1 (n1 + 1) y6 y7 y8 y9 y10 y11 = some r := h11; rw [cabalref13_Journal_commit.l1] at h11
 have h12 := h11; clear h11
 refine wp_seq_k fun K12 hK12 => wp_seq_k fun K13 hK13 => ?_
 refine wp_region_lit (qs s37 (.c1 rfl (mv rfl rfl) (.c1 rfl (mv rfl rfl) (.c1 rfl (ob_lenStr rfl Tryd.underlying9 (.tmp rfl)) (.c1 rfl (ob_lss rfl (.tmp rfl) (.tmp rfl)) (.ce (u 0 rfl (u 1 rfl (u 3 rfl (u 9 rfl (u 17 rfl .nil)))))))))) fun _ _ s42 => wn hK13 ?_); clear s37
 refine cond_split s42 (.tmp rfl) (fun hc3 => ?_) (fun hc3 => ?_)
 ·have h13 := ite_t hc3 h12; clear h12
  refine wp_skip ?_
  refine then_normal (hK12 _ _ ?_)
  have s43 := s42.sub (u 0 rfl (u 1 rfl (u 3 rfl (u 9 rfl .nil)))); clear s42
  refine wp_seq_k fun K14 hK14 => wp_block ?_
  refine wp_seq_k fun K15 hK15 => wp_region_lit (qs s43 (.c1 rfl (mv rfl rfl) (.c1 rfl (ob_add rfl (.tmp rfl) (opd_int rfl)) (.c1 rfl (ob_assign rfl (.tmp rfl)) (.ce (u 0 rfl (u 1 rfl (u 3 rfl (u 9 rfl (u 10 rfl .nil))))))))) fun _ _ s47 => wn hK15 ?_); clear s43
  refine wp_seq_k fun K16 hK16 => wp_seq_k fun K17 hK17 => ?_
  refine wp_region_lit (qs s47 (.c1 rfl (mv rfl rfl) (.c1 rfl (mv rfl rfl) (.c1 rfl (ob_lenStr rfl Tryd.underlying9 (.tmp rfl)) (.c1 rfl (ob_gtr rfl (.tmp rfl) (.tmp rfl)) (.ce (u 0 rfl (u 1 rfl (u 3 rfl (u 9 rfl (u 10 rfl (u 25 rfl .nil))))))))))) fun _ _ s52 => wn hK17 ?_); clear s47
  have hj2 : ∀ (y12 : Int) (a : Act) (w : World), (cabalref13_Journal_commit.j2 k y9 y10 y11 y7 y8 p2 y6 p4 p1 (cabalref13_Journal_commit.l1 k p4 p2 p1 n1)) y12 = some r → St ⟨72, w0, ok, (idsOf [BF b00 56 (ko_cabalref13_Journal_0 (.pointer (some ⟨b01, 0, none⟩))) (⟨(), p1.Area, p1.L⟩ : cabalref13_Journal), BF b01 49 (ko_cabalref12_Disk_0_1_2 w1_0 w1_1 w1_2) (⟨[], [], [], p5.Fuse, p5.Dead⟩ : cabalref12_Disk), RowF w1_0 9 kstr p5.Firm, RowF w1_1 3 (kint .i64) p5.At, RowF w1_2 9 kstr p5.Data])⟩ [BF b00 56 (ko_cabalref13_Journal_0 (.pointer (some ⟨b01, 0, none⟩))) (⟨(), p1.Area, p1.L⟩ : cabalref13_Journal), BF b01 49 (ko_cabalref12_Disk_0_1_2 v13 v14 v15) (⟨[], [], [], y7, y8⟩ : cabalref12_Disk), RowF v13 9 kstr y9, RowF v14 3 (kint .i64) y10, RowF v15 9 kstr y11] [(0, (ptrB b00 0)), (1, ((kint .i64).V p2)), (3, (kstr.V p4)), (9, ((kint .i64).V y6)), (10, ((kint .i64).V y12))] a w → K16 a w := by
   intro y12 a53 w53 h14 s53
   unfold cabalref13_Journal_commit.j2 at h14
   refine hK16 _ _ ?_
   refine wp_seq_k fun K18 hK18 => ?_
   obtain ⟨x6, e_x6, h15⟩ := bind_some h14; clear h14
   obtain ⟨x7, e_x7, h16⟩ := bind_some h15; clear h15; replace e_x7 := Option.some.inj e_x7
   obtain ⟨x8, e_x8, h17⟩ := bind_some h16; clear h16
   obtain ⟨x9, e_x9, h18⟩ := bind_some h17; clear h17
   refine wp_goes (Fs := [(ptrB b00 0), (ptrB b00 0), (ptrB b00 0), (ptrB b01 0), ((kint .i64).V p2), (ptrB b00 0), (ptrB b00 0), (ptrB b00 0), (ptrB b01 0), ((kint .i64).V x6), ((kint .i64).V (imul .i64 p2 x6)), ((kint .i64).V (iadd .i64 (1 : Int) (imul .i64 p2 x6))), ((kint .i64).V y6), ((kint .i64).V (iquo .i64 y6 (256 : Int))), ((kint .i64).V x7), (kstr.V p4), ((kint .i64).V y6), ((kint .i64).V y12), (kstr.V x8), (kstr.V x9)]) (bits := [0, 1, 3, 7, 0, 0, 32, 96, 224, 480, 1008, 2032, 0, 4096, 16368, 0, 0, 0, 229376, 492512, 1048575, 2097151]) (m := 20) (todo := 0) mx s53 ?_; clear s53
   refine goes_last (by kernel_rfl) rfl (oc (av 0 rfl rfl Av.nil) rfl rfl (mv rfl rfl) (oc (an 0 rfl rfl rfl Av.nil) rfl rfl (ob_nilCheck rfl (.tmp rfl)) (oc (an 1 rfl rfl rfl Av.nil) rfl rfl (ob_fieldAddr (off' := 0) rfl Tryd.underlying56 rfl sz41 (by decide) (.tmp rfl) rfl) (oc (an 2 rfl rfl rfl Av.nil) rfl rfl (ob_loadRowV rfl (tkr41 _) (.tmp rfl) (.head _) (lgo_cabalref13_Journal_0_D (⟨(), p1.Area, p1.L⟩ : cabalref13_Journal))) (oc (av 1 rfl rfl Av.nil) rfl rfl (mv rfl rfl) (oc (av 0 rfl rfl Av.nil) rfl rfl (mv rfl rfl) (oc (an 5 rfl rfl rfl Av.nil) rfl rfl (ob_nilCheck rfl (.tmp rfl)) (oc (an 6 rfl rfl rfl Av.nil) rfl rfl (ob_fieldAddr (off' := 0) rfl Tryd.underlying56 rfl sz41 (by decide) (.tmp rfl) rfl) (oc (an 7 rfl rfl rfl Av.nil) rfl rfl (ob_loadRowV rfl (tkr41 _) (.tmp rfl) (.head _) (lgo_cabalref13_Journal_0_D (⟨(), p1.Area, p1.L⟩ : cabalref13_Journal))) (oc (an 8 rfl rfl rfl Av.nil) rfl rfl ((ob_lendG (L := [_, _, _, _]) (toFront [_] (toFront [_] (toFront [_] (toFront [_] (List.Perm.refl _))))) (.cons (t := 36) rfl (lendObj (K' := k_cabalref12_Disk) (X' := (⟨y9, y10, y11, y7, y8⟩ : cabalref12_Disk)) (.head _) rfl (upo_cabalref12_Disk_0_1_2 rfl (.row (LetAll.row (.tail _ (.head _)))) (.row (LetAll.row (.tail _ (.tail _ (.head _))))) (.row (LetAll.row (.tail _ (.tail _ (.tail _ (.head _)))))))) .nil) (Flat.res1 (Flat.V (KFlat.int _))) (fun _ => ob_callD0 (args := [_]) rfl .direct hb18 (fun a w s => by exact c_cabalref13_Half k _ _ e_x6 _ _ _ (s.arg (.tmp rfl)))))) (oc (an 4 rfl rfl rfl (an 9 rfl rfl rfl Av.nil)) rfl rfl (ob_mul rfl (.tmp rfl) (.tmp rfl)) (oc (an 10 rfl rfl rfl Av.nil) rfl rfl (ob_add rfl (opd_int rfl) (.tmp rfl)) (oc (av 9 rfl rfl Av.nil) rfl rfl (mv rfl rfl) (oc (an 12 rfl rfl rfl Av.nil) rfl rfl (ob_quo rfl (.tmp rfl) (opd_int rfl) (by decide)) (oc (an 11 rfl rfl rfl (an 13 rfl rfl rfl Av.nil)) rfl rfl ((ob_add rfl (.tmp rfl) (.tmp rfl)).nm e_x7) (oc (av 3 rfl rfl Av.nil) rfl rfl (mv rfl rfl) (oc (av 9 rfl rfl Av.nil) rfl rfl (mv rfl rfl) (oc (av 10 rfl rfl Av.nil) rfl rfl (mv rfl rfl) (oc (an 15 rfl rfl rfl (an 16 rfl rfl rfl (an 17 rfl rfl rfl Av.nil))) rfl rfl (ob_cutStr rfl Tryd.underlying9 (.tmp rfl) (.some (.tmp rfl)) (.some (.tmp rfl)) e_x8) (oc (an 18 rfl rfl rfl Av.nil) rfl rfl (ob_callD0 (args := [_, _]) rfl .direct hb47 (fun a w s => by exact c_cabalref13_filled k _ _ _ e_x9 _ _ _ _ (s.arg (.tmp rfl)) (s.arg (opd_int rfl)))) opsS_nil)))))))))))))))))))) (out_old (t := 0) rfl rfl (out_old (t := 1) rfl rfl (out_old (t := 3) rfl rfl (out_old (t := 9) rfl rfl (out_new (i := 3) (by decide) rfl rfl (out_new (i := 14) (by decide) rfl rfl (out_new (i := 19) (by decide) rfl rfl out_nil))))))) fun _ _ s54 => ?_
   obtain ⟨x10, e_x10, h19⟩ := bind_some h18; clear h18
   refine qx (B' := (fun gg : Value × Value × Value => [BF b01 49 (ko_cabalref12_Disk_0_1_2 gg.1 gg.2.1 gg.2.2) (⟨[], [], [], x10.2.Fuse, x10.2.Dead⟩ : cabalref12_Disk), RowF gg.1 9 kstr x10.2.Firm, RowF gg.2.1 3 (kint .i64) x10.2.At, RowF gg.2.2 9 kstr x10.2.Data, BF b00 56 (ko_cabalref13_Journal_0 (.pointer (some ⟨b01, 0, none⟩))) (⟨(), p1.Area, p1.L⟩ : cabalref13_Journal)])) s54 rfl (ob_callL0 (args := [_, _, _]) (L := [_, _, _, _]) rfl .direct hb51 (toFront [_] (toFront [_] (toFront [_] (toFront [_] (List.Perm.refl _))))) (fun a w s => by exact c_cabalref12_Disk_Write k _ _ _ _ e_x10 _ _ _ _ _ _ _ _ _ (ownL s) (disL s) (nodL s) (s.arg (.tmp rfl)) (s.arg (.tmp rfl)) (s.arg (.tmp rfl))) (by exact fun _ => rfl)) fun gg55 _ _ s55 => ?_; clear s54
   obtain ⟨v16, v17, v18⟩ := gg55
   refine qs s55 (.c1 rfl (ob_neq rfl (.tmp rfl) (opd_int rfl)) (.ce (u 0 rfl (u 1 rfl (u 3 rfl (u 9 rfl (u 49 rfl .nil))))))) fun _ _ s57 => wn hK18 ?_; clear s55
   refine cond_split s57 (.tmp rfl) (fun hc4 => ?_) (fun hc4 => ?_)
   ·have h20 := ite_t hc4 h19; clear h19
    refine wp_seq_k fun K19 hK19 => wp_region_lit (qs s57 (.c1 rfl (ob_assign rfl (opd_int rfl)) (.ce (u 8 rfl .nil))) fun _ _ s59 => wn hK19 ?_); clear s57
    refine wp_ret ?_
    have s60 := s59.perm (toFront [_, _, _, _] (toFront [] (toFront [] (toFront [] (toFront [] (List.Perm.refl _)))))); clear s59
    obtain rfl := Option.some.inj h20
    exact leaveXD (D := []) ⟨v16, v17, v18⟩ s60 rfl (.inl rfl) rfl (.cons (.tmp rfl) .nil) rfl
   ·have h21 := ite_f hc4 h19; clear h19
    refine wp_skip ?_
    refine in_normal ?_
    refine then_normal (hK14 _ _ ?_)
    have s61 := s57.sub (u 0 rfl (u 1 rfl (u 3 rfl (u 9 rfl .nil)))); clear s57
    refine wp_region_lit (qs s61 (.c1 rfl (mv rfl rfl) (.c1 rfl (ob_add rfl (.tmp rfl) (opd_int rfl)) (.c1 rfl (ob_assign rfl (.tmp rfl)) .cz))) fun _ _ s64 => ?_); clear s61
    refine wpList_nil ?_
    refine then_normal ?_
    have s65 := s64.perm (toFront [_, _, _, _] (toFront [] (toFront [] (toFront [] (toFront [] (List.Perm.refl _)))))); clear s64
    exact hK11 ((iadd .i64 y6 (256 : Int)), x10.2.Fuse, x10.2.Dead, x10.2.Firm, x10.2.At, x10.2.Data) _ _ h21 ⟨v16, v17, v18, (s65.sub (.cons rfl (.cons rfl (.cons rfl (.cons rfl .nil)))))⟩
  refine cond_split s52 (.tmp rfl) (fun hc5 => ?_) (fun hc5 => ?_)
  ·have h22 := ite_t hc5 h13; clear h13
   refine wp_region_lit (qs s52 (.c1 rfl (mv rfl rfl) (.c1 rfl (ob_lenStr rfl Tryd.underlying9 (.tmp rfl)) (.c1 rfl (ob_assign rfl (.tmp rfl)) .cz))) fun _ _ s68 => ?_); clear s52
   refine wpList_nil ?_
   refine then_normal ?_
   exact hj2 (p4.length : Int) _ _ h22 (s68.sub (.cons rfl (.cons rfl (.cons rfl (.cons rfl (.cons rfl .nil))))))
  ·have h23 := ite_f hc5 h13; clear h13
   refine wp_skip ?_
   refine then_normal ?_
   exact hj2 (iadd .i64 y6 (256 : Int)) _ _ h23 (s52.sub (.cons rfl (.cons rfl (.cons rfl (.cons rfl (.cons rfl .nil))))))
 ·have h24 := ite_f hc3 h12; clear h12
  refine wp_exit ?_
  refine (then_exit (then_exit (in_here ?_)))
  refine then_normal ?_
  exact hj1 y7 y8 y9 y10 y11 v13 v14 v15 _ _ h24 (s42.sub (.cons rfl (.cons rfl (.cons rfl .nil))))
theorem c_cabalref13_Journal_Append (k : Nat) (p1 : cabalref13_Journal) (p2 : (List (List Int))) (p3 : cabalref12_Disk) (r : (Int × cabalref13_Journal × cabalref12_Disk)) (h0 : cabalref13_Journal_Append k p1 p2 p3 = some r) (ok : Ok) (w0 : World) (z0 : Value) (z1 : Value) (b00 : Nat) (b01 : Nat) (w1_0 : Value) (w1_1 : Value) (w1_2 : Value) (l0 : ∀ q, q ∈ [BF b00 56 (ko_cabalref13_Journal_0 (.pointer (some ⟨b01, 0, none⟩))) (⟨(), p1.Area, p1.L⟩ : cabalref13_Journal), BF b01 49 (ko_cabalref12_Disk_0_1_2 w1_0 w1_1 w1_2) (⟨[], [], [], p3.Fuse, p3.Dead⟩ : cabalref12_Disk), RowF w1_0 9 kstr p3.Firm, RowF w1_1 3 (kint .i64) p3.At, RowF w1_2 9 kstr p3.Data] → q.holds ok w0) (d0 : ∀ c, c ∈ idsOf [BF b00 56 (ko_cabalref13_Journal_0 (.pointer (some ⟨b01, 0, none⟩))) (⟨(), p1.Area, p1.L⟩ : cabalref13_Journal), BF b01 49 (ko_cabalref12_Disk_0_1_2 w1_0 w1_1 w1_2) (⟨[], [], [], p3.Fuse, p3.Dead⟩ : cabalref12_Disk), RowF w1_0 9 kstr p3.Firm, RowF w1_1 3 (kint .i64) p3.At, RowF w1_2 9 kstr p3.Data] → ¬ ok c) (nd : (idsOf [BF b00 56 (ko_cabalref13_Journal_0 (.pointer (some ⟨b01, 0, none⟩))) (⟨(), p1.Area, p1.L⟩ : cabalref13_Journal), BF b01 49 (ko_cabalref12_Disk_0_1_2 w1_0 w1_1 w1_2) (⟨[], [], [], p3.Fuse, p3.Dead⟩ : cabalref12_Disk), RowF w1_0 9 kstr p3.Firm, RowF w1_1 3 (kint .i64) p3.At, RowF w1_2 9 kstr p3.Data]).Nodup) (u0 : (ptrB b00 0).holds ok w0 z0) (u1 : ((ksl kstr).V p2).holds ok w0 z1) :
 GivesX Tryd.prog 24 [z0, z1] ok w0 [BF b00 56 (ko_cabalref13_Journal_0 (.pointer (some ⟨b01, 0, none⟩))) (⟨(), p1.Area, p1.L⟩ : cabalref13_Journal), BF b01 49 (ko_cabalref12_Disk_0_1_2 w1_0 w1_1 w1_2) (⟨[], [], [], p3.Fuse, p3.Dead⟩ : cabalref12_Disk), RowF w1_0 9 kstr p3.Firm, RowF w1_1 3 (kint .i64) p3.At, RowF w1_2 9 kstr p3.Data] (fun g : Value × Value × Value => resFact [(kint .i64).V r.1]) (fun g : Value × Value × Value => [BF b00 56 (ko_cabalref13_Journal_0 (.pointer (some ⟨b01, 0, none⟩))) (⟨(), r.2.1.Area, r.2.1.L⟩ : cabalref13_Journal), BF b01 49 (ko_cabalref12_Disk_0_1_2 (g.1) (g.2.1) (g.2.2)) (⟨[], [], [], r.2.2.Fuse, r.2.2.Dead⟩ : cabalref12_Disk), RowF (g.1) 9 kstr r.2.2.Firm, RowF (g.2.1) 3 (kint .i64) r.2.2.At, RowF (g.2.2) 9 kstr r.2.2.Data]) := by
 unfold cabalref13_Journal_Append at h0
 refine enterX (N := 51) Tryd.func24 rfl rfl (of_decide_eq_true rfl) (.cons u0 (.cons u1 .nil)) nd l0 d0 fun a1 s1 => ?_
 refine wp_seq_k fun K1 hK1 => wp_region_lit (qs s1 (.c1 rfl (ob_assign rfl (opd_int rfl)) (.ce (u 0 rfl (u 1 rfl .nil)))) fun _ _ s3 => wn hK1 ?_); clear s1
 refine wp_seq_k fun K2 hK2 => wp_seq_k fun K3 hK3 => ?_
 obtain ⟨x1, e_x1, h1⟩ := bind_some h0; clear h0
 refine wp_region_lit (qs s3 (.c1 rfl (mv rfl rfl) (.c1 rfl (ob_callD0 (args := [_]) rfl .direct hb56 (fun a w s => by exact c_cabalref13_long k _ _ e_x1 _ _ _ (s.arg (.tmp rfl)))) (.ce (u 0 rfl (u 1 rfl (u 9 rfl .nil)))))) fun _ _ s6 => wn hK3 ?_); clear s3
 refine cond_split s6 (.tmp rfl) (fun hc1 => ?_) (fun hc1 => ?_)
 ·have h2 := ite_t hc1 h1; clear h1
  refine wp_seq_k fun K4 hK4 => wp_region_lit (qs s6 (.c1 rfl (ob_assign rfl (opd_int rfl)) (.ce (u 4 rfl .nil))) fun _ _ s8 => wn hK4 ?_); clear s6
  refine wp_ret ?_
  obtain rfl := Option.some.inj h2
  exact leaveXD (D := []) ⟨w1_0, w1_1, w1_2⟩ s8 rfl (.inl rfl) rfl (.cons (.tmp rfl) .nil) rfl
 ·have h3 := ite_f hc1 h1; clear h1
  refine wp_skip ?_
  refine then_normal (hK2 _ _ ?_)
  have s9 := s6.sub (u 0 rfl (u 1 rfl .nil)); clear s6
  refine wp_seq_k fun K5 hK5 => wp_seq_k fun K6 hK6 => ?_
  obtain ⟨x2, e_x2, h4⟩ := bind_some h3; clear h3
  obtain ⟨x3, e_x3, h5⟩ := bind_some h4; clear h4
  refine wp_region_lit (qs s9 (.c1 rfl (mv rfl rfl) (.c1 rfl (ob_callD0 (args := [_]) rfl .direct hb15 (fun a w s => by exact c_cabalref13_Bytes k _ _ e_x2 _ _ _ (s.arg (.tmp rfl)))) (.c1 rfl (ob_lenStr rfl Tryd.underlying9 (.tmp rfl)) (.c1 rfl (mv rfl rfl) .cz)))) fun _ _ s13 => ?_); clear s9
  refine qx (B' := (fun _ : Unit => [BF b00 56 (ko_cabalref13_Journal_0 (.pointer (some ⟨b01, 0, none⟩))) (⟨(), p1.Area, p1.L⟩ : cabalref13_Journal), BF b01 49 (ko_cabalref12_Disk_0_1_2 w1_0 w1_1 w1_2) (⟨[], [], [], p3.Fuse, p3.Dead⟩ : cabalref12_Disk), RowF w1_0 9 kstr p3.Firm, RowF w1_1 3 (kint .i64) p3.At, RowF w1_2 9 kstr p3.Data])) s13 rfl (ob_callL0 (args := [_]) (L := [_, _, _, _, _]) rfl .direct hb22 (List.Perm.refl _) (fun a w s => by exact c_cabalref13_Journal_Room k _ _ _ e_x3 _ _ _ _ _ _ _ _ (ownL s) (disL s) (nodL s) (s.arg (.tmp rfl))) (by exact fun _ => rfl)) fun _ _ _ s14 => ?_; clear s13
  refine qs s14 (.c1 rfl (ob_gtr rfl (.tmp rfl) (.tmp rfl)) (.ce (u 0 rfl (u 1 rfl (u 15 rfl .nil))))) fun _ _ s16 => wn hK6 ?_; clear s14
  refine cond_split s16 (.tmp rfl) (fun hc2 => ?_) (fun hc2 => ?_)
  ·have h6 := ite_t hc2 h5; clear h5
   refine wp_seq_k fun K7 hK7 => wp_region_lit (qs s16 (.c1 rfl (ob_assign rfl (opd_int rfl)) (.ce (u 4 rfl .nil))) fun _ _ s18 => wn hK7 ?_); clear s16
   refine wp_ret ?_
   obtain rfl := Option.some.inj h6
   exact leaveXD (D := []) ⟨w1_0, w1_1, w1_2⟩ s18 rfl (.inl rfl) rfl (.cons (.tmp rfl) .nil) rfl
  ·have h7 := ite_f hc2 h5; clear h5
   refine wp_skip ?_
   refine then_normal (hK5 _ _ ?_)
   have s19 := s16.sub (u 0 rfl (u 1 rfl .nil)); clear s16
   refine wp_seq_k fun K8 hK8 => wp_seq_k fun K9 hK9 => ?_
   refine wp_region_lit (qs s19 (.c1 rfl (mv rfl rfl) (.c1 rfl (ob_lens rfl Tryd.underlying30 (.tmp rfl)) (.c1 rfl (ob_eql rfl (.tmp rfl) (opd_int rfl)) (.ce (u 0 rfl (u 1 rfl (u 18 rfl .nil))))))) fun _ _ s23 => wn hK9 ?_); clear s19
   refine cond_split s23 (.tmp rfl) (fun hc3 => ?_) (fun hc3 => ?_)
   ·have h8 := ite_t hc3 h7; clear h7
    refine wp_seq_k fun K10 hK10 => wp_region_lit (qs s23 (.c1 rfl (ob_assign rfl (opd_int rfl)) (.ce (u 4 rfl .nil))) fun _ _ s25 => wn hK10 ?_); clear s23
    refine wp_ret ?_
    obtain rfl := Option.some.inj h8
    exact leaveXD (D := []) ⟨w1_0, w1_1, w1_2⟩ s25 rfl (.inl rfl) rfl (.cons (.tmp rfl) .nil) rfl
   ·have h9 := ite_f hc3 h7; clear h7
    refine wp_skip ?_
    refine then_normal (hK8 _ _ ?_)
    have s26 := s23.sub (u 0 rfl (u 1 rfl .nil)); clear s23
    obtain ⟨x4, e_x4, h10⟩ := bind_some h9; clear h9
    refine wp_seq_k fun K11 hK11 => wp_region_lit (qs s26 (.c1 rfl (mv rfl rfl) (.c1 rfl (ob_nilCheck rfl (.tmp rfl)) (.c1 rfl (ob_fieldAddr (off' := 2) rfl Tryd.underlying56 rfl sz30 (by decide) (.tmp rfl) rfl) (.c1 rfl (ob_load rfl tk30 (.tmp rfl) (.head _) (lgo_cabalref13_Journal_0_L (⟨(), p1.Area, p1.L⟩ : cabalref13_Journal))) (.c1 rfl (ob_callD0 (args := [_]) rfl .direct hb15 (fun a w s => by exact c_cabalref13_Bytes k _ _ e_x4 _ _ _ (s.arg (.tmp rfl)))) (.c1 rfl (ob_assign rfl (.tmp rfl)) (.ce (u 0 rfl (u 1 rfl (u 5 rfl .nil)))))))))) fun _ _ s33 => wn hK11 ?_); clear s26
    refine wp_seq_k fun K12 hK12 => ?_
    obtain ⟨x5, e_x5, h11⟩ := bind_some h10; clear h10
    obtain ⟨g1, h12⟩ := guard_some h11; clear h11
    refine wp_goes (Fs := [(ptrB b00 0), (ptrB b00 0), (ptrB b00 0), (ptrB b00 1), ((kint .i64).V p1.Area), (kstr.V x4), ((kint .i64).V (x4.length : Int)), (kstr.V x4), ((ksl kstr).V p2), (kstr.V x5), (kstr.V (x4 ++ x5))]) (bits := [0, 0, 2, 6, 14, 0, 32, 0, 0, 256, 896, 2047, 4095]) (m := 11) (todo := 0) mx s33 ?_; clear s33
    refine goes_last (by kernel_rfl) rfl (oc (av 0 rfl rfl Av.nil) rfl rfl (mv rfl rfl) (oc (av 0 rfl rfl Av.nil) rfl rfl (mv rfl rfl) (oc (an 1 rfl rfl rfl Av.nil) rfl rfl (ob_nilCheck rfl (.tmp rfl)) (oc (an 2 rfl rfl rfl Av.nil) rfl rfl (ob_fieldAddr (off' := 1) rfl Tryd.underlying56 rfl sz3 (by decide) (.tmp rfl) rfl) (oc (an 3 rfl rfl rfl Av.nil) rfl rfl (ob_load rfl tk3 (.tmp rfl) (.head _) (lgo_cabalref13_Journal_0_Area (⟨(), p1.Area, p1.L⟩ : cabalref13_Journal))) (oc (av 5 rfl rfl Av.nil) rfl rfl (mv rfl rfl) (oc (an 5 rfl rfl rfl Av.nil) rfl rfl (ob_lenStr rfl Tryd.underlying9 (.tmp rfl)) (oc (av 5 rfl rfl Av.nil) rfl rfl (mv rfl rfl) (oc (av 1 rfl rfl Av.nil) rfl rfl (mv rfl rfl) (oc (an 8 rfl rfl rfl Av.nil) rfl rfl (ob_callD0 (args := [_]) rfl .direct hb15 (fun a w s => by exact c_cabalref13_Bytes k _ _ e_x5 _ _ _ (s.arg (.tmp rfl)))) (oc (an 7 rfl rfl rfl (an 9 rfl rfl rfl Av.nil)) rfl rfl (ob_cat rfl (.tmp rfl) (.tmp rfl) g1) opsS_nil))))))))))) (out_old (t := 0) rfl rfl (out_old (t := 1) rfl rfl (out_new (i := 0) (by decide) rfl rfl (out_new (i := 4) (by decide) rfl rfl (out_new (i := 6) (by decide) rfl rfl (out_new (i := 10) (by decide) rfl rfl out_nil)))))) fun _ _ s34 => ?_
    obtain ⟨x6, e_x6, h13⟩ := bind_some h12; clear h12
    refine qx (B' := (fun gg : Value × Value × Value => [BF b00 56 (ko_cabalref13_Journal_0 (.pointer (some ⟨b01, 0, none⟩))) (⟨(), x6.2.1.Area, x6.2.1.L⟩ : cabalref13_Journal), BF b01 49 (ko_cabalref12_Disk_0_1_2 gg.1 gg.2.1 gg.2.2) (⟨[], [], [], x6.2.2.Fuse, x6.2.2.Dead⟩ : cabalref12_Disk), RowF gg.1 9 kstr x6.2.2.Firm, RowF gg.2.1 3 (kint .i64) x6.2.2.At, RowF gg.2.2 9 kstr x6.2.2.Data])) s34 rfl (ob_callL0 (args := [_, _, _, _]) (L := [_, _, _, _, _]) rfl .direct hb57 (List.Perm.refl _) (fun a w s => by exact c_cabalref13_Journal_commit k _ _ _ _ _ _ e_x6 _ _ _ _ _ _ _ _ _ _ _ (ownL s) (disL s) (nodL s) (s.arg (.tmp rfl)) (s.arg (.tmp rfl)) (s.arg (.tmp rfl)) (s.arg (.tmp rfl))) (by exact fun _ => rfl)) fun gg35 _ _ s35 => ?_; clear s34
    obtain ⟨v1, v2, v3⟩ := gg35
    refine qs s35 (.c1 rfl (ob_assign rfl (.tmp rfl)) (.ce (u 0 rfl (u 1 rfl (u 6 rfl .nil))))) fun _ _ s37 => wn hK12 ?_; clear s35
    refine wp_seq_k fun K13 hK13 => wp_seq_k fun K14 hK14 => ?_
    refine wp_region_lit (qs s37 (.c1 rfl (mv rfl rfl) (.c1 rfl (ob_eql rfl (.tmp rfl) (opd_int rfl)) (.ce (u 0 rfl (u 1 rfl (u 6 rfl (u 37 rfl .nil))))))) fun _ _ s40 => wn hK14 ?_); clear s37
    have hj1 : ∀ (y1 : (List (List Int))) (a : Act) (w : World), (cabalref13_Journal_Append.j1 k x6) y1 = some r → St ⟨51, w0, ok, (idsOf [BF b00 56 (ko_cabalref13_Journal_0 (.pointer (some ⟨b01, 0, none⟩))) (⟨(), p1.Area, p1.L⟩ : cabalref13_Journal), BF b01 49 (ko_cabalref12_Disk_0_1_2 w1_0 w1_1 w1_2) (⟨[], [], [], p3.Fuse, p3.Dead⟩ : cabalref12_Disk), RowF w1_0 9 kstr p3.Firm, RowF w1_1 3 (kint .i64) p3.At, RowF w1_2 9 kstr p3.Data])⟩ [BF b00 56 (ko_cabalref13_Journal_0 (.pointer (some ⟨b01, 0, none⟩))) (⟨(), x6.2.1.Area, y1⟩ : cabalref13_Journal), BF b01 49 (ko_cabalref12_Disk_0_1_2 v1 v2 v3) (⟨[], [], [], x6.2.2.Fuse, x6.2.2.Dead⟩ : cabalref12_Disk), RowF v1 9 kstr x6.2.2.Firm, RowF v2 3 (kint .i64) x6.2.2.At, RowF v3 9 kstr x6.2.2.Data] [(6, ((kint .i64).V x6.1))] a w → K13 a w := by
     intro y1 a41 w41 h14 s41
     unfold cabalref13_Journal_Append.j1 at h14
     refine hK13 _ _ ?_
     refine wp_seq_k fun K15 hK15 => wp_region_lit (qs s41 (.c1 rfl (mv rfl rfl) (.c1 rfl (ob_assign rfl (.tmp rfl)) (.ce (u 4 rfl .nil)))) fun _ _ s44 => wn hK15 ?_); clear s41
     refine wp_ret ?_
     obtain rfl := Option.some.inj h14
     exact leaveXD (D := []) ⟨v1, v2, v3⟩ s44 rfl (.inl rfl) rfl (.cons (.tmp rfl) .nil) rfl
    refine cond_split s40 (.tmp rfl) (fun hc4 => ?_) (fun hc4 => ?_)
    ·have h15 := ite_t hc4 h13; clear h13
     refine wp_seq_k fun K16 hK16 => wp_region_lit (qs s40 (.c1 rfl (ob_assign rfl opd_is) .cz) fun _ _ s45 => ?_); clear s40
     have s46 := St.adopt s45 (G := RowF (nilRow 17) 9 kstr []) rfl (rowNilN _ _ _ _ _); clear s45
     refine wn hK16 ?_
     have s47 := s46.sub (u 0 rfl (u 1 rfl (u 6 rfl (u 7 rfl .nil)))); clear s46
     obtain ⟨g2, h16⟩ := guard_some h15; clear h15
     refine wp_seq_k fun K17 hK17 => wp_region_lit (qs s47 (.c1 rfl (mv rfl rfl) (.c1 rfl (mv rfl rfl) (.c1 rfl (ob_nilCheck rfl (.tmp rfl)) (.c1 rfl (ob_fieldAddr (off' := 2) rfl Tryd.underlying56 rfl sz30 (by decide) (.tmp rfl) rfl) (.c1 rfl (ob_load rfl tk30 (.tmp rfl) (.tail _ (.head _)) (lgo_cabalref13_Journal_0_L (⟨(), x6.2.1.Area, x6.2.1.L⟩ : cabalref13_Journal))) .cz))))) fun _ _ s52 => ?_); clear s47
     refine qx (B' := (fun v4 : Value => [RowF v4 9 kstr (([] : (List (List Int))) ++ x6.2.1.L), BF b00 56 (ko_cabalref13_Journal_0 (.pointer (some ⟨b01, 0, none⟩))) (⟨(), x6.2.1.Area, x6.2.1.L⟩ : cabalref13_Journal), BF b01 49 (ko_cabalref12_Disk_0_1_2 v1 v2 v3) (⟨[], [], [], x6.2.2.Fuse, x6.2.2.Dead⟩ : cabalref12_Disk), RowF v1 9 kstr x6.2.2.Firm, RowF v2 3 (kint .i64) x6.2.2.At, RowF v3 9 kstr x6.2.2.Data])) s52 rfl (ob_appendL2 (A := []) rfl Tryd.underlying30 ap9 Zr.str (by decide) (.tmp rfl) (.tmp rfl) rfl g2) fun v4 _ _ s53 => ?_; clear s52
     refine qs s53 (.c1 rfl (ob_assign rfl (.tmp rfl)) (.ce (u 0 rfl (u 1 rfl (u 6 rfl (u 7 rfl .nil)))))) fun _ _ s55 => wn hK17 ?_; clear s53
     obtain ⟨g3, h17⟩ := guard_some h16; clear h16
     refine wp_region_lit (qs s55 (.c1 rfl (mv rfl rfl) (.c1 rfl (mv rfl rfl) (.c1 rfl (mv rfl rfl) .cz))) fun _ _ s58 => ?_); clear s55
     refine qx (B' := (fun v5 : Value => [RowF v5 9 kstr ((([] : (List (List Int))) ++ x6.2.1.L) ++ p2), BF b00 56 (ko_cabalref13_Journal_0 (.pointer (some ⟨b01, 0, none⟩))) (⟨(), x6.2.1.Area, x6.2.1.L⟩ : cabalref13_Journal), BF b01 49 (ko_cabalref12_Disk_0_1_2 v1 v2 v3) (⟨[], [], [], x6.2.2.Fuse, x6.2.2.Dead⟩ : cabalref12_Disk), RowF v1 9 kstr x6.2.2.Firm, RowF v2 3 (kint .i64) x6.2.2.At, RowF v3 9 kstr x6.2.2.Data])) s58 rfl (ob_appendL2 (A := []) rfl Tryd.underlying30 ap9 Zr.str (by decide) (.tmp rfl) (.tmp rfl) rfl g3) fun v5 _ _ s59 => ?_; clear s58
     refine qs s59 (.c1 rfl (ob_nilCheck rfl (.tmp rfl)) (.c1 rfl (ob_fieldAddr (off' := 2) rfl Tryd.underlying56 rfl sz30 (by decide) (.tmp rfl) rfl) .cz)) fun _ _ s61 => ?_; clear s59
     have s62 := St.freezeAllM (A := []) s61 (ts := [47]) (.cons rfl .nil); clear s61
     refine seq_opx0 (B' := (fun _ : Unit => [BF b00 56 (ko_cabalref13_Journal_0 (.pointer (some ⟨b01, 0, none⟩))) (⟨(), x6.2.1.Area, ((([] : (List (List Int))) ++ x6.2.1.L) ++ p2)⟩ : cabalref13_Journal), BF b01 49 (ko_cabalref12_Disk_0_1_2 v1 v2 v3) (⟨[], [], [], x6.2.2.Fuse, x6.2.2.Dead⟩ : cabalref12_Disk), RowF v1 9 kstr x6.2.2.Firm, RowF v2 3 (kint .i64) x6.2.2.At, RowF v3 9 kstr x6.2.2.Data])) s62 rfl rfl (ob_store (A := []) rfl tk30 (.tmp rfl) (.tmp rfl) rfl (lso_cabalref13_Journal_0_L (⟨(), x6.2.1.Area, x6.2.1.L⟩ : cabalref13_Journal) ((([] : (List (List Int))) ++ x6.2.1.L) ++ p2)) rfl) fun _ a63 w63 s63 => ?_; clear s62
     refine wpList_nil ?_
     refine then_normal ?_
     exact hj1 ((([] : (List (List Int))) ++ x6.2.1.L) ++ p2) _ _ h17 (s63.sub (.cons rfl .nil))
    ·have h18 := ite_f hc4 h13; clear h13
     refine wp_skip ?_
     refine then_normal ?_
     exact hj1 x6.2.1.L _ _ h18 (s40.sub (.cons rfl .nil))
theorem c_journal_Journal_Snap (k : Nat) (p1 : journal_Journal) (p2 : (List Int)) (p3 : disk_Disk) (r : (Int × journal_Journal × disk_Disk)) (h0 : journal_Journal_Snap k p1 p2 p3 = some r) (ok : Ok) (w0 : World) (gl0 : (ptrTo (karr 8 (kint .u32)) G_digest_first).holds ok w0 (.pointer (some ⟨0, 0, none⟩))) (gl1 : (ptrTo (karr 64 (kint .u32)) G_digest_rounds).holds ok w0 (.pointer (some ⟨1, 0, none⟩))) (z0 : Value) (z1 : Value) (b00 : Nat) (b01 : Nat) (w1_0 : Value) (w1_1 : Value) (l0 : ∀ q, q ∈ [BF b00 70 (ko_journal_Journal_0 (.pointer (some ⟨b01, 0, none⟩))) (⟨(), p1.area, p1.bytes, p1.l⟩ : journal_Journal), BF b01 68 (ko_disk_Disk_0_1 w1_0 w1_1) (⟨[], [], p3.fuse, p3.dead⟩ : disk_Disk), RowF w1_0 100 (karr 256 (kint .u8)) p3.firm, RowF w1_1 102 k_disk_write p3.loose] → q.holds ok w0) (d0 : ∀ c, c ∈ idsOf [BF b00 70 (ko_journal_Journal_0 (.pointer (some ⟨b01, 0, none⟩))) (⟨(), p1.area, p1.bytes, p1.l⟩ : journal_Journal), BF b01 68 (ko_disk_Disk_0_1 w1_0 w1_1) (⟨[], [], p3.fuse, p3.dead⟩ : disk_Disk), RowF w1_0 100 (karr 256 (kint .u8)) p3.firm, RowF w1_1 102 k_disk_write p3.loose] → ¬ ok c) (nd : (idsOf [BF b00 70 (ko_journal_Journal_0 (.pointer (some ⟨b01, 0, none⟩))) (⟨(), p1.area, p1.bytes, p1.l⟩ : journal_Journal), BF b01 68 (ko_disk_Disk_0_1 w1_0 w1_1) (⟨[], [], p3.fuse, p3.dead⟩ : disk_Disk), RowF w1_0 100 (karr 256 (kint .u8)) p3.firm, RowF w1_1 102 k_disk_write p3.loose]).Nodup) (u0 : (ptrB b00 0).holds ok w0 z0) (u1 : (kstr.V p2).holds ok w0 z1) :
 GivesX Tryd.prog 21 [z0, z1] ok w0 [BF b00 70 (ko_journal_Journal_0 (.pointer (some ⟨b01, 0, none⟩))) (⟨(), p1.area, p1.bytes, p1.l⟩ : journal_Journal), BF b01 68 (ko_disk_Disk_0_1 w1_0 w1_1) (⟨[], [], p3.fuse, p3.dead⟩ : disk_Disk), RowF w1_0 100 (karr 256 (kint .u8)) p3.firm, RowF w1_1 102 k_disk_write p3.loose] (fun g : Value × Value => resFact [(kint .i64).V r.1]) (fun g : Value × Value => [BF b00 70 (ko_journal_Journal_0 (.pointer (some ⟨b01, 0, none⟩))) (⟨(), r.2.1.area, r.2.1.bytes, r.2.1.l⟩ : journal_Journal), BF b01 68 (ko_disk_Disk_0_1 (g.1) (g.2)) (⟨[], [], r.2.2.fuse, r.2.2.dead⟩ : disk_Disk), RowF (g.1) 100 (karr 256 (kint .u8)) r.2.2.firm, RowF (g.2) 102 k_disk_write r.2.2.loose]) := by
 unfold journal_Journal_Snap at h0
 refine enterX (N := 51) Tryd.func21 rfl rfl (of_decide_eq_true rfl) (.cons u0 (.cons u1 .nil)) nd l0 d0 fun a1 s1 => ?_
 have s2 := s1.keepKnown 100000 gl0 (okInX (L := [BF b00 70 (ko_journal_Journal_0 (.pointer (some ⟨b01, 0, none⟩))) (⟨(), p1.area, p1.bytes, p1.l⟩ : journal_Journal), BF b01 68 (ko_disk_Disk_0_1 w1_0 w1_1) (⟨[], [], p3.fuse, p3.dead⟩ : disk_Disk), RowF w1_0 100 (karr 256 (kint .u8)) p3.firm, RowF w1_1 102 k_disk_write p3.loose]) d0); clear s1
 have s3 := s2.keepKnown 100001 gl1 (okInX (L := [BF b00 70 (ko_journal_Journal_0 (.pointer (some ⟨b01, 0, none⟩))) (⟨(), p1.area, p1.bytes, p1.l⟩ : journal_Journal), BF b01 68 (ko_disk_Disk_0_1 w1_0 w1_1) (⟨[], [], p3.fuse, p3.dead⟩ : disk_Disk), RowF w1_0 100 (karr 256 (kint .u8)) p3.firm, RowF w1_1 102 k_disk_write p3.loose]) d0); clear s2
 refine wp_seq_k fun K1 hK1 => wp_region_lit (qs s3 (.c1 rfl (ob_assign rfl (opd_int rfl)) (.ce (u 0 rfl (u 1 rfl (u 100000 rfl (u 100001 rfl .nil)))))) fun _ _ s5 => wn hK1 ?_); clear s3
 refine wp_seq_k fun K2 hK2 => wp_region_lit ?_
 have s6 := St.adopt s5 (G := RowF (nilRow 18) 5 (kint .u8) []) rfl (rowNilN _ _ _ _ _); clear s5
 refine qx (B' := (fun b1 : Nat => [BF b1 79 (ko_wire_Writer_0 (nilRow 18)) (⟨[]⟩ : wire_Writer), RowF (nilRow 18) 5 (kint .u8) ([] : (List Int)), BF b00 70 (ko_journal_Journal_0 (.pointer (some ⟨b01, 0, none⟩))) (⟨(), p1.area, p1.bytes, p1.l⟩ : journal_Journal), BF b01 68 (ko_disk_Disk_0_1 w1_0 w1_1) (⟨[], [], p3.fuse, p3.dead⟩ : disk_Disk), RowF w1_0 100 (karr 256 (kint .u8)) p3.firm, RowF w1_1 102 k_disk_write p3.loose])) s6 rfl (ob_new (k := (ko_wire_Writer_0 (nilRow 18))) rfl zz79 (Zr.iso (f := to_wire_Writer_0) (x := (⟨[]⟩ : wire_Writer)) (Zr.pair (Zr.kis 18) Zr.nil))) fun b1 _ _ s7 => ?_; clear s6
 refine wn hK2 ?_
 have s8 := s7.sub (u 0 rfl (u 1 rfl (u 5 rfl (u 100000 rfl (u 100001 rfl .nil))))); clear s7
 obtain ⟨x1, e_x1, h1⟩ := bind_some h0; clear h0
 refine wp_seq_k fun K3 hK3 => wp_region_lit (qs s8 (.c1 rfl (mv rfl rfl) (.c1 rfl (ob_mkSlice (k := kstr) (xs := ([p2] : (List (List Int)))) rfl Tryd.underlying30 zz9 sz9 Zr.str (by decide) (by decide) (.cons (.tmp rfl) rfl (LS.arr' (i := 0) (ys := ([p2] : (List (List Int)))) (by simp) (by rfl)) (.nil _))) .cz)) fun _ _ s10 => ?_); clear s8
 refine qx (B' := (fun v1 : Value => [BF b1 79 (ko_wire_Writer_0 v1) (⟨[]⟩ : wire_Writer), RowF v1 5 (kint .u8) x1.out, BF b00 70 (ko_journal_Journal_0 (.pointer (some ⟨b01, 0, none⟩))) (⟨(), p1.area, p1.bytes, p1.l⟩ : journal_Journal), BF b01 68 (ko_disk_Disk_0_1 w1_0 w1_1) (⟨[], [], p3.fuse, p3.dead⟩ : disk_Disk), RowF w1_0 100 (karr 256 (kint .u8)) p3.firm, RowF w1_1 102 k_disk_write p3.loose])) s10 rfl (ob_callL0 (args := [_, _]) (L := [_, _]) rfl .direct hb39 (List.Perm.refl _) (fun a w s => by exact c_wire_Writer_Texts k _ _ _ e_x1 _ _ _ _ _ _ (ownL s) (disL s) (nodL s) (s.arg (.tmp rfl)) (s.arg (.tmp rfl))) (by exact fun _ => rfl)) fun v1 _ _ s11 => ?_; clear s10
 refine wn hK3 ?_
 have s12 := s11.sub (u 0 rfl (u 1 rfl (u 5 rfl (u 100000 rfl (u 100001 rfl .nil))))); clear s11
 refine wp_seq_k fun K4 hK4 => wp_block ?_
 refine wp_seq_k fun K5 hK5 => wp_region_lit (qs s12 (.c1 rfl (mv rfl rfl) (.c1 rfl (ob_ptrNil (p := some _) rfl pt26 (.tmp rfl) opd_is) (.c1 rfl (ob_assign rfl (.tmp rfl)) (.ce (u 0 rfl (u 1 rfl (u 5 rfl (u 10 rfl (u 100000 rfl (u 100001 rfl .nil)))))))))) fun _ _ s16 => wn hK5 ?_); clear s12
 refine cond_f s16 (.tmp rfl) ?_
 refine wp_seq_k fun K6 hK6 => wp_region_lit (qs s16 (.c1 rfl (mv rfl rfl) (.c1 rfl (ob_lenStr rfl Tryd.underlying9 (.tmp rfl)) (.c1 rfl (ob_gtr rfl (.tmp rfl) (opd_int rfl)) (.c1 rfl (ob_assign rfl (.tmp rfl)) (.ce (u 0 rfl (u 1 rfl (u 5 rfl (u 13 rfl (u 100000 rfl (u 100001 rfl .nil))))))))))) fun _ _ s21 => wn hK6 ?_); clear s16
 refine cond_split s21 (.tmp rfl) (fun hc2 => ?_) (fun hc2 => ?_)
 ·have h2 := ite_t hc2 h1; clear h1
  refine wp_seq_k fun K7 hK7 => wp_region_lit (qs s21 (.c1 rfl (ob_assign rfl (opd_int rfl)) (.ce (u 4 rfl (u 100000 rfl (u 100001 rfl .nil))))) fun _ _ s23 => wn hK7 ?_); clear s21
  have s24 := St.drop (A := []) s23; clear s23
  have s25 := St.drop (A := []) s24; clear s24
  refine wp_ret ?_
  obtain rfl := Option.some.inj h2
  exact leaveXD (D := []) ⟨w1_0, w1_1⟩ s25 rfl (.inl rfl) rfl (.cons (.tmp rfl) .nil) rfl
 ·have h3 := ite_f hc2 h1; clear h1
  obtain ⟨x2, e_x2, h4⟩ := bind_some h3; clear h3
  obtain ⟨x3, e_x3, h5⟩ := bind_some h4; clear h4
  refine wp_seq_k fun K8 hK8 => wp_region_lit (qs s21 (.c1 rfl ((ob_lendG (L := [_, _]) (List.Perm.refl _) (.cons (t := 5) rfl (lendObj (K' := k_wire_Writer) (X' := x1) (.head _) rfl (upo_wire_Writer_0 rfl (.row (LetAll.row (.tail _ (.head _)))))) .nil) (Flat.res1 (Flat.V KFlat.str)) (fun _ => ob_callD0 (args := [_]) rfl .direct hb40 (fun a w s => by exact c_wire_Writer_String k _ _ e_x2 _ _ _ (s.arg (.tmp rfl)))))) (.c1 rfl (ob_lenStr rfl Tryd.underlying9 (.tmp rfl)) (.c1 rfl (mv rfl rfl) .cz))) fun _ _ s28 => ?_); clear s21
  refine qx (B' := (fun _ : Unit => [BF b00 70 (ko_journal_Journal_0 (.pointer (some ⟨b01, 0, none⟩))) (⟨(), p1.area, p1.bytes, p1.l⟩ : journal_Journal), BF b01 68 (ko_disk_Disk_0_1 w1_0 w1_1) (⟨[], [], p3.fuse, p3.dead⟩ : disk_Disk), RowF w1_0 100 (karr 256 (kint .u8)) p3.firm, RowF w1_1 102 k_disk_write p3.loose, BF b1 79 (ko_wire_Writer_0 v1) (⟨[]⟩ : wire_Writer), RowF v1 5 (kint .u8) x1.out])) s28 rfl (ob_callL0 (args := [_]) (L := [_, _, _, _]) rfl .direct hb55 (toFront [_, _] (toFront [_, _] (toFront [_, _] (toFront [_, _] (List.Perm.refl _))))) (fun a w s => by exact c_journal_Journal_size k _ _ _ e_x3 _ _ _ _ _ _ _ (ownL s) (disL s) (nodL s) (s.arg (.tmp rfl))) (by exact fun _ => rfl)) fun _ _ _ s29 => ?_; clear s28
  refine qs s29 (.c1 rfl (ob_gtr rfl (.tmp rfl) (.tmp rfl)) (.c1 rfl (ob_assign rfl (.tmp rfl)) (.ce (u 0 rfl (u 1 rfl (u 5 rfl (u 17 rfl (u 100000 rfl (u 100001 rfl .nil))))))))) fun _ _ s32 => wn hK8 ?_; clear s29
  refine cond_split s32 (.tmp rfl) (fun hc3 => ?_) (fun hc3 => ?_)
  ·have h6 := ite_t hc3 h5; clear h5
   refine wp_seq_k fun K9 hK9 => wp_region_lit (qs s32 (.c1 rfl (ob_assign rfl (opd_int rfl)) (.ce (u 4 rfl (u 100000 rfl (u 100001 rfl .nil))))) fun _ _ s34 => wn hK9 ?_); clear s32
   have s35 := St.drop (A := [_, _, _, _]) s34; clear s34
   have s36 := St.drop (A := [_, _, _, _]) s35; clear s35
   refine wp_ret ?_
   obtain rfl := Option.some.inj h6
   exact leaveXD (D := []) ⟨w1_0, w1_1⟩ s36 rfl (.inl rfl) rfl (.cons (.tmp rfl) .nil) rfl
  ·have h7 := ite_f hc3 h5; clear h5
   refine wp_skip ?_
   refine in_normal ?_
   refine then_normal (hK4 _ _ ?_)
   have s37 := s32.sub (u 0 rfl (u 1 rfl (u 5 rfl (u 100000 rfl (u 100001 rfl .nil))))); clear s32
   refine wp_seq_k fun K10 hK10 => wp_seq_k fun K11 hK11 => ?_
   obtain ⟨x4, e_x4, h8⟩ := bind_some h7; clear h7
   refine wp_goes (Fs := [(ptrB b00 0), (ptrB b00 0), (ptrB b00 0), (ptrB b00 1), ((kint .i64).V p1.area), ((kint .i64).V (isub .i64 (1 : Int) p1.area)), (kstr.V x4)]) (bits := [0, 0, 2, 6, 14, 30, 0, 127, 255]) (m := 7) (todo := 0) mx s37 ?_; clear s37
   refine goes_last (by kernel_rfl) rfl (oc (av 0 rfl rfl (av 100000 rfl rfl (av 100001 rfl rfl Av.nil))) rfl rfl (mv rfl rfl) (oc (av 0 rfl rfl (av 100000 rfl rfl (av 100001 rfl rfl Av.nil))) rfl rfl (mv rfl rfl) (oc (an 1 rfl rfl rfl (av 100000 rfl rfl (av 100001 rfl rfl Av.nil))) rfl rfl (ob_nilCheck rfl (.tmp rfl)) (oc (an 2 rfl rfl rfl (av 100000 rfl rfl (av 100001 rfl rfl Av.nil))) rfl rfl (ob_fieldAddr (off' := 1) rfl Tryd.underlying70 rfl sz3 (by decide) (.tmp rfl) rfl) (oc (an 3 rfl rfl rfl (av 100000 rfl rfl (av 100001 rfl rfl Av.nil))) rfl rfl (ob_load rfl tk3 (.tmp rfl) (.head _) (lgo_journal_Journal_0_area (⟨(), p1.area, p1.bytes, p1.l⟩ : journal_Journal))) (oc (an 4 rfl rfl rfl (av 100000 rfl rfl (av 100001 rfl rfl Av.nil))) rfl rfl (ob_sub rfl (opd_int rfl) (.tmp rfl)) (oc (av 5 rfl rfl (av 100000 rfl rfl (av 100001 rfl rfl Av.nil))) rfl rfl ((ob_lendG (L := [_, _]) (toFront [_, _, _, _] (toFront [_, _, _, _] (List.Perm.refl _))) (.cons (t := 5) rfl (lendObj (K' := k_wire_Writer) (X' := x1) (.head _) rfl (upo_wire_Writer_0 rfl (.row (LetAll.row (.tail _ (.head _)))))) .nil) (Flat.res1 (Flat.V KFlat.str)) (fun _ => ob_callD0 (args := [_]) rfl .direct hb40 (fun a w s => by exact c_wire_Writer_String k _ _ e_x4 _ _ _ (s.arg (.tmp rfl)))))) opsS_nil))))))) (out_old (t := 0) rfl rfl (out_old (t := 1) rfl rfl (out_old (t := 5) rfl rfl (out_new (i := 0) (by decide) rfl rfl (out_new (i := 5) (by decide) rfl rfl (out_new (i := 6) (by decide) rfl rfl (out_old (t := 100000) rfl rfl (out_old (t := 100001) rfl rfl out_nil)))))))) fun _ _ s38 => ?_
   obtain ⟨x5, e_x5, h9⟩ := bind_some h8; clear h8
   refine qx (B' := (fun gg : Value × Value => [BF b00 70 (ko_journal_Journal_0 (.pointer (some ⟨b01, 0, none⟩))) (⟨(), x5.2.1.area, x5.2.1.bytes, x5.2.1.l⟩ : journal_Journal), BF b01 68 (ko_disk_Disk_0_1 gg.1 gg.2) (⟨[], [], x5.2.2.fuse, x5.2.2.dead⟩ : disk_Disk), RowF gg.1 100 (karr 256 (kint .u8)) x5.2.2.firm, RowF gg.2 102 k_disk_write x5.2.2.loose, BF b1 79 (ko_wire_Writer_0 v1) (⟨[]⟩ : wire_Writer), RowF v1 5 (kint .u8) x1.out])) s38 rfl (ob_callL0 (args := [_, _, _, _]) (L := [_, _, _, _]) rfl .direct hb43 (List.Perm.refl _) (fun a w s => by exact c_journal_Journal_commit k _ _ _ _ _ _ e_x5 _ _ (s.env _ _ (show get _ 100000 = _ from rfl)) (s.env _ _ (show get _ 100001 = _ from rfl)) _ _ _ _ _ _ _ _ (ownL s) (disL s) (nodL s) (s.arg (.tmp rfl)) (s.arg (.tmp rfl)) (s.arg (opd_int rfl)) (s.arg (.tmp rfl))) (by exact fun _ => rfl)) fun gg39 _ _ s39 => ?_; clear s38
   obtain ⟨v2, v3⟩ := gg39
   refine qs s39 (.c1 rfl (ob_assign rfl (.tmp rfl)) (.ce (u 0 rfl (u 1 rfl (u 5 rfl (u 6 rfl (u 100000 rfl (u 100001 rfl .nil)))))))) fun _ _ s41 => wn hK11 ?_; clear s39
   refine wp_seq_k fun K12 hK12 => wp_region_lit (qs s41 (.c1 rfl (mv rfl rfl) (.c1 rfl (ob_neq rfl (.tmp rfl) (opd_int rfl)) (.ce (u 0 rfl (u 1 rfl (u 5 rfl (u 6 rfl (u 32 rfl (u 100000 rfl (u 100001 rfl .nil)))))))))) fun _ _ s44 => wn hK12 ?_); clear s41
   refine cond_split s44 (.tmp rfl) (fun hc4 => ?_) (fun hc4 => ?_)
   ·have h10 := ite_t hc4 h9; clear h9
    refine wp_seq_k fun K13 hK13 => wp_region_lit (qs s44 (.c1 rfl (mv rfl rfl) (.c1 rfl (ob_assign rfl (.tmp rfl)) (.ce (u 4 rfl (u 100000 rfl (u 100001 rfl .nil)))))) fun _ _ s47 => wn hK13 ?_); clear s44
    have s48 := St.drop (A := [_, _, _, _]) s47; clear s47
    have s49 := St.drop (A := [_, _, _, _]) s48; clear s48
    refine wp_ret ?_
    obtain rfl := Option.some.inj h10
    exact leaveXD (D := []) ⟨v2, v3⟩ s49 rfl (.inl rfl) rfl (.cons (.tmp rfl) .nil) rfl
   ·have h11 := ite_f hc4 h9; clear h9
    refine wp_skip ?_
    refine then_normal (hK10 _ _ ?_)
    have s50 := s44.sub (u 0 rfl (u 1 rfl (u 5 rfl (u 100000 rfl (u 100001 rfl .nil))))); clear s44
    refine wp_seq_k fun K14 hK14 => ?_
    obtain ⟨x6, e_x6, h12⟩ := bind_some h11; clear h11
    refine wp_goes (Fs := [(ptrB b00 0), (ptrB b00 0), (ptrB b00 0), (ptrB b00 0), (ptrB b00 0), (ptrB b00 1), ((kint .i64).V x5.2.1.area), ((kint .i64).V (isub .i64 (1 : Int) x5.2.1.area)), (kstr.V x6), (kstr.V p2), ((ksl kstr).V ([p2] : (List (List Int)))), (ptrB b00 0), (ptrB b00 1), nofact, nofact, nofact, nofact]) (bits := [0, 0, 0, 0, 8, 24, 56, 120, 0, 0, 512, 505, 2553, 6649, 14843, 31227, 63995, 131071, 262143, 524287]) (m := 17) (todo := 73728) mx s50 ?_; clear s50
    refine goes_turn (B' := (fun _ : Unit => [BF b00 70 (ko_journal_Journal_0 (.pointer (some ⟨b01, 0, none⟩))) (⟨(), (isub .i64 (1 : Int) x5.2.1.area), x5.2.1.bytes, x5.2.1.l⟩ : journal_Journal), BF b01 68 (ko_disk_Disk_0_1 v2 v3) (⟨[], [], x5.2.2.fuse, x5.2.2.dead⟩ : disk_Disk), RowF v2 100 (karr 256 (kint .u8)) x5.2.2.firm, RowF v3 102 k_disk_write x5.2.2.loose, BF b1 79 (ko_wire_Writer_0 v1) (⟨[]⟩ : wire_Writer), RowF v1 5 (kint .u8) x1.out])) (Fs' := (fun _ : Unit => setAll ([(ptrB b00 0), (ptrB b00 0), (ptrB b00 0), (ptrB b00 0), (ptrB b00 0), (ptrB b00 1), ((kint .i64).V x5.2.1.area), ((kint .i64).V (isub .i64 (1 : Int) x5.2.1.area)), (kstr.V x6), (kstr.V p2), ((ksl kstr).V ([p2] : (List (List Int)))), (ptrB b00 0), (ptrB b00 1), nofact, nofact, nofact, nofact]) [(13, nofact), (14, (ptrB b00 0)), (15, (ptrB b00 2))])) 13 122880 14841 65536 (by kernel_rfl) rfl rfl rfl (oc (av 0 rfl rfl (av 100000 rfl rfl (av 100001 rfl rfl Av.nil))) rfl rfl (mv rfl rfl) (oc (av 0 rfl rfl (av 100000 rfl rfl (av 100001 rfl rfl Av.nil))) rfl rfl (mv rfl rfl) (oc (av 0 rfl rfl (av 100000 rfl rfl (av 100001 rfl rfl Av.nil))) rfl rfl (mv rfl rfl) (oc (av 0 rfl rfl (av 100000 rfl rfl (av 100001 rfl rfl Av.nil))) rfl rfl (mv rfl rfl) (oc (an 3 rfl rfl rfl (av 100000 rfl rfl (av 100001 rfl rfl Av.nil))) rfl rfl (ob_nilCheck rfl (.tmp rfl)) (oc (an 4 rfl rfl rfl (av 100000 rfl rfl (av 100001 rfl rfl Av.nil))) rfl rfl (ob_fieldAddr (off' := 1) rfl Tryd.underlying70 rfl sz3 (by decide) (.tmp rfl) rfl) (oc (an 5 rfl rfl rfl (av 100000 rfl rfl (av 100001 rfl rfl Av.nil))) rfl rfl (ob_load rfl tk3 (.tmp rfl) (.head _) (lgo_journal_Journal_0_area (⟨(), x5.2.1.area, x5.2.1.bytes, x5.2.1.l⟩ : journal_Journal))) (oc (an 6 rfl rfl rfl (av 100000 rfl rfl (av 100001 rfl rfl Av.nil))) rfl rfl (ob_sub rfl (opd_int rfl) (.tmp rfl)) (oc (av 5 rfl rfl (av 100000 rfl rfl (av 100001 rfl rfl Av.nil))) rfl rfl ((ob_lendG (L := [_, _]) (toFront [_, _, _, _] (toFront [_, _, _, _] (List.Perm.refl _))) (.cons (t := 5) rfl (lendObj (K' := k_wire_Writer) (X' := x1) (.head _) rfl (upo_wire_Writer_0 rfl (.row (LetAll.row (.tail _ (.head _)))))) .nil) (Flat.res1 (Flat.V KFlat.str)) (fun _ => ob_callD0 (args := [_]) rfl .direct hb40 (fun a w s => by exact c_wire_Writer_String k _ _ e_x6 _ _ _ (s.arg (.tmp rfl)))))) (oc (av 1 rfl rfl (av 100000 rfl rfl (av 100001 rfl rfl Av.nil))) rfl rfl (mv rfl rfl) (oc (an 9 rfl rfl rfl (av 100000 rfl rfl (av 100001 rfl rfl Av.nil))) rfl rfl (ob_mkSlice (k := kstr) (xs := ([p2] : (List (List Int)))) rfl Tryd.underlying30 zz9 sz9 Zr.str (by decide) (by decide) (.cons (.tmp rfl) rfl (LS.arr' (i := 0) (ys := ([p2] : (List (List Int)))) (by simp) (by rfl)) (.nil _))) (oc (an 0 rfl rfl rfl (av 100000 rfl rfl (av 100001 rfl rfl Av.nil))) rfl rfl (ob_nilCheck rfl (.tmp rfl)) (oc (an 11 rfl rfl rfl (av 100000 rfl rfl (av 100001 rfl rfl Av.nil))) rfl rfl (ob_fieldAddr (off' := 1) rfl Tryd.underlying70 rfl sz3 (by decide) (.tmp rfl) rfl) (opsS_skip (by rfl) (opsS_skip (by rfl) (opsS_skip (by rfl) (opsS_skip (by rfl) opsS_nil))))))))))))))))) (.plain _ (an 7 rfl rfl rfl (an 12 rfl rfl rfl (av 100000 rfl rfl (av 100001 rfl rfl Av.nil)))) rfl (fun _ => rfl) (fun R => ob_store (A := []) rfl tk3 (.tmp rfl) (.tmp rfl) rfl (lso_journal_Journal_0_area (⟨(), x5.2.1.area, x5.2.1.bytes, x5.2.1.l⟩ : journal_Journal) (isub .i64 (1 : Int) x5.2.1.area)) rfl)) (setAll_same (us := (fun _ : Unit => [(13, nofact), (14, (ptrB b00 0)), (15, (ptrB b00 2))])) fun _ => by kernel_rfl) fun _ => ?_
    refine goes_turn (B' := (fun _ : Unit => [BF b00 70 (ko_journal_Journal_0 (.pointer (some ⟨b01, 0, none⟩))) (⟨(), (isub .i64 (1 : Int) x5.2.1.area), x6, x5.2.1.l⟩ : journal_Journal), BF b01 68 (ko_disk_Disk_0_1 v2 v3) (⟨[], [], x5.2.2.fuse, x5.2.2.dead⟩ : disk_Disk), RowF v2 100 (karr 256 (kint .u8)) x5.2.2.firm, RowF v3 102 k_disk_write x5.2.2.loose, BF b1 79 (ko_wire_Writer_0 v1) (⟨[]⟩ : wire_Writer), RowF v1 5 (kint .u8) x1.out])) (Fs' := (fun _ : Unit => setAll (setAll ([(ptrB b00 0), (ptrB b00 0), (ptrB b00 0), (ptrB b00 0), (ptrB b00 0), (ptrB b00 1), ((kint .i64).V x5.2.1.area), ((kint .i64).V (isub .i64 (1 : Int) x5.2.1.area)), (kstr.V x6), (kstr.V p2), ((ksl kstr).V ([p2] : (List (List Int)))), (ptrB b00 0), (ptrB b00 1), nofact, nofact, nofact, nofact]) [(13, nofact), (14, (ptrB b00 0)), (15, (ptrB b00 2))]) [(16, nofact)])) 16 80377 129531 0 (by kernel_rfl) rfl rfl rfl (opsS_skip (by rfl) (oc (av 0 rfl rfl (av 100000 rfl rfl (av 100001 rfl rfl Av.nil))) rfl rfl (mv rfl rfl) (oc (av 0 rfl rfl (av 100000 rfl rfl (av 100001 rfl rfl Av.nil))) rfl rfl (mv rfl rfl) (opsS_skip (by rfl) (opsS_skip (by rfl) (opsS_skip (by rfl) (opsS_skip (by rfl) (opsS_skip (by rfl) (opsS_skip (by rfl) (oc (av 1 rfl rfl (av 100000 rfl rfl (av 100001 rfl rfl Av.nil))) rfl rfl (mv rfl rfl) (oc (an 9 rfl rfl rfl (av 100000 rfl rfl (av 100001 rfl rfl Av.nil))) rfl rfl (ob_mkSlice (k := kstr) (xs := ([p2] : (List (List Int)))) rfl Tryd.underlying30 zz9 sz9 Zr.str (by decide) (by decide) (.cons (.tmp rfl) rfl (LS.arr' (i := 0) (ys := ([p2] : (List (List Int)))) (by simp) (by rfl)) (.nil _))) (opsS_skip (by rfl) (opsS_skip (by rfl) (opsS_skip (by rfl) (oc (an 1 rfl rfl rfl (av 100000 rfl rfl (av 100001 rfl rfl Av.nil))) rfl rfl (ob_nilCheck rfl (.tmp rfl)) (oc (an 14 rfl rfl rfl (av 100000 rfl rfl (av 100001 rfl rfl Av.nil))) rfl rfl (ob_fieldAddr (off' := 2) rfl Tryd.underlying70 rfl sz9 (by decide) (.tmp rfl) rfl) (opsS_skip (by rfl) opsS_nil))))))))))))))))) (.plain _ (an 8 rfl rfl rfl (an 15 rfl rfl rfl (av 100000 rfl rfl (av 100001 rfl rfl Av.nil)))) rfl (fun _ => rfl) (fun R => ob_store (A := []) rfl tk9 (.tmp rfl) (.tmp rfl) rfl (lso_journal_Journal_0_bytes (⟨(), (isub .i64 (1 : Int) x5.2.1.area), x5.2.1.bytes, x5.2.1.l⟩ : journal_Journal) x6) rfl)) (setAll_same (us := (fun _ : Unit => [(16, nofact)])) fun _ => by kernel_rfl) fun _ => ?_
    refine goes_last (by kernel_rfl) rfl (opsS_skip (by rfl) (opsS_skip (by rfl) (oc (av 0 rfl rfl (av 100000 rfl rfl (av 100001 rfl rfl Av.nil))) rfl rfl (mv rfl rfl) (opsS_skip (by rfl) (opsS_skip (by rfl) (opsS_skip (by rfl) (opsS_skip (by rfl) (opsS_skip (by rfl) (opsS_skip (by rfl) (oc (av 1 rfl rfl (av 100000 rfl rfl (av 100001 rfl rfl Av.nil))) rfl rfl (mv rfl rfl) (oc (an 9 rfl rfl rfl (av 100000 rfl rfl (av 100001 rfl rfl Av.nil))) rfl rfl (ob_mkSlice (k := kstr) (xs := ([p2] : (List (List Int)))) rfl Tryd.underlying30 zz9 sz9 Zr.str (by decide) (by decide) (.cons (.tmp rfl) rfl (LS.arr' (i := 0) (ys := ([p2] : (List (List Int)))) (by simp) (by rfl)) (.nil _))) (opsS_skip (by rfl) (opsS_skip (by rfl) (opsS_skip (by rfl) (opsS_skip (by rfl) (opsS_skip (by rfl) (opsS_skip (by rfl) opsS_nil))))))))))))))))) (out_new (i := 2) (by decide) rfl rfl (out_new (i := 10) (by decide) rfl rfl (out_old (t := 100000) rfl rfl (out_old (t := 100001) rfl rfl out_nil)))) fun _ _ s51 => ?_
    refine qs s51 (.c1 rfl (ob_nilCheck rfl (.tmp rfl)) (.c1 rfl (ob_fieldAddr (off' := 3) rfl Tryd.underlying70 rfl sz30 (by decide) (.tmp rfl) rfl) .cz)) fun _ _ s53 => ?_; clear s51
    refine seq_opx0 (B' := (fun _ : Unit => [BF b00 70 (ko_journal_Journal_0 (.pointer (some ⟨b01, 0, none⟩))) (⟨(), (isub .i64 (1 : Int) x5.2.1.area), x6, ([p2] : (List (List Int)))⟩ : journal_Journal), BF b01 68 (ko_disk_Disk_0_1 v2 v3) (⟨[], [], x5.2.2.fuse, x5.2.2.dead⟩ : disk_Disk), RowF v2 100 (karr 256 (kint .u8)) x5.2.2.firm, RowF v3 102 k_disk_write x5.2.2.loose, BF b1 79 (ko_wire_Writer_0 v1) (⟨[]⟩ : wire_Writer), RowF v1 5 (kint .u8) x1.out])) s53 rfl rfl (ob_store (A := []) rfl tk30 (.tmp rfl) (.tmp rfl) rfl (lso_journal_Journal_0_l (⟨(), (isub .i64 (1 : Int) x5.2.1.area), x6, x5.2.1.l⟩ : journal_Journal) ([p2] : (List (List Int)))) rfl) fun _ a54 w54 s54 => ?_; clear s53
    refine wn hK14 ?_
    have s55 := s54.sub (u 100000 rfl (u 100001 rfl .nil)); clear s54
    have s56 := St.drop (A := [_, _, _, _]) s55; clear s55
    have s57 := St.drop (A := [_, _, _, _]) s56; clear s56
    refine wp_seq_k fun K15 hK15 => wp_region_lit (qs s57 (.c1 rfl (ob_assign rfl (opd_int rfl)) (.ce (u 4 rfl (u 100000 rfl (u 100001 rfl .nil))))) fun _ _ s59 => wn hK15 ?_); clear s57
    refine wp_ret ?_
    obtain rfl := Option.some.inj h12
    exact leaveXD (D := []) ⟨v2, v3⟩ s59 rfl (.inl rfl) rfl (.cons (.tmp rfl) .nil) rfl
theorem c_cabalref13_Journal_Snap (k : Nat) (p1 : cabalref13_Journal) (p2 : (List Int)) (p3 : cabalref12_Disk) (r : (Int × cabalref13_Journal × cabalref12_Disk)) (h0 : cabalref13_Journal_Snap k p1 p2 p3 = some r) (ok : Ok) (w0 : World) (z0 : Value) (z1 : Value) (b00 : Nat) (b01 : Nat) (w1_0 : Value) (w1_1 : Value) (w1_2 : Value) (l0 : ∀ q, q ∈ [BF b00 56 (ko_cabalref13_Journal_0 (.pointer (some ⟨b01, 0, none⟩))) (⟨(), p1.Area, p1.L⟩ : cabalref13_Journal), BF b01 49 (ko_cabalref12_Disk_0_1_2 w1_0 w1_1 w1_2) (⟨[], [], [], p3.Fuse, p3.Dead⟩ : cabalref12_Disk), RowF w1_0 9 kstr p3.Firm, RowF w1_1 3 (kint .i64) p3.At, RowF w1_2 9 kstr p3.Data] → q.holds ok w0) (d0 : ∀ c, c ∈ idsOf [BF b00 56 (ko_cabalref13_Journal_0 (.pointer (some ⟨b01, 0, none⟩))) (⟨(), p1.Area, p1.L⟩ : cabalref13_Journal), BF b01 49 (ko_cabalref12_Disk_0_1_2 w1_0 w1_1 w1_2) (⟨[], [], [], p3.Fuse, p3.Dead⟩ : cabalref12_Disk), RowF w1_0 9 kstr p3.Firm, RowF w1_1 3 (kint .i64) p3.At, RowF w1_2 9 kstr p3.Data] → ¬ ok c) (nd : (idsOf [BF b00 56 (ko_cabalref13_Journal_0 (.pointer (some ⟨b01, 0, none⟩))) (⟨(), p1.Area, p1.L⟩ : cabalref13_Journal), BF b01 49 (ko_cabalref12_Disk_0_1_2 w1_0 w1_1 w1_2) (⟨[], [], [], p3.Fuse, p3.Dead⟩ : cabalref12_Disk), RowF w1_0 9 kstr p3.Firm, RowF w1_1 3 (kint .i64) p3.At, RowF w1_2 9 kstr p3.Data]).Nodup) (u0 : (ptrB b00 0).holds ok w0 z0) (u1 : (kstr.V p2).holds ok w0 z1) :
 GivesX Tryd.prog 25 [z0, z1] ok w0 [BF b00 56 (ko_cabalref13_Journal_0 (.pointer (some ⟨b01, 0, none⟩))) (⟨(), p1.Area, p1.L⟩ : cabalref13_Journal), BF b01 49 (ko_cabalref12_Disk_0_1_2 w1_0 w1_1 w1_2) (⟨[], [], [], p3.Fuse, p3.Dead⟩ : cabalref12_Disk), RowF w1_0 9 kstr p3.Firm, RowF w1_1 3 (kint .i64) p3.At, RowF w1_2 9 kstr p3.Data] (fun g : Value × Value × Value => resFact [(kint .i64).V r.1]) (fun g : Value × Value × Value => [BF b00 56 (ko_cabalref13_Journal_0 (.pointer (some ⟨b01, 0, none⟩))) (⟨(), r.2.1.Area, r.2.1.L⟩ : cabalref13_Journal), BF b01 49 (ko_cabalref12_Disk_0_1_2 (g.1) (g.2.1) (g.2.2)) (⟨[], [], [], r.2.2.Fuse, r.2.2.Dead⟩ : cabalref12_Disk), RowF (g.1) 9 kstr r.2.2.Firm, RowF (g.2.1) 3 (kint .i64) r.2.2.At, RowF (g.2.2) 9 kstr r.2.2.Data]) := by
 unfold cabalref13_Journal_Snap at h0
 refine enterX (N := 45) Tryd.func25 rfl rfl (of_decide_eq_true rfl) (.cons u0 (.cons u1 .nil)) nd l0 d0 fun a1 s1 => ?_
 refine wp_seq_k fun K1 hK1 => wp_region_lit (qs s1 (.c1 rfl (ob_assign rfl (opd_int rfl)) (.ce (u 0 rfl (u 1 rfl .nil)))) fun _ _ s3 => wn hK1 ?_); clear s1
 refine wp_seq_k fun K2 hK2 => wp_seq_k fun K3 hK3 => ?_
 refine wp_region_lit (qs s3 (.c1 rfl (mv rfl rfl) (.c1 rfl (ob_lenStr rfl Tryd.underlying9 (.tmp rfl)) (.c1 rfl (ob_gtr rfl (.tmp rfl) (opd_int rfl)) (.ce (u 0 rfl (u 1 rfl (u 9 rfl .nil))))))) fun _ _ s7 => wn hK3 ?_); clear s3
 refine cond_split s7 (.tmp rfl) (fun hc1 => ?_) (fun hc1 => ?_)
 ·have h1 := ite_t hc1 h0; clear h0
  refine wp_seq_k fun K4 hK4 => wp_region_lit (qs s7 (.c1 rfl (ob_assign rfl (opd_int rfl)) (.ce (u 4 rfl .nil))) fun _ _ s9 => wn hK4 ?_); clear s7
  refine wp_ret ?_
  obtain rfl := Option.some.inj h1
  exact leaveXD (D := []) ⟨w1_0, w1_1, w1_2⟩ s9 rfl (.inl rfl) rfl (.cons (.tmp rfl) .nil) rfl
 ·have h2 := ite_f hc1 h0; clear h0
  refine wp_skip ?_
  refine then_normal (hK2 _ _ ?_)
  have s10 := s7.sub (u 0 rfl (u 1 rfl .nil)); clear s7
  obtain ⟨x1, e_x1, h3⟩ := bind_some h2; clear h2
  refine wp_seq_k fun K5 hK5 => wp_region_lit (qs s10 (.c1 rfl (mv rfl rfl) (.c1 rfl (ob_callD0 (args := [_]) rfl .direct hb45 (fun a w s => by exact c_cabalref10_Text k _ _ e_x1 _ _ _ (s.arg (.tmp rfl)))) (.c1 rfl (ob_assign rfl (.tmp rfl)) (.ce (u 0 rfl (u 1 rfl (u 5 rfl .nil))))))) fun _ _ s14 => wn hK5 ?_); clear s10
  refine wp_seq_k fun K6 hK6 => wp_seq_k fun K7 hK7 => ?_
  obtain ⟨x2, e_x2, h4⟩ := bind_some h3; clear h3
  refine wp_region_lit (qs s14 (.c1 rfl (mv rfl rfl) (.c1 rfl (ob_lenStr rfl Tryd.underlying9 (.tmp rfl)) (.c1 rfl (mv rfl rfl) (.c1 rfl (ob_nilCheck rfl (.tmp rfl)) (.c1 rfl (ob_fieldAddr (off' := 0) rfl Tryd.underlying56 rfl sz41 (by decide) (.tmp rfl) rfl) (.c1 rfl (ob_loadRowV rfl (tkr41 _) (.tmp rfl) (.head _) (lgo_cabalref13_Journal_0_D (⟨(), p1.Area, p1.L⟩ : cabalref13_Journal))) (.c1 rfl ((ob_lendG (L := [_, _, _, _]) (toFront [_] (toFront [_] (toFront [_] (toFront [_] (List.Perm.refl _))))) (.cons (t := 17) rfl (lendObj (K' := k_cabalref12_Disk) (X' := p3) (.head _) rfl (upo_cabalref12_Disk_0_1_2 rfl (.row (LetAll.row (.tail _ (.head _)))) (.row (LetAll.row (.tail _ (.tail _ (.head _))))) (.row (LetAll.row (.tail _ (.tail _ (.tail _ (.head _)))))))) .nil) (Flat.res1 (Flat.V (KFlat.int _))) (fun _ => ob_callD0 (args := [_]) rfl .direct hb18 (fun a w s => by exact c_cabalref13_Half k _ _ e_x2 _ _ _ (s.arg (.tmp rfl)))))) (.c1 rfl (ob_mul rfl (.tmp rfl) (opd_int rfl)) (.c1 rfl (ob_gtr rfl (.tmp rfl) (.tmp rfl)) (.ce (u 0 rfl (u 1 rfl (u 5 rfl (u 20 rfl .nil)))))))))))))) fun _ _ s24 => wn hK7 ?_); clear s14
  refine cond_split s24 (.tmp rfl) (fun hc2 => ?_) (fun hc2 => ?_)
  ·have h5 := ite_t hc2 h4; clear h4
   refine wp_seq_k fun K8 hK8 => wp_region_lit (qs s24 (.c1 rfl (ob_assign rfl (opd_int rfl)) (.ce (u 4 rfl .nil))) fun _ _ s26 => wn hK8 ?_); clear s24
   refine wp_ret ?_
   obtain rfl := Option.some.inj h5
   exact leaveXD (D := []) ⟨w1_0, w1_1, w1_2⟩ s26 rfl (.inl rfl) rfl (.cons (.tmp rfl) .nil) rfl
  ·have h6 := ite_f hc2 h4; clear h4
   refine wp_skip ?_
   refine then_normal (hK6 _ _ ?_)
   have s27 := s24.sub (u 0 rfl (u 1 rfl (u 5 rfl .nil))); clear s24
   obtain ⟨x3, e_x3, h7⟩ := bind_some h6; clear h6
   refine wp_seq_k fun K9 hK9 => wp_region_lit (qs s27 (.c1 rfl (mv rfl rfl) (.c1 rfl (mv rfl rfl) (.c1 rfl (ob_nilCheck rfl (.tmp rfl)) (.c1 rfl (ob_fieldAddr (off' := 1) rfl Tryd.underlying56 rfl sz3 (by decide) (.tmp rfl) rfl) (.c1 rfl (ob_load rfl tk3 (.tmp rfl) (.head _) (lgo_cabalref13_Journal_0_Area (⟨(), p1.Area, p1.L⟩ : cabalref13_Journal))) (.c1 rfl (ob_sub rfl (opd_int rfl) (.tmp rfl)) (.c1 rfl (mv rfl rfl) .cz))))))) fun _ _ s34 => ?_); clear s27
   refine qx (B' := (fun gg : Value × Value × Value => [BF b00 56 (ko_cabalref13_Journal_0 (.pointer (some ⟨b01, 0, none⟩))) (⟨(), x3.2.1.Area, x3.2.1.L⟩ : cabalref13_Journal), BF b01 49 (ko_cabalref12_Disk_0_1_2 gg.1 gg.2.1 gg.2.2) (⟨[], [], [], x3.2.2.Fuse, x3.2.2.Dead⟩ : cabalref12_Disk), RowF gg.1 9 kstr x3.2.2.Firm, RowF gg.2.1 3 (kint .i64) x3.2.2.At, RowF gg.2.2 9 kstr x3.2.2.Data])) s34 rfl (ob_callL0 (args := [_, _, _, _]) (L := [_, _, _, _, _]) rfl .direct hb57 (List.Perm.refl _) (fun a w s => by exact c_cabalref13_Journal_commit k _ _ _ _ _ _ e_x3 _ _ _ _ _ _ _ _ _ _ _ (ownL s) (disL s) (nodL s) (s.arg (.tmp rfl)) (s.arg (.tmp rfl)) (s.arg (opd_int rfl)) (s.arg (.tmp rfl))) (by exact fun _ => rfl)) fun gg35 _ _ s35 => ?_; clear s34
   obtain ⟨v1, v2, v3⟩ := gg35
   refine qs s35 (.c1 rfl (ob_assign rfl (.tmp rfl)) (.ce (u 0 rfl (u 1 rfl (u 6 rfl .nil))))) fun _ _ s37 => wn hK9 ?_; clear s35
   refine wp_seq_k fun K10 hK10 => wp_seq_k fun K11 hK11 => ?_
   refine wp_region_lit (qs s37 (.c1 rfl (mv rfl rfl) (.c1 rfl (ob_eql rfl (.tmp rfl) (opd_int rfl)) (.ce (u 0 rfl (u 1 rfl (u 6 rfl (u 30 rfl .nil))))))) fun _ _ s40 => wn hK11 ?_); clear s37
   have hj1 : ∀ (y1 : Int) (y2 : (List (List Int))) (a : Act) (w : World), (cabalref13_Journal_Snap.j1 k x3) y1 y2 = some r → St ⟨45, w0, ok, (idsOf [BF b00 56 (ko_cabalref13_Journal_0 (.pointer (some ⟨b01, 0, none⟩))) (⟨(), p1.Area, p1.L⟩ : cabalref13_Journal), BF b01 49 (ko_cabalref12_Disk_0_1_2 w1_0 w1_1 w1_2) (⟨[], [], [], p3.Fuse, p3.Dead⟩ : cabalref12_Disk), RowF w1_0 9 kstr p3.Firm, RowF w1_1 3 (kint .i64) p3.At, RowF w1_2 9 kstr p3.Data])⟩ [BF b00 56 (ko_cabalref13_Journal_0 (.pointer (some ⟨b01, 0, none⟩))) (⟨(), y1, y2⟩ : cabalref13_Journal), BF b01 49 (ko_cabalref12_Disk_0_1_2 v1 v2 v3) (⟨[], [], [], x3.2.2.Fuse, x3.2.2.Dead⟩ : cabalref12_Disk), RowF v1 9 kstr x3.2.2.Firm, RowF v2 3 (kint .i64) x3.2.2.At, RowF v3 9 kstr x3.2.2.Data] [(6, ((kint .i64).V x3.1))] a w → K10 a w := by
    intro y1 y2 a41 w41 h8 s41
    unfold cabalref13_Journal_Snap.j1 at h8
    refine hK10 _ _ ?_
    refine wp_seq_k fun K12 hK12 => wp_region_lit (qs s41 (.c1 rfl (mv rfl rfl) (.c1 rfl (ob_assign rfl (.tmp rfl)) (.ce (u 4 rfl .nil)))) fun _ _ s44 => wn hK12 ?_); clear s41
    refine wp_ret ?_
    obtain rfl := Option.some.inj h8
    exact leaveXD (D := []) ⟨v1, v2, v3⟩ s44 rfl (.inl rfl) rfl (.cons (.tmp rfl) .nil) rfl
   refine cond_split s40 (.tmp rfl) (fun hc3 => ?_) (fun hc3 => ?_)
   ·have h9 := ite_t hc3 h7; clear h7
    refine wp_seq_k fun K13 hK13 => wp_region_lit (qs s40 (.c1 rfl (mv rfl rfl) (.c1 rfl (mv rfl rfl) (.c1 rfl (ob_nilCheck rfl (.tmp rfl)) (.c1 rfl (ob_fieldAddr (off' := 1) rfl Tryd.underlying56 rfl sz3 (by decide) (.tmp rfl) rfl) (.c1 rfl (ob_load rfl tk3 (.tmp rfl) (.head _) (lgo_cabalref13_Journal_0_Area (⟨(), x3.2.1.Area, x3.2.1.L⟩ : cabalref13_Journal))) (.c1 rfl (ob_sub rfl (opd_int rfl) (.tmp rfl)) (.c1 rfl (ob_nilCheck rfl (.tmp rfl)) (.c1 rfl (ob_fieldAddr (off' := 1) rfl Tryd.underlying56 rfl sz3 (by decide) (.tmp rfl) rfl) .cz)))))))) fun _ _ s52 => ?_); clear s40
    refine seq_opx0 (B' := (fun _ : Unit => [BF b00 56 (ko_cabalref13_Journal_0 (.pointer (some ⟨b01, 0, none⟩))) (⟨(), (isub .i64 (1 : Int) x3.2.1.Area), x3.2.1.L⟩ : cabalref13_Journal), BF b01 49 (ko_cabalref12_Disk_0_1_2 v1 v2 v3) (⟨[], [], [], x3.2.2.Fuse, x3.2.2.Dead⟩ : cabalref12_Disk), RowF v1 9 kstr x3.2.2.Firm, RowF v2 3 (kint .i64) x3.2.2.At, RowF v3 9 kstr x3.2.2.Data])) s52 rfl rfl (ob_store (A := []) rfl tk3 (.tmp rfl) (.tmp rfl) rfl (lso_cabalref13_Journal_0_Area (⟨(), x3.2.1.Area, x3.2.1.L⟩ : cabalref13_Journal) (isub .i64 (1 : Int) x3.2.1.Area)) rfl) fun _ a53 w53 s53 => ?_; clear s52
    refine wn hK13 ?_
    have s54 := s53.sub (u 0 rfl (u 1 rfl (u 6 rfl .nil))); clear s53
    refine wp_region_lit (qs s54 (.c1 rfl (mv rfl rfl) (.c1 rfl (mv rfl rfl) (.c1 rfl (ob_mkSlice (k := kstr) (xs := ([p2] : (List (List Int)))) rfl Tryd.underlying30 zz9 sz9 Zr.str (by decide) (by decide) (.cons (.tmp rfl) rfl (LS.arr' (i := 0) (ys := ([p2] : (List (List Int)))) (by simp) (by rfl)) (.nil _))) (.c1 rfl (ob_nilCheck rfl (.tmp rfl)) (.c1 rfl (ob_fieldAddr (off' := 2) rfl Tryd.underlying56 rfl sz30 (by decide) (.tmp rfl) rfl) .cz))))) fun _ _ s59 => ?_); clear s54
    refine seq_opx0 (B' := (fun _ : Unit => [BF b00 56 (ko_cabalref13_Journal_0 (.pointer (some ⟨b01, 0, none⟩))) (⟨(), (isub .i64 (1 : Int) x3.2.1.Area), ([p2] : (List (List Int)))⟩ : cabalref13_Journal), BF b01 49 (ko_cabalref12_Disk_0_1_2 v1 v2 v3) (⟨[], [], [], x3.2.2.Fuse, x3.2.2.Dead⟩ : cabalref12_Disk), RowF v1 9 kstr x3.2.2.Firm, RowF v2 3 (kint .i64) x3.2.2.At, RowF v3 9 kstr x3.2.2.Data])) s59 rfl rfl (ob_store (A := []) rfl tk30 (.tmp rfl) (.tmp rfl) rfl (lso_cabalref13_Journal_0_L (⟨(), (isub .i64 (1 : Int) x3.2.1.Area), x3.2.1.L⟩ : cabalref13_Journal) ([p2] : (List (List Int)))) rfl) fun _ a60 w60 s60 => ?_; clear s59
    refine wpList_nil ?_
    refine then_normal ?_
    exact hj1 (isub .i64 (1 : Int) x3.2.1.Area) ([p2] : (List (List Int))) _ _ h9 (s60.sub (.cons rfl .nil))
   ·have h10 := ite_f hc3 h7; clear h7
    refine wp_skip ?_
    refine then_normal ?_
    exact hj1 x3.2.1.Area x3.2.1.L _ _ h10 (s40.sub (.cons rfl .nil))
theorem c_disk_Disk_Fuse (k : Nat) (p1 : disk_Disk) (p2 : Int) (r : disk_Disk) (h0 : disk_Disk_Fuse k p1 p2 = some r) (ok : Ok) (w0 : World) (z0 : Value) (z1 : Value) (b00 : Nat) (w0_0 : Value) (w0_1 : Value) (l0 : ∀ q, q ∈ [BF b00 68 (ko_disk_Disk_0_1 w0_0 w0_1) (⟨[], [], p1.fuse, p1.dead⟩ : disk_Disk), RowF w0_0 100 (karr 256 (kint .u8)) p1.firm, RowF w0_1 102 k_disk_write p1.loose] → q.holds ok w0) (d0 : ∀ c, c ∈ idsOf [BF b00 68 (ko_disk_Disk_0_1 w0_0 w0_1) (⟨[], [], p1.fuse, p1.dead⟩ : disk_Disk), RowF w0_0 100 (karr 256 (kint .u8)) p1.firm, RowF w0_1 102 k_disk_write p1.loose] → ¬ ok c) (nd : (idsOf [BF b00 68 (ko_disk_Disk_0_1 w0_0 w0_1) (⟨[], [], p1.fuse, p1.dead⟩ : disk_Disk), RowF w0_0 100 (karr 256 (kint .u8)) p1.firm, RowF w0_1 102 k_disk_write p1.loose]).Nodup) (u0 : (ptrB b00 0).holds ok w0 z0) (u1 : ((kint .i64).V p2).holds ok w0 z1) :
 GivesX Tryd.prog 26 [z0, z1] ok w0 [BF b00 68 (ko_disk_Disk_0_1 w0_0 w0_1) (⟨[], [], p1.fuse, p1.dead⟩ : disk_Disk), RowF w0_0 100 (karr 256 (kint .u8)) p1.firm, RowF w0_1 102 k_disk_write p1.loose] (fun g : Value × Value => resFact []) (fun g : Value × Value => [BF b00 68 (ko_disk_Disk_0_1 (g.1) (g.2)) (⟨[], [], r.fuse, r.dead⟩ : disk_Disk), RowF (g.1) 100 (karr 256 (kint .u8)) r.firm, RowF (g.2) 102 k_disk_write r.loose]) := by
 unfold disk_Disk_Fuse at h0
 refine enterX (N := 11) Tryd.func26 rfl rfl (of_decide_eq_true rfl) (.cons u0 (.cons u1 .nil)) nd l0 d0 fun a1 s1 => ?_
 refine wp_seq_k fun K1 hK1 => wp_region_lit (qs s1 (.c1 rfl (mv rfl rfl) (.c1 rfl (ob_ptrNotNil (p := some _) rfl pt24 (.tmp rfl) opd_is) (.ce (u 0 rfl (u 1 rfl (u 5 rfl .nil)))))) fun _ _ s4 => wn hK1 ?_); clear s1
 refine cond_t s4 (.tmp rfl) ?_
 refine wp_region_lit (qs s4 (.c1 rfl (mv rfl rfl) (.c1 rfl (mv rfl rfl) (.c1 rfl (ob_max rfl (.tmp rfl) (opd_int rfl)) (.c1 rfl (ob_nilCheck rfl (.tmp rfl)) (.c1 rfl (ob_fieldAddr (off' := 2) rfl Tryd.underlying68 rfl sz3 (by decide) (.tmp rfl) rfl) .cz))))) fun _ _ s9 => ?_); clear s4
 refine seq_opx0 (B' := (fun _ : Unit => [BF b00 68 (ko_disk_Disk_0_1 w0_0 w0_1) (⟨[], [], (if (-1 : Int) > p2 then (-1 : Int) else p2), p1.dead⟩ : disk_Disk), RowF w0_0 100 (karr 256 (kint .u8)) p1.firm, RowF w0_1 102 k_disk_write p1.loose])) s9 rfl rfl (ob_store (A := []) rfl tk3 (.tmp rfl) (.tmp rfl) rfl (lso_disk_Disk_0_1_fuse (⟨[], [], p1.fuse, p1.dead⟩ : disk_Disk) (if (-1 : Int) > p2 then (-1 : Int) else p2)) rfl) fun _ a10 w10 s10 => ?_; clear s9
 refine wpList_nil ?_
 obtain rfl := Option.some.inj h0
 exact leaveXD (D := []) ⟨w0_0, w0_1⟩ s10 rfl (.inr rfl) rfl .nil rfl
theorem c_cabalref12_Disk_Light (k : Nat) (p1 : cabalref12_Disk) (p2 : Int) (r : cabalref12_Disk) (h0 : cabalref12_Disk_Light k p1 p2 = some r) (ok : Ok) (w0 : World) (z0 : Value) (z1 : Value) (b00 : Nat) (w0_0 : Value) (w0_1 : Value) (w0_2 : Value) (l0 : ∀ q, q ∈ [BF b00 49 (ko_cabalref12_Disk_0_1_2 w0_0 w0_1 w0_2) (⟨[], [], [], p1.Fuse, p1.Dead⟩ : cabalref12_Disk), RowF w0_0 9 kstr p1.Firm, RowF w0_1 3 (kint .i64) p1.At, RowF w0_2 9 kstr p1.Data] → q.holds ok w0) (d0 : ∀ c, c ∈ idsOf [BF b00 49 (ko_cabalref12_Disk_0_1_2 w0_0 w0_1 w0_2) (⟨[], [], [], p1.Fuse, p1.Dead⟩ : cabalref12_Disk), RowF w0_0 9 kstr p1.Firm, RowF w0_1 3 (kint .i64) p1.At, RowF w0_2 9 kstr p1.Data] → ¬ ok c) (nd : (idsOf [BF b00 49 (ko_cabalref12_Disk_0_1_2 w0_0 w0_1 w0_2) (⟨[], [], [], p1.Fuse, p1.Dead⟩ : cabalref12_Disk), RowF w0_0 9 kstr p1.Firm, RowF w0_1 3 (kint .i64) p1.At, RowF w0_2 9 kstr p1.Data]).Nodup) (u0 : (ptrB b00 0).holds ok w0 z0) (u1 : ((kint .i64).V p2).holds ok w0 z1) :
 GivesX Tryd.prog 27 [z0, z1] ok w0 [BF b00 49 (ko_cabalref12_Disk_0_1_2 w0_0 w0_1 w0_2) (⟨[], [], [], p1.Fuse, p1.Dead⟩ : cabalref12_Disk), RowF w0_0 9 kstr p1.Firm, RowF w0_1 3 (kint .i64) p1.At, RowF w0_2 9 kstr p1.Data] (fun g : Value × Value × Value => resFact []) (fun g : Value × Value × Value => [BF b00 49 (ko_cabalref12_Disk_0_1_2 (g.1) (g.2.1) (g.2.2)) (⟨[], [], [], r.Fuse, r.Dead⟩ : cabalref12_Disk), RowF (g.1) 9 kstr r.Firm, RowF (g.2.1) 3 (kint .i64) r.At, RowF (g.2.2) 9 kstr r.Data]) := by
 unfold cabalref12_Disk_Light at h0
 refine enterX (N := 13) Tryd.func27 rfl rfl (of_decide_eq_true rfl) (.cons u0 (.cons u1 .nil)) nd l0 d0 fun a1 s1 => ?_
 refine wp_seq_k fun K1 hK1 => wp_region_lit (qs s1 (.c1 rfl (mv rfl rfl) (.c1 rfl (mv rfl rfl) (.c1 rfl (ob_nilCheck rfl (.tmp rfl)) (.c1 rfl (ob_fieldAddr (off' := 3) rfl Tryd.underlying49 rfl sz3 (by decide) (.tmp rfl) rfl) .cz)))) fun _ _ s5 => ?_); clear s1
 refine seq_opx0 (B' := (fun _ : Unit => [BF b00 49 (ko_cabalref12_Disk_0_1_2 w0_0 w0_1 w0_2) (⟨[], [], [], p2, p1.Dead⟩ : cabalref12_Disk), RowF w0_0 9 kstr p1.Firm, RowF w0_1 3 (kint .i64) p1.At, RowF w0_2 9 kstr p1.Data])) s5 rfl rfl (ob_store (A := []) rfl tk3 (.tmp rfl) (.tmp rfl) rfl (lso_cabalref12_Disk_0_1_2_Fuse (⟨[], [], [], p1.Fuse, p1.Dead⟩ : cabalref12_Disk) p2) rfl) fun _ a6 w6 s6 => ?_; clear s5
 refine wn hK1 ?_
 have s7 := s6.sub (u 0 rfl (u 1 rfl .nil)); clear s6
 refine wp_seq_k fun K2 hK2 => wp_region_lit (qs s7 (.c1 rfl (mv rfl rfl) (.c1 rfl (ob_lss rfl (.tmp rfl) (opd_int rfl)) (.ce (u 0 rfl (u 9 rfl .nil))))) fun _ _ s10 => wn hK2 ?_); clear s7
 refine cond_split s10 (.tmp rfl) (fun hc1 => ?_) (fun hc1 => ?_)
 ·have h1 := ite_t hc1 h0; clear h0
  refine wp_region_lit (qs s10 (.c1 rfl (mv rfl rfl) (.c1 rfl (ob_nilCheck rfl (.tmp rfl)) (.c1 rfl (ob_fieldAddr (off' := 3) rfl Tryd.underlying49 rfl sz3 (by decide) (.tmp rfl) rfl) .cz))) fun _ _ s13 => ?_); clear s10
  refine seq_opx0 (B' := (fun _ : Unit => [BF b00 49 (ko_cabalref12_Disk_0_1_2 w0_0 w0_1 w0_2) (⟨[], [], [], (-1 : Int), p1.Dead⟩ : cabalref12_Disk), RowF w0_0 9 kstr p1.Firm, RowF w0_1 3 (kint .i64) p1.At, RowF w0_2 9 kstr p1.Data])) s13 rfl rfl (ob_store (A := []) rfl tk3 (.tmp rfl) (opd_int rfl) rfl (lso_cabalref12_Disk_0_1_2_Fuse (⟨[], [], [], p2, p1.Dead⟩ : cabalref12_Disk) (-1 : Int)) rfl) fun _ a14 w14 s14 => ?_; clear s13
  refine wpList_nil ?_
  obtain rfl := Option.some.inj h1
  exact leaveXD (D := []) ⟨w0_0, w0_1, w0_2⟩ s14 rfl (.inr rfl) rfl .nil rfl
 ·have h2 := ite_f hc1 h0; clear h0
  refine wp_skip ?_
  obtain rfl := Option.some.inj h2
  exact leaveXD (D := []) ⟨w0_0, w0_1, w0_2⟩ s10 rfl (.inr rfl) rfl .nil rfl
theorem c_disk_Disk_Crash_1 (k : Nat) (p1 : Int) (p2 : (List Int)) (r : Int) (h0 : disk_Disk_Crash_1 k p1 p2 = some r) (ok : Ok) (w0 : World) (z0 : Value) (z1 : Value) (u0 : ((kint .i64).V p1).holds ok w0 z0) (u1 : (ptrTo (ksl (kint .u8)) p2).holds ok w0 z1) :
 Gives Tryd.prog 38 [z0, z1] ok w0 (resFact [(kint .i64).V r]) := by
 unfold disk_Disk_Crash_1 at h0
 refine enter (N := 14) Tryd.func38 rfl rfl (of_decide_eq_true rfl) (.cons u0 (.cons u1 .nil)) fun a1 s1 => ?_
 refine wp_seq_k fun K1 hK1 => wp_region_lit (qs s1 (.c1 rfl (ob_assign rfl (opd_int rfl)) (.ce (u 0 rfl (u 1 rfl .nil)))) fun _ _ s3 => wn hK1 ?_); clear s1
 refine wp_seq_k fun K2 hK2 => wp_seq_k fun K3 hK3 => ?_
 refine wp_region_lit (qs s3 (.c1 rfl (mv rfl rfl) (.c1 rfl (ob_loadr rfl tk31 (.tmp rfl)) (.c1 rfl (ob_lens rfl Tryd.underlying31 (.tmp rfl)) (.c1 rfl (ob_lss rfl (.tmp rfl) (.tmp rfl)) (.ce (u 0 rfl (u 1 rfl (u 7 rfl .nil)))))))) fun _ _ s8 => wn hK3 ?_); clear s3
 refine cond_split s8 (.tmp rfl) (fun hc1 => ?_) (fun hc1 => ?_)
 ·have h1 := ite_t hc1 h0; clear h0
  obtain ⟨x1, e_x1, h2⟩ := bind_some h1; clear h1
  refine wp_seq_k fun K4 hK4 => wp_region_lit (qs s8 (.c1 rfl (ob_loadr rfl tk31 (.tmp rfl)) (.c1 rfl (mv rfl rfl) (.c1 rfl (ob_indexAddrs rfl Tryd.underlying31 sz5 (.tmp rfl) (.tmp rfl) e_x1) (.c1 rfl (ob_loadr rfl tk5 (.tmp rfl)) (.c1 rfl (ob_rem rfl (.tmp rfl) (opd_int rfl) (by decide)) (.c1 rfl (ob_conv rfl _ Tryd.underlying5 Tryd.underlying3 (.tmp rfl)) (.c1 rfl (ob_assign rfl (.tmp rfl)) (.ce (u 3 rfl .nil))))))))) fun _ _ s16 => wn hK4 ?_); clear s8
  refine wp_ret ?_
  obtain rfl := Option.some.inj h2
  exact leave s16 (.inl rfl) rfl (.cons (.tmp rfl) .nil)
 ·have h3 := ite_f hc1 h0; clear h0
  refine wp_skip ?_
  refine then_normal (hK2 _ _ ?_)
  have s17 := s8.sub .nil; clear s8
  refine wp_seq_k fun K5 hK5 => wp_region_lit (qs s17 (.c1 rfl (ob_assign rfl (opd_int rfl)) (.ce (u 3 rfl .nil))) fun _ _ s19 => wn hK5 ?_); clear s17
  refine wp_ret ?_
  obtain rfl := Option.some.inj h3
  exact leave s19 (.inl rfl) rfl (.cons (.tmp rfl) .nil)
theorem c_disk_Disk_settle_disk_Disk_Crash_1 (k : Nat) (p1 : disk_Disk) (p2 : (List Int)) (r : disk_Disk) (h0 : disk_Disk_settle_disk_Disk_Crash_1 k p1 p2 = some r) (ok : Ok) (w0 : World) (z0 : Value) (z1 : Value) (b00 : Nat) (w0_0 : Value) (w0_1 : Value) (l0 : ∀ q, q ∈ [BF b00 68 (ko_disk_Disk_0_1 w0_0 w0_1) (⟨[], [], p1.fuse, p1.dead⟩ : disk_Disk), RowF w0_0 100 (karr 256 (kint .u8)) p1.firm, RowF w0_1 102 k_disk_write p1.loose] → q.holds ok w0) (d0 : ∀ c, c ∈ idsOf [BF b00 68 (ko_disk_Disk_0_1 w0_0 w0_1) (⟨[], [], p1.fuse, p1.dead⟩ : disk_Disk), RowF w0_0 100 (karr 256 (kint .u8)) p1.firm, RowF w0_1 102 k_disk_write p1.loose] → ¬ ok c) (nd : (idsOf [BF b00 68 (ko_disk_Disk_0_1 w0_0 w0_1) (⟨[], [], p1.fuse, p1.dead⟩ : disk_Disk), RowF w0_0 100 (karr 256 (kint .u8)) p1.firm, RowF w0_1 102 k_disk_write p1.loose]).Nodup) (u0 : (ptrB b00 0).holds ok w0 z0) (u1 : (cloF 38 [] [(ptrTo (ksl (kint .u8)) p2)]).holds ok w0 z1) :
 GivesX Tryd.prog 37 [z0, z1] ok w0 [BF b00 68 (ko_disk_Disk_0_1 w0_0 w0_1) (⟨[], [], p1.fuse, p1.dead⟩ : disk_Disk), RowF w0_0 100 (karr 256 (kint .u8)) p1.firm, RowF w0_1 102 k_disk_write p1.loose] (fun g : Value × Value => resFact []) (fun g : Value × Value => [BF b00 68 (ko_disk_Disk_0_1 (g.1) (g.2)) (⟨[], [], r.fuse, r.dead⟩ : disk_Disk), RowF (g.1) 100 (karr 256 (kint .u8)) r.firm, RowF (g.2) 102 k_disk_write r.loose]) := by
 unfold disk_Disk_settle_disk_Disk_Crash_1 at h0
 refine enterX (N := 38) Tryd.func37 rfl rfl (of_decide_eq_true rfl) (.cons u0 (.cons u1 .nil)) nd l0 d0 fun a1 s1 => ?_
 refine wp_seq_k fun K1 hK1 => wp_seq_k fun K2 hK2 => ?_
 refine wp_region_lit (qs s1 (.c1 rfl (mv rfl rfl) (.c1 rfl (ob_nilCheck rfl (.tmp rfl)) (.c1 rfl (ob_fieldAddr (off' := 1) rfl Tryd.underlying68 rfl sz66 (by decide) (.tmp rfl) rfl) (.c1 rfl (ob_loadRowV rfl (tkr66 _) (.tmp rfl) (.head _) (lgo_disk_Disk_0_1_loose (⟨[], [], p1.fuse, p1.dead⟩ : disk_Disk))) (.c1 rfl (ob_lenRow rfl Tryd.underlying66 (.tmp rfl) (.tail _ (.tail _ (.head _)))) (.c1 rfl (ob_move rfl (opd_int rfl)) (.ce (u 0 rfl (u 1 rfl (u 10 rfl (u 11 rfl (u 12 rfl .nil)))))))))))) fun _ _ s8 => wn hK2 ?_); clear s1
 have hj1 : ∀ (y1 : (List (List Int))) (a : Act) (w : World), (disk_Disk_settle_disk_Disk_Crash_1.j1 k p1) y1 = some r → St ⟨38, w0, ok, (idsOf [BF b00 68 (ko_disk_Disk_0_1 w0_0 w0_1) (⟨[], [], p1.fuse, p1.dead⟩ : disk_Disk), RowF w0_0 100 (karr 256 (kint .u8)) p1.firm, RowF w0_1 102 k_disk_write p1.loose])⟩ [BF b00 68 (ko_disk_Disk_0_1 w0_0 w0_1) (⟨[], [], p1.fuse, p1.dead⟩ : disk_Disk), RowF w0_0 100 (karr 256 (kint .u8)) y1, RowF w0_1 102 k_disk_write p1.loose] [(0, (ptrB b00 0))] a w → K1 a w := by
  intro y1 a9 w9 h1 s9
  unfold disk_Disk_settle_disk_Disk_Crash_1.j1 at h1
  refine hK1 _ _ ?_
  refine wp_region_lit (qs s9 (.c1 rfl (mv rfl rfl) (.c1 rfl (ob_nilCheck rfl (.tmp rfl)) (.c1 rfl (ob_fieldAddr (off' := 1) rfl Tryd.underlying68 rfl sz66 (by decide) (.tmp rfl) rfl) .cz))) fun _ _ s12 => ?_); clear s9
  have s13 := St.adopt s12 (G := RowF (nilRow 19) 102 k_disk_write []) rfl (rowNilN _ _ _ _ _); clear s12
  refine seq_opx0 (B' := (fun _ : Unit => [RowF (nilRow 19) 102 k_disk_write ([] : (List disk_write)), BF b00 68 (ko_disk_Disk_0_1 w0_0 (nilRow 19)) (⟨[], [], p1.fuse, p1.dead⟩ : disk_Disk), RowF w0_0 100 (karr 256 (kint .u8)) y1, RowF w0_1 102 k_disk_write p1.loose])) s13 rfl rfl (ob_storeRowV (A := [_]) rfl (tkr66 _) (.tmp rfl) opd_is (.head _) rfl (lsk_disk_Disk_0_1_to_0_1_at1 (⟨[], [], p1.fuse, p1.dead⟩ : disk_Disk)) rfl) fun _ a14 w14 s14 => ?_; clear s13
  refine wpList_nil ?_
  have s15 := s14.perm (toFront [_] (toFront [_] (toFront [] (List.Perm.refl _)))); clear s14
  obtain rfl := Option.some.inj h1
  exact leaveXD (D := [_]) ⟨w0_0, (nilRow 19)⟩ s15 rfl (.inr rfl) rfl .nil rfl
 refine wp_block ?_
 have s16 := s8.perm (toFront [] (toFront [_] (toFront [] (List.Perm.refl _)))); clear s8
 refine wp_loop_fuel (fun m (q : Int × (List (List Int))) => disk_Disk_settle_disk_Disk_Crash_1.l1 k p1 p2 m q.1 q.2) r (fun _ => rfl) (fun q a w => St ⟨38, w0, ok, (idsOf [BF b00 68 (ko_disk_Disk_0_1 w0_0 w0_1) (⟨[], [], p1.fuse, p1.dead⟩ : disk_Disk), RowF w0_0 100 (karr 256 (kint .u8)) p1.firm, RowF w0_1 102 k_disk_write p1.loose])⟩ [BF b00 68 (ko_disk_Disk_0_1 w0_0 w0_1) (⟨[], [], p1.fuse, p1.dead⟩ : disk_Disk), RowF w0_1 102 k_disk_write p1.loose, RowF w0_0 100 (karr 256 (kint .u8)) q.2] [(0, (ptrB b00 0)), (1, (cloF 38 [] [(ptrTo (ksl (kint .u8)) p2)])), (10, (is w0_1)), (11, ((kint .i64).V (p1.loose.length : Int))), (12, ((kint .i64).V q.1))] a w) ?_ k ((0 : Int), p1.firm) _ _ h0 (s16.sub (.cons rfl (.cons rfl (.cons rfl (.cons rfl (.cons rfl .nil))))))
 rintro n1 ⟨y2, y3⟩ a17 w17 h2 s17 K3 hK3
 replace h2 : disk_Disk_settle_disk_Disk_Crash_1.l1 k p1 p2 (n1 + 1) y2 y3 = some r := h2; rw [disk_Disk_settle_disk_Disk_Crash_1.l1] at h2
 have h3 := h2; clear h2
 refine wp_seq_k fun K4 hK4 => wp_region_lit (qs s17 (.c1 rfl (ob_lss rfl (.tmp rfl) (.tmp rfl)) (.ce (u 0 rfl (u 1 rfl (u 10 rfl (u 11 rfl (u 12 rfl (u 13 rfl .nil)))))))) fun _ _ s19 => wn hK4 ?_); clear s17
 refine wp_seq_k fun K5 hK5 => ?_
 refine cond_split s19 (.tmp rfl) (fun hc1 => ?_) (fun hc1 => ?_)
 ·have h4 := ite_t hc1 h3; clear h3
  refine wp_skip ?_
  refine then_normal (hK5 _ _ ?_)
  have s20 := s19.sub (u 0 rfl (u 1 rfl (u 10 rfl (u 11 rfl (u 12 rfl .nil))))); clear s19
  refine wp_seq_k fun K6 hK6 => wp_block ?_
  obtain ⟨g1, h5⟩ := guard_some h4; clear h4
  obtain ⟨x1, e_x1, h6⟩ := bind_some h5; clear h5
  refine wp_seq_k fun K7 hK7 => wp_region_lit (qs s20 (.c1 rfl (mv rfl rfl) (.c1 rfl (ob_rowAt rfl Tryd.underlying66 sz102 (.tmp rfl) (.tail _ (.head _)) (.tmp rfl) g1) (.c1 rfl (ob_rowLoad rfl tk102 (.tmp rfl) (.tail _ (.head _)) (LG.arrA e_x1)) .cz))) fun _ _ s23 => ?_); clear s20
  refine qx (B' := (fun b1 : Nat => [BF b1 102 k_disk_write (⟨(0 : Int), (List.replicate 256 (0 : Int))⟩ : disk_write), BF b00 68 (ko_disk_Disk_0_1 w0_0 w0_1) (⟨[], [], p1.fuse, p1.dead⟩ : disk_Disk), RowF w0_1 102 k_disk_write p1.loose, RowF w0_0 100 (karr 256 (kint .u8)) y3])) s23 rfl (ob_new (k := k_disk_write) rfl zz102 (Zr.iso (f := t_disk_write) (x := (⟨(0 : Int), (List.replicate 256 (0 : Int))⟩ : disk_write)) (Zr.pair (Zr.int .i64) (Zr.pair (Zr.arr 256 (Zr.int .u8)) Zr.nil)))) fun b1 _ _ s24 => ?_; clear s23
  refine qs s24 (.c1 rfl (ob_assign rfl (.tmp rfl)) .cz) fun _ _ s25 => ?_; clear s24
  refine seq_opx0 (B' := (fun _ : Unit => [BF b1 102 k_disk_write x1, BF b00 68 (ko_disk_Disk_0_1 w0_0 w0_1) (⟨[], [], p1.fuse, p1.dead⟩ : disk_Disk), RowF w0_1 102 k_disk_write p1.loose, RowF w0_0 100 (karr 256 (kint .u8)) y3])) s25 rfl rfl (ob_store (A := []) rfl tk102 (.tmp rfl) (.tmp rfl) rfl (LS.refl _ _ _) rfl) fun _ a26 w26 s26 => ?_; clear s25
  refine wn hK7 ?_
  have s27 := s26.sub (u 0 rfl (u 1 rfl (u 4 rfl (u 5 rfl (u 10 rfl (u 11 rfl (u 12 rfl .nil))))))); clear s26
  obtain ⟨x2, e_x2, h7⟩ := bind_some h6; clear h6
  refine wp_seq_k fun K8 hK8 => wp_region_lit (qs s27 (.c1 rfl (mv rfl rfl) (.c1 rfl (mv rfl rfl) (.c1 rfl (ob_callD (args := [_]) rfl (.clo (.tmp rfl)) hb38 (fun a w s fs gs hf hg => by obtain rfl := hf.unnil; obtain ⟨u0, _, rfl, fu0, hg⟩ := hg.uncons; obtain rfl := hg.unnil; exact c_disk_Disk_Crash_1 k _ _ _ e_x2 _ _ _ _ (s.arg (.tmp rfl)) fu0)) (.c1 rfl (ob_mul rfl (.tmp rfl) (opd_int rfl)) (.c1 rfl (ob_assign rfl (.tmp rfl)) (.ce (u 0 rfl (u 1 rfl (u 5 rfl (u 6 rfl (u 10 rfl (u 11 rfl (u 12 rfl .nil))))))))))))) fun _ _ s33 => wn hK8 ?_); clear s27
  obtain ⟨g2, h8⟩ := guard_some h7; clear h7
  obtain ⟨g3, h9⟩ := guard_some h8; clear h8
  obtain ⟨g4, h10⟩ := guard_some h9; clear h9
  refine wp_goes (Fs := [(ptrB b00 0), (ptrB b00 0), (ptrB b00 0), (is w0_0), (ptrB b1 0), ((kint .i64).V x1.at_), (ptrR w0_0 (x1.at_.toNat * 256)), ((kint .i64).V (imul .i64 x2 (64 : Int))), (slR w0_0 (soff 256 (x1.at_.toNat * 256) (0 : Int).toNat 1) ((imul .i64 x2 (64 : Int)).toNat - (0 : Int).toNat) (256 - (0 : Int).toNat)), (ptrB b1 1), ((kint .i64).V (imul .i64 x2 (64 : Int))), (is (.slice (some ⟨b1, soff 256 1 (0 : Int).toNat 1, none⟩) ((imul .i64 x2 (64 : Int)).toNat - (0 : Int).toNat) (256 - (0 : Int).toNat)))]) (bits := [0, 1, 3, 7, 0, 16, 63, 0, 255, 0, 0, 1536, 4095]) (m := 12) (todo := 0) mx s33 ?_; clear s33
  refine goes_last (by kernel_rfl) rfl (oc (av 0 rfl rfl Av.nil) rfl rfl (mv rfl rfl) (oc (an 0 rfl rfl rfl Av.nil) rfl rfl (ob_nilCheck rfl (.tmp rfl)) (oc (an 1 rfl rfl rfl Av.nil) rfl rfl (ob_fieldAddr (off' := 0) rfl Tryd.underlying68 rfl sz65 (by decide) (.tmp rfl) rfl) (oc (an 2 rfl rfl rfl Av.nil) rfl rfl (ob_loadRowV rfl (tkr65 _) (.tmp rfl) (.tail _ (.head _)) (lgo_disk_Disk_0_1_firm (⟨[], [], p1.fuse, p1.dead⟩ : disk_Disk))) (oc (av 5 rfl rfl Av.nil) rfl rfl (ob_fieldAddr (off' := 0) rfl Tryd.underlying102 rfl sz3 (by decide) (.tmp rfl) rfl) (oc (an 4 rfl rfl rfl Av.nil) rfl rfl (ob_load rfl tk3 (.tmp rfl) (.head _) (lg_disk_write_at_ x1)) (oc (an 3 rfl rfl rfl (an 5 rfl rfl rfl Av.nil)) rfl rfl (ob_rowAt rfl Tryd.underlying65 sz100 (.tmp rfl) (.tail _ (.tail _ (.tail _ (.head _)))) (.tmp rfl) g2) (oc (av 6 rfl rfl Av.nil) rfl rfl (mv rfl rfl) (oc (an 6 rfl rfl rfl (an 7 rfl rfl rfl Av.nil)) rfl rfl (ob_sliceRow rfl Tryd.underlying100 sz5 (.tmp rfl) .none (.some (.tmp rfl)) g3) (oc (av 5 rfl rfl Av.nil) rfl rfl (ob_fieldAddr (off' := 1) rfl Tryd.underlying102 rfl sz100 (by decide) (.tmp rfl) rfl) (oc (av 6 rfl rfl Av.nil) rfl rfl (mv rfl rfl) (oc (an 9 rfl rfl rfl (an 10 rfl rfl rfl Av.nil)) rfl rfl (ob_sliceArr rfl Tryd.underlying100 sz5 (.tmp rfl) .none (.some (.tmp rfl)) g4) opsS_nil)))))))))))) (out_old (t := 0) rfl rfl (out_old (t := 1) rfl rfl (out_old (t := 10) rfl rfl (out_old (t := 11) rfl rfl (out_old (t := 12) rfl rfl (out_new (i := 8) (by decide) rfl rfl (out_new (i := 11) (by decide) rfl rfl out_nil))))))) fun _ _ s34 => ?_
  obtain ⟨x3, e_x3, h11⟩ := bind_some h10; clear h10
  obtain ⟨g5, h12⟩ := guard_some h11; clear h11
  obtain ⟨x4, e_x4, h13⟩ := bind_some h12; clear h12
  obtain ⟨x5, e_x5, h14⟩ := bind_some h13; clear h13
  refine qx (B' := (fun _ : Unit => [BF b1 102 k_disk_write x1, BF b00 68 (ko_disk_Disk_0_1 w0_0 w0_1) (⟨[], [], p1.fuse, p1.dead⟩ : disk_Disk), RowF w0_1 102 k_disk_write p1.loose, RowF w0_0 100 (karr 256 (kint .u8)) x5])) s34 rfl ((ob_lendX (L := [_, _, _]) (List.Perm.refl _) (.cons (t := 32) rfl (lendSlB (.head _) (lg_disk_write_data x1) e_x3 rfl (cut_len e_x3) (cut_cap e_x3 g4 (by decide))) .nil) (fun _ => (Flat.V (KFlat.int _))) (fun _ => (.cons (FlatO.row (KFlat.arr (KFlat.int _))) FlatL.nil)) (fun _ _ => ob_copyR (A := []) rfl Tryd.underlying31 sz5 rfl (.tmp rfl) (srcSl rfl (.tmp rfl)) rfl rfl (sl_fit g3) g5 (LG.arrA e_x4) (LS.arrS e_x5) rfl (by decide)))) fun _ _ _ s35 => ?_; clear s34
  refine wpList_nil ?_
  refine in_normal ?_
  refine then_normal (hK6 _ _ ?_)
  have s36 := s35.sub (u 0 rfl (u 1 rfl (u 10 rfl (u 11 rfl (u 12 rfl .nil))))); clear s35
  have s37 := St.drop (A := []) s36; clear s36
  refine wp_region_lit (qs s37 (.c1 rfl (ob_add rfl (.tmp rfl) (opd_int rfl)) (.c1 rfl (mv rfl rfl) .cz)) fun _ _ s39 => ?_); clear s37
  refine wpList_nil ?_
  refine then_normal ?_
  exact hK3 ((iadd .i64 y2 (1 : Int)), x5) _ _ h14 (s39.sub (.cons rfl (.cons rfl (.cons rfl (.cons rfl (.cons rfl .nil))))))
 ·have h15 := ite_f hc1 h3; clear h3
  refine wp_exit ?_
  refine (then_exit (then_exit (in_here ?_)))
  refine then_normal ?_
  have s40 := s19.perm (toFront [] (toFront [_] (toFront [] (List.Perm.refl _)))); clear s19
  exact hj1 y3 _ _ h15 (s40.sub (.cons rfl .nil))
theorem c_disk_Disk_Crash (k : Nat) (p1 : disk_Disk) (p2 : (List Int)) (r : disk_Disk) (h0 : disk_Disk_Crash k p1 p2 = some r) (ok : Ok) (w0 : World) (z0 : Value) (z1 : Value) (b00 : Nat) (w0_0 : Value) (w0_1 : Value) (l0 : ∀ q, q ∈ [BF b00 68 (ko_disk_Disk_0_1 w0_0 w0_1) (⟨[], [], p1.fuse, p1.dead⟩ : disk_Disk), RowF w0_0 100 (karr 256 (kint .u8)) p1.firm, RowF w0_1 102 k_disk_write p1.loose] → q.holds ok w0) (d0 : ∀ c, c ∈ idsOf [BF b00 68 (ko_disk_Disk_0_1 w0_0 w0_1) (⟨[], [], p1.fuse, p1.dead⟩ : disk_Disk), RowF w0_0 100 (karr 256 (kint .u8)) p1.firm, RowF w0_1 102 k_disk_write p1.loose] → ¬ ok c) (nd : (idsOf [BF b00 68 (ko_disk_Disk_0_1 w0_0 w0_1) (⟨[], [], p1.fuse, p1.dead⟩ : disk_Disk), RowF w0_0 100 (karr 256 (kint .u8)) p1.firm, RowF w0_1 102 k_disk_write p1.loose]).Nodup) (u0 : (ptrB b00 0).holds ok w0 z0) (u1 : ((ksl (kint .u8)).V p2).holds ok w0 z1) :
 GivesX Tryd.prog 10 [z0, z1] ok w0 [BF b00 68 (ko_disk_Disk_0_1 w0_0 w0_1) (⟨[], [], p1.fuse, p1.dead⟩ : disk_Disk), RowF w0_0 100 (karr 256 (kint .u8)) p1.firm, RowF w0_1 102 k_disk_write p1.loose] (fun g : Value × Value => resFact []) (fun g : Value × Value => [BF b00 68 (ko_disk_Disk_0_1 (g.1) (g.2)) (⟨[], [], r.fuse, r.dead⟩ : disk_Disk), RowF (g.1) 100 (karr 256 (kint .u8)) r.firm, RowF (g.2) 102 k_disk_write r.loose]) := by
 unfold disk_Disk_Crash at h0
 refine enterX (N := 15) Tryd.func10 rfl rfl (of_decide_eq_true rfl) (.cons u0 (.cons u1 .nil)) nd l0 d0 fun a1 s1 => ?_
 refine wp_seq_k fun K1 hK1 => wp_region_lit ?_
 refine qx (B' := (fun b1 : Nat => [BF b1 31 (ksl (kint .u8)) p2, BF b00 68 (ko_disk_Disk_0_1 w0_0 w0_1) (⟨[], [], p1.fuse, p1.dead⟩ : disk_Disk), RowF w0_0 100 (karr 256 (kint .u8)) p1.firm, RowF w0_1 102 k_disk_write p1.loose])) s1 rfl (ob_box rfl (.tmp rfl)) fun b1 _ _ s2 => ?_; clear s1
 refine wn hK1 ?_
 have s3 := s2.sub (u 0 rfl (u 3 rfl .nil)); clear s2
 refine wp_seq_k fun K2 hK2 => wp_seq_k fun K3 hK3 => ?_
 refine wp_region_lit (qs s3 (.c1 rfl (mv rfl rfl) (.c1 rfl (ob_ptrNil (p := some _) rfl pt24 (.tmp rfl) opd_is) (.ce (u 0 rfl (u 3 rfl (u 5 rfl .nil)))))) fun _ _ s6 => wn hK3 ?_); clear s3
 refine cond_f s6 (.tmp rfl) ?_
 refine wp_skip ?_
 refine then_normal (hK2 _ _ ?_)
 have s7 := s6.sub (u 0 rfl (u 3 rfl .nil)); clear s6
 obtain ⟨x1, e_x1, h1⟩ := bind_some h0; clear h0
 refine wp_seq_k fun K4 hK4 => wp_region_lit (qs s7 (.c1 rfl (mv rfl rfl) (.c1 rfl (ob_makeFn (xs := []) (ys := [_]) rfl .nil (.cons (.tmp rfl) .nil)) .cz)) fun _ _ s9 => ?_); clear s7
 refine qx (B' := (fun gg : Value × Value => [BF b1 31 (ksl (kint .u8)) p2, BF b00 68 (ko_disk_Disk_0_1 gg.1 gg.2) (⟨[], [], x1.fuse, x1.dead⟩ : disk_Disk), RowF gg.1 100 (karr 256 (kint .u8)) x1.firm, RowF gg.2 102 k_disk_write x1.loose])) s9 rfl ((ob_lendX (L := [_]) (List.Perm.refl _) (.cons (t := 7) rfl (lendClo .nil (.cons (lendPtrB (.head _) (LG.refl _ _)) .nil)) .nil) (fun _ => (Flat.res0)) (fun _ => (.cons (FlatO.bf (KFlat.iso (KFlat.pair (KFlat.kis _) (KFlat.pair (KFlat.kis _) (KFlat.pair (KFlat.int _) (KFlat.pair KFlat.bool KFlat.nil)))))) (.cons (FlatO.row (KFlat.arr (KFlat.int _))) (.cons (FlatO.row kf_disk_write) FlatL.nil)))) (fun _ _ => ob_callL0 (args := [_, _]) (L := [_, _, _]) (D := []) rfl .direct hb37 (List.Perm.refl _) (fun a w s => by exact c_disk_Disk_settle_disk_Disk_Crash_1 k _ _ _ e_x1 _ _ _ _ _ _ _ (ownL s) (disL s) (nodL s) (s.arg (.tmp rfl)) (s.arg (.tmp rfl))) (by exact fun _ => rfl)))) fun gg10 _ _ s10 => ?_; clear s9
 obtain ⟨v1, v2⟩ := gg10
 refine wn hK4 ?_
 have s11 := s10.sub (u 0 rfl .nil); clear s10
 have s12 := St.drop (A := []) s11; clear s11
 refine wp_region_lit (qs s12 (.c1 rfl (mv rfl rfl) (.c1 rfl (mv rfl rfl) (.c1 rfl (ob_nilCheck rfl (.tmp rfl)) (.c1 rfl (ob_fieldAddr (off' := 2) rfl Tryd.underlying68 rfl sz3 (by decide) (.tmp rfl) rfl) .cz)))) fun _ _ s16 => ?_); clear s12
 refine seq_opx0 (B' := (fun _ : Unit => [BF b00 68 (ko_disk_Disk_0_1 v1 v2) (⟨[], [], (-1 : Int), x1.dead⟩ : disk_Disk), RowF v1 100 (karr 256 (kint .u8)) x1.firm, RowF v2 102 k_disk_write x1.loose])) s16 rfl rfl (ob_store (A := []) rfl tk3 (.tmp rfl) (opd_int rfl) rfl (lso_disk_Disk_0_1_fuse (⟨[], [], x1.fuse, x1.dead⟩ : disk_Disk) (-1 : Int)) rfl) fun _ a17 w17 s17 => ?_; clear s16
 refine qs s17 (.c1 rfl (ob_nilCheck rfl (.tmp rfl)) (.c1 rfl (ob_fieldAddr (off' := 3) rfl Tryd.underlying68 rfl sz4 (by decide) (.tmp rfl) rfl) .cz)) fun _ _ s19 => ?_; clear s17
 refine seq_opx0 (B' := (fun _ : Unit => [BF b00 68 (ko_disk_Disk_0_1 v1 v2) (⟨[], [], (-1 : Int), false⟩ : disk_Disk), RowF v1 100 (karr 256 (kint .u8)) x1.firm, RowF v2 102 k_disk_write x1.loose])) s19 rfl rfl (ob_store (A := []) rfl tk4 (.tmp rfl) opd_bool rfl (lso_disk_Disk_0_1_dead (⟨[], [], (-1 : Int), x1.dead⟩ : disk_Disk) false) rfl) fun _ a20 w20 s20 => ?_; clear s19
 refine wpList_nil ?_
 obtain rfl := Option.some.inj h1
 exact leaveXD (D := []) ⟨v1, v2⟩ s20 rfl (.inr rfl) rfl .nil rfl
theorem c_cabalref12_Disk_Crash (k : Nat) (p1 : cabalref12_Disk) (p2 : (List Int)) (r : cabalref12_Disk) (h0 : cabalref12_Disk_Crash k p1 p2 = some r) (ok : Ok) (w0 : World) (z0 : Value) (z1 : Value) (b00 : Nat) (w0_0 : Value) (w0_1 : Value) (w0_2 : Value) (l0 : ∀ q, q ∈ [BF b00 49 (ko_cabalref12_Disk_0_1_2 w0_0 w0_1 w0_2) (⟨[], [], [], p1.Fuse, p1.Dead⟩ : cabalref12_Disk), RowF w0_0 9 kstr p1.Firm, RowF w0_1 3 (kint .i64) p1.At, RowF w0_2 9 kstr p1.Data] → q.holds ok w0) (d0 : ∀ c, c ∈ idsOf [BF b00 49 (ko_cabalref12_Disk_0_1_2 w0_0 w0_1 w0_2) (⟨[], [], [], p1.Fuse, p1.Dead⟩ : cabalref12_Disk), RowF w0_0 9 kstr p1.Firm, RowF w0_1 3 (kint .i64) p1.At, RowF w0_2 9 kstr p1.Data] → ¬ ok c) (nd : (idsOf [BF b00 49 (ko_cabalref12_Disk_0_1_2 w0_0 w0_1 w0_2) (⟨[], [], [], p1.Fuse, p1.Dead⟩ : cabalref12_Disk), RowF w0_0 9 kstr p1.Firm, RowF w0_1 3 (kint .i64) p1.At, RowF w0_2 9 kstr p1.Data]).Nodup) (u0 : (ptrB b00 0).holds ok w0 z0) (u1 : ((ksl (kint .u8)).V p2).holds ok w0 z1) :
 GivesX Tryd.prog 28 [z0, z1] ok w0 [BF b00 49 (ko_cabalref12_Disk_0_1_2 w0_0 w0_1 w0_2) (⟨[], [], [], p1.Fuse, p1.Dead⟩ : cabalref12_Disk), RowF w0_0 9 kstr p1.Firm, RowF w0_1 3 (kint .i64) p1.At, RowF w0_2 9 kstr p1.Data] (fun g : Value × Value × Value => resFact []) (fun g : Value × Value × Value => [BF b00 49 (ko_cabalref12_Disk_0_1_2 (g.1) (g.2.1) (g.2.2)) (⟨[], [], [], r.Fuse, r.Dead⟩ : cabalref12_Disk), RowF (g.1) 9 kstr r.Firm, RowF (g.2.1) 3 (kint .i64) r.At, RowF (g.2.2) 9 kstr r.Data]) := by
 unfold cabalref12_Disk_Crash at h0
 refine enterX (N := 36) Tryd.func28 rfl rfl (of_decide_eq_true rfl) (.cons u0 (.cons u1 .nil)) nd l0 d0 fun a1 s1 => ?_
 refine wp_seq_k fun K1 hK1 => wp_seq_k fun K2 hK2 => ?_
 refine wp_region_lit (qs s1 (.c1 rfl (ob_assign rfl (opd_int rfl)) (.ce (u 0 rfl (u 1 rfl (u 4 rfl .nil))))) fun _ _ s3 => wn hK2 ?_); clear s1
 have hj1 : ∀ (y1 : Int) (y2 : Bool) (y3 : (List (List Int))) (y4 : (List Int)) (y5 : (List (List Int))) (v1 : Value) (v2 : Value) (v3 : Value) (a : Act) (w : World), (cabalref12_Disk_Crash.j1 k) y1 y2 y3 y4 y5 = some r → St ⟨36, w0, ok, (idsOf [BF b00 49 (ko_cabalref12_Disk_0_1_2 w0_0 w0_1 w0_2) (⟨[], [], [], p1.Fuse, p1.Dead⟩ : cabalref12_Disk), RowF w0_0 9 kstr p1.Firm, RowF w0_1 3 (kint .i64) p1.At, RowF w0_2 9 kstr p1.Data])⟩ [BF b00 49 (ko_cabalref12_Disk_0_1_2 v1 v2 v3) (⟨[], [], [], y1, y2⟩ : cabalref12_Disk), RowF v1 9 kstr y3, RowF v2 3 (kint .i64) y4, RowF v3 9 kstr y5] [(0, (ptrB b00 0))] a w → K1 a w := by
  intro y1 y2 y3 y4 y5 v1 v2 v3 a4 w4 h1 s4
  unfold cabalref12_Disk_Crash.j1 at h1
  refine hK1 _ _ ?_
  obtain ⟨x1, e_x1, h2⟩ := bind_some h1; clear h1
  refine wp_seq_k fun K3 hK3 => wp_region_lit (qs s4 (.c1 rfl (mv rfl rfl) .cz) fun _ _ s5 => ?_); clear s4
  refine qx (B' := (fun gg : Value × Value × Value => [BF b00 49 (ko_cabalref12_Disk_0_1_2 gg.1 gg.2.1 gg.2.2) (⟨[], [], [], x1.Fuse, x1.Dead⟩ : cabalref12_Disk), RowF gg.1 9 kstr x1.Firm, RowF gg.2.1 3 (kint .i64) x1.At, RowF gg.2.2 9 kstr x1.Data])) s5 rfl (ob_callL0 (args := [_]) (L := [_, _, _, _]) rfl .direct hb59 (List.Perm.refl _) (fun a w s => by exact c_cabalref12_Disk_clear k _ _ e_x1 _ _ _ _ _ _ _ (ownL s) (disL s) (nodL s) (s.arg (.tmp rfl))) (by exact fun _ => rfl)) fun gg6 _ _ s6 => ?_; clear s5
  obtain ⟨v4, v5, v6⟩ := gg6
  refine wn hK3 ?_
  have s7 := s6.sub (u 0 rfl .nil); clear s6
  refine wp_seq_k fun K4 hK4 => wp_region_lit (qs s7 (.c1 rfl (mv rfl rfl) (.c1 rfl (ob_nilCheck rfl (.tmp rfl)) (.c1 rfl (ob_fieldAddr (off' := 3) rfl Tryd.underlying49 rfl sz3 (by decide) (.tmp rfl) rfl) .cz))) fun _ _ s10 => ?_); clear s7
  refine seq_opx0 (B' := (fun _ : Unit => [BF b00 49 (ko_cabalref12_Disk_0_1_2 v4 v5 v6) (⟨[], [], [], (-1 : Int), x1.Dead⟩ : cabalref12_Disk), RowF v4 9 kstr x1.Firm, RowF v5 3 (kint .i64) x1.At, RowF v6 9 kstr x1.Data])) s10 rfl rfl (ob_store (A := []) rfl tk3 (.tmp rfl) (opd_int rfl) rfl (lso_cabalref12_Disk_0_1_2_Fuse (⟨[], [], [], x1.Fuse, x1.Dead⟩ : cabalref12_Disk) (-1 : Int)) rfl) fun _ a11 w11 s11 => ?_; clear s10
  refine wn hK4 ?_
  have s12 := s11.sub (u 0 rfl .nil); clear s11
  refine wp_region_lit (qs s12 (.c1 rfl (mv rfl rfl) (.c1 rfl (ob_nilCheck rfl (.tmp rfl)) (.c1 rfl (ob_fieldAddr (off' := 4) rfl Tryd.underlying49 rfl sz4 (by decide) (.tmp rfl) rfl) .cz))) fun _ _ s15 => ?_); clear s12
  refine seq_opx0 (B' := (fun _ : Unit => [BF b00 49 (ko_cabalref12_Disk_0_1_2 v4 v5 v6) (⟨[], [], [], (-1 : Int), false⟩ : cabalref12_Disk), RowF v4 9 kstr x1.Firm, RowF v5 3 (kint .i64) x1.At, RowF v6 9 kstr x1.Data])) s15 rfl rfl (ob_store (A := []) rfl tk4 (.tmp rfl) opd_bool rfl (lso_cabalref12_Disk_0_1_2_Dead (⟨[], [], [], (-1 : Int), x1.Dead⟩ : cabalref12_Disk) false) rfl) fun _ a16 w16 s16 => ?_; clear s15
  refine wpList_nil ?_
  obtain rfl := Option.some.inj h2
  exact leaveXD (D := []) ⟨v4, v5, v6⟩ s16 rfl (.inr rfl) rfl .nil rfl
 refine wp_block ?_
 refine wp_loop_fuel (fun m (q : Int × Int × Bool × (List (List Int)) × (List Int) × (List (List Int))) => cabalref12_Disk_Crash.l1 k p2 m q.1 q.2.1 q.2.2.1 q.2.2.2.1 q.2.2.2.2.1 q.2.2.2.2.2) r (fun _ => rfl) (fun q a w => ∃ (v7 : Value) (v8 : Value) (v9 : Value), St ⟨36, w0, ok, (idsOf [BF b00 49 (ko_cabalref12_Disk_0_1_2 w0_0 w0_1 w0_2) (⟨[], [], [], p1.Fuse, p1.Dead⟩ : cabalref12_Disk), RowF w0_0 9 kstr p1.Firm, RowF w0_1 3 (kint .i64) p1.At, RowF w0_2 9 kstr p1.Data])⟩ [BF b00 49 (ko_cabalref12_Disk_0_1_2 v7 v8 v9) (⟨[], [], [], q.2.1, q.2.2.1⟩ : cabalref12_Disk), RowF v7 9 kstr q.2.2.2.1, RowF v8 3 (kint .i64) q.2.2.2.2.1, RowF v9 9 kstr q.2.2.2.2.2] [(0, (ptrB b00 0)), (1, ((ksl (kint .u8)).V p2)), (4, ((kint .i64).V q.1))] a w) ?_ k ((0 : Int), p1.Fuse, p1.Dead, p1.Firm, p1.At, p1.Data) _ _ h0 ⟨w0_0, w0_1, w0_2, (s3.sub (.cons rfl (.cons rfl (.cons rfl .nil))))⟩
 rintro n1 ⟨y6, y7, y8, y9, y10, y11⟩ a17 w17 h3 ⟨v7, v8, v9, s17⟩ K5 hK5
 replace h3 : cabalref12_Disk_Crash.l1 k p2 (n1 + 1) y6 y7 y8 y9 y10 y11 = some r := h3; rw [cabalref12_Disk_Crash.l1] at h3
 have h4 := h3; clear h3
 refine wp_seq_k fun K6 hK6 => wp_seq_k fun K7 hK7 => ?_
 refine wp_region_lit (qs s17 (.c1 rfl (mv rfl rfl) (.c1 rfl (mv rfl rfl) (.c1 rfl (ob_nilCheck rfl (.tmp rfl)) (.c1 rfl (ob_fieldAddr (off' := 1) rfl Tryd.underlying49 rfl sz47 (by decide) (.tmp rfl) rfl) (.c1 rfl (ob_loadRowV rfl (tkr47 _) (.tmp rfl) (.head _) (lgo_cabalref12_Disk_0_1_2_At (⟨[], [], [], y7, y8⟩ : cabalref12_Disk))) (.c1 rfl (ob_lenRow rfl Tryd.underlying47 (.tmp rfl) (.tail _ (.tail _ (.head _)))) (.c1 rfl (ob_lss rfl (.tmp rfl) (.tmp rfl)) (.ce (u 0 rfl (u 1 rfl (u 4 rfl (u 11 rfl .nil)))))))))))) fun _ _ s25 => wn hK7 ?_); clear s17
 refine cond_split s25 (.tmp rfl) (fun hc1 => ?_) (fun hc1 => ?_)
 ·have h5 := ite_t hc1 h4; clear h4
  refine wp_skip ?_
  refine then_normal (hK6 _ _ ?_)
  have s26 := s25.sub (u 0 rfl (u 1 rfl (u 4 rfl .nil))); clear s25
  refine wp_seq_k fun K8 hK8 => ?_
  have hj2 : ∀ (y12 : Int) (y13 : Bool) (y14 : (List (List Int))) (y15 : (List Int)) (y16 : (List (List Int))) (v10 : Value) (v11 : Value) (v12 : Value) (a : Act) (w : World), (cabalref12_Disk_Crash.j2 k y6 (cabalref12_Disk_Crash.l1 k p2 n1)) y12 y13 y14 y15 y16 = some r → St ⟨36, w0, ok, (idsOf [BF b00 49 (ko_cabalref12_Disk_0_1_2 w0_0 w0_1 w0_2) (⟨[], [], [], p1.Fuse, p1.Dead⟩ : cabalref12_Disk), RowF w0_0 9 kstr p1.Firm, RowF w0_1 3 (kint .i64) p1.At, RowF w0_2 9 kstr p1.Data])⟩ [BF b00 49 (ko_cabalref12_Disk_0_1_2 v10 v11 v12) (⟨[], [], [], y12, y13⟩ : cabalref12_Disk), RowF v10 9 kstr y14, RowF v11 3 (kint .i64) y15, RowF v12 9 kstr y16] [(0, (ptrB b00 0)), (1, ((ksl (kint .u8)).V p2)), (4, ((kint .i64).V y6))] a w → K8 a w := by
   intro y12 y13 y14 y15 y16 v10 v11 v12 a27 w27 h6 s27
   unfold cabalref12_Disk_Crash.j2 at h6
   refine hK8 _ _ ?_
   refine wp_region_lit (qs s27 (.c1 rfl (mv rfl rfl) (.c1 rfl (ob_add rfl (.tmp rfl) (opd_int rfl)) (.c1 rfl (ob_assign rfl (.tmp rfl)) .cz))) fun _ _ s30 => ?_); clear s27
   refine wpList_nil ?_
   refine then_normal ?_
   exact hK5 ((iadd .i64 y6 (1 : Int)), y12, y13, y14, y15, y16) _ _ h6 ⟨v10, v11, v12, (s30.sub (.cons rfl (.cons rfl (.cons rfl .nil))))⟩
  refine wp_block ?_
  refine wp_seq_k fun K9 hK9 => wp_region_lit (qs s26 (.c1 rfl (mv rfl rfl) (.c1 rfl (mv rfl rfl) (.c1 rfl (ob_lens rfl Tryd.underlying31 (.tmp rfl)) (.c1 rfl (ob_lss rfl (.tmp rfl) (.tmp rfl)) (.ce (u 0 rfl (u 1 rfl (u 4 rfl (u 17 rfl .nil))))))))) fun _ _ s35 => wn hK9 ?_); clear s26
  refine cond_split s35 (.tmp rfl) (fun hc2 => ?_) (fun hc2 => ?_)
  ·have h7 := ite_t hc2 h5; clear h5
   obtain ⟨x2, e_x2, h8⟩ := bind_some h7; clear h7
   obtain ⟨x3, e_x3, h9⟩ := bind_some h8; clear h8
   refine wp_region_lit (qs s35 (.c1 rfl (mv rfl rfl) (.c1 rfl (mv rfl rfl) (.c1 rfl (mv rfl rfl) (.c1 rfl (mv rfl rfl) (.c1 rfl (ob_indexAddrs rfl Tryd.underlying31 sz5 (.tmp rfl) (.tmp rfl) e_x2) (.c1 rfl (ob_loadr rfl tk5 (.tmp rfl)) (.c1 rfl (ob_rem rfl (.tmp rfl) (opd_int rfl) (by decide)) (.c1 rfl (ob_conv rfl _ Tryd.underlying5 Tryd.underlying3 (.tmp rfl)) (.c1 rfl (ob_mul rfl (opd_int rfl) (.tmp rfl)) .cz))))))))) fun _ _ s44 => ?_); clear s35
   refine qx (B' := (fun gg : Value × Value × Value => [BF b00 49 (ko_cabalref12_Disk_0_1_2 gg.1 gg.2.1 gg.2.2) (⟨[], [], [], x3.Fuse, x3.Dead⟩ : cabalref12_Disk), RowF gg.1 9 kstr x3.Firm, RowF gg.2.1 3 (kint .i64) x3.At, RowF gg.2.2 9 kstr x3.Data])) s44 rfl (ob_callL0 (args := [_, _, _]) (L := [_, _, _, _]) rfl .direct hb58 (List.Perm.refl _) (fun a w s => by exact c_cabalref12_Disk_settle k _ _ _ _ e_x3 _ _ _ _ _ _ _ _ _ (ownL s) (disL s) (nodL s) (s.arg (.tmp rfl)) (s.arg (.tmp rfl)) (s.arg (.tmp rfl))) (by exact fun _ => rfl)) fun gg45 _ _ s45 => ?_; clear s44
   obtain ⟨v13, v14, v15⟩ := gg45
   refine wpList_nil ?_
   refine in_normal ?_
   refine then_normal ?_
   exact hj2 x3.Fuse x3.Dead x3.Firm x3.At x3.Data v13 v14 v15 _ _ h9 (s45.sub (.cons rfl (.cons rfl (.cons rfl .nil))))
  ·have h10 := ite_f hc2 h5; clear h5
   refine wp_skip ?_
   refine in_normal ?_
   refine then_normal ?_
   exact hj2 y7 y8 y9 y10 y11 v7 v8 v9 _ _ h10 (s35.sub (.cons rfl (.cons rfl (.cons rfl .nil))))
 ·have h11 := ite_f hc1 h4; clear h4
  refine wp_exit ?_
  refine (then_exit (then_exit (in_here ?_)))
  refine then_normal ?_
  exact hj1 y7 y8 y9 y10 y11 v7 v8 v9 _ _ h11 (s25.sub (.cons rfl .nil))
theorem c_disk_Disk_Settled (k : Nat) (p1 : disk_Disk) (p2 : Int) (r : (List Int)) (h0 : disk_Disk_Settled k p1 p2 = some r) (ok : Ok) (w0 : World) (z0 : Value) (z1 : Value) (u0 : (ptrTo k_disk_Disk p1).holds ok w0 z0) (u1 : ((kint .i64).V p2).holds ok w0 z1) :
 Gives Tryd.prog 29 [z0, z1] ok w0 (resFact [kstr.V r]) := by
 unfold disk_Disk_Settled at h0
 refine enter (N := 17) Tryd.func29 rfl rfl (of_decide_eq_true rfl) (.cons u0 (.cons u1 .nil)) fun a1 s1 => ?_
 refine wp_seq_k fun K1 hK1 => wp_region_lit (qs s1 (.c1 rfl (ob_assign rfl (opd_str (by rfl) (by decide))) (.ce (u 0 rfl (u 1 rfl .nil)))) fun _ _ s3 => wn hK1 ?_); clear s1
 refine wp_seq_k fun K2 hK2 => wp_seq_k fun K3 hK3 => ?_
 obtain ⟨x1, e_x1, h1⟩ := bind_some h0; clear h0
 refine wp_region_lit (qs s3 (.c1 rfl (mv rfl rfl) (.c1 rfl (mv rfl rfl) (.c1 rfl (ob_callD0 (args := [_, _]) rfl .direct hb60 (fun a w s => by exact c_disk_Disk_has k _ _ _ e_x1 _ _ _ _ (s.arg (.tmp rfl)) (s.arg (.tmp rfl)))) (.c1 rfl (ob_not rfl (.tmp rfl)) (.ce (u 0 rfl (u 1 rfl (u 8 rfl .nil)))))))) fun _ _ s8 => wn hK3 ?_); clear s3
 refine cond_split s8 (.tmp rfl) (fun hc1 => ?_) (fun hc1 => ?_)
 ·have h2 := ite_t hc1 h1; clear h1
  refine wp_seq_k fun K4 hK4 => wp_region_lit (qs s8 (.c1 rfl (ob_assign rfl (opd_str (by rfl) (by decide))) (.ce (u 4 rfl .nil))) fun _ _ s10 => wn hK4 ?_); clear s8
  refine wp_ret ?_
  obtain rfl := Option.some.inj h2
  exact leave s10 (.inl rfl) rfl (.cons (.tmp rfl) .nil)
 ·have h3 := ite_f hc1 h1; clear h1
  refine wp_skip ?_
  refine then_normal (hK2 _ _ ?_)
  have s11 := s8.sub (u 0 rfl (u 1 rfl .nil)); clear s8
  obtain ⟨x2, e_x2, h4⟩ := bind_some h3; clear h3
  obtain ⟨x3, e_x3, h5⟩ := bind_some h4; clear h4
  refine wp_seq_k fun K5 hK5 => wp_region_lit (qs s11 (.c1 rfl (mv rfl rfl) (.c1 rfl (ob_nilCheckr rfl (.tmp rfl)) (.c1 rfl (ob_fieldAddrr rfl Tryd.underlying68 rfl sz65 (by decide) (.tmp rfl) (lg_disk_Disk_firm p1)) (.c1 rfl (ob_loadr rfl tk65 (.tmp rfl)) (.c1 rfl (mv rfl rfl) (.c1 rfl (ob_indexAddrs rfl Tryd.underlying65 sz100 (.tmp rfl) (.tmp rfl) e_x2) (.c1 rfl (ob_sliceArrr rfl Tryd.underlying100 sz5 (.tmp rfl) (by decide) .none .none e_x3) (.c1 rfl (ob_bytesToStr rfl Tryd.underlying31 Tryd.underlying9 Tryd.underlying5 (.tmp rfl)) (.c1 rfl (ob_assign rfl (.tmp rfl)) (.ce (u 4 rfl .nil))))))))))) fun _ _ s21 => wn hK5 ?_); clear s11
  refine wp_ret ?_
  obtain rfl := Option.some.inj h5
  exact leave s21 (.inl rfl) rfl (.cons (.tmp rfl) .nil)
end Go.Proofs.YtjbjladhgmknnaaDoor
