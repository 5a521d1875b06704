/- Several parts of this proof in one file. No condition. -/
import Derived.Test.YtdlnfgpcnfbjiaaGyWalk4
namespace Go.Proofs.Ytdlnfgpcnfbjiaa
open Go Go.RowKit Go.Proofs.Kit Go.Proofs.Pure
set_option linter.unusedVariables false
set_option linter.unusedSimpArgs false
set_option maxRecDepth 100000
set_option maxHeartbeats 2000000
theorem c_cabalref15_Add (k : Nat) (p1 : (List api_Node)) (p2 : (List Int)) (p3 : api_Op) (r : ((List api_Node) × Int)) (h0 : cabalref15_Add k p1 p2 p3 = some r) (ok : Ok) (w0 : World) (z0 : Value) (z1 : Value) (z2 : Value) (u0 : ((ksl k_api_Node).V p1).holds ok w0 z0) (u1 : ((karr 32 (kint .u8)).V p2).holds ok w0 z1) (u2 : (k_api_Op.V p3).holds ok w0 z2) :
 GivesX Try.prog 52 [z0, z1, z2] ok w0 [] (fun g : Value => resFact [is g, (kint .i64).V r.2]) (fun g : Value => [RowF (g) 46 k_api_Node r.1]) := by
 unfold cabalref15_Add at h0
 refine enterX (N := 46) Try.func52 rfl rfl (of_decide_eq_true rfl) (.cons u0 (.cons u1 (.cons u2 .nil))) List.nodup_nil (fun _ h => by cases h) (fun _ h => by cases h) fun a1 s1 => ?_
 refine wp_seq_k fun K1 hK1 => wp_region_lit ?_
 refine qx (B' := (fun b1 : Nat => [BF b1 39 (karr 32 (kint .u8)) p2])) s1 rfl (ob_box rfl (.tmp rfl)) fun b1 _ _ s2 => ?_; clear s1
 refine qx (B' := (fun b2 : Nat => [BF b2 44 k_api_Op p3, BF b1 39 (karr 32 (kint .u8)) p2])) s2 rfl (ob_box rfl (.tmp rfl)) fun b2 _ _ s3 => ?_; clear s2
 refine qs s3 (.c1 rfl (ob_assign rfl opd_is) .cz) fun _ _ s4 => ?_; clear s3
 have s5 := St.adopt s4 (G := RowF (nilRow 25) 46 k_api_Node []) rfl (rowNilN _ _ _ _ _); clear s4
 refine qs s5 (.c1 rfl (ob_assign rfl (opd_int rfl)) (.ce (u 0 rfl (u 4 rfl (u 5 rfl .nil))))) fun _ _ s7 => wn hK1 ?_; clear s5
 have s8 := St.drop (A := []) s7; clear s7
 refine wp_seq_k fun K2 hK2 => wp_seq_k fun K3 hK3 => ?_
 obtain ⟨x1, e_x1, h1⟩ := bind_some h0; clear h0
 refine wp_region_lit (qs s8 (.c1 rfl (ob_load rfl tk44 (.tmp rfl) (.head _) (LG.refl _ _)) (.c1 rfl (ob_callD0 (args := [_]) rfl .direct hb85 (fun a w s => by exact c_cabalref11_Right k _ _ e_x1 _ _ _ (s.arg (.tmp rfl)))) (.c1 rfl (ob_not rfl (.tmp rfl)) (.ce (u 0 rfl (u 4 rfl (u 5 rfl (u 13 rfl .nil)))))))) fun _ _ s12 => wn hK3 ?_); clear s8
 refine cond_split s12 (.tmp rfl) (fun hc1 => ?_) (fun hc1 => ?_)
 ·have h2 := ite_t hc1 h1; clear h1
  refine wp_seq_k fun K4 hK4 => wp_region_lit (qs s12 (.c1 rfl (ob_assign rfl opd_is) .cz) fun _ _ s13 => ?_); clear s12
  have s14 := St.adopt s13 (G := RowF (nilRow 26) 46 k_api_Node []) rfl (rowNilN _ _ _ _ _); clear s13
  refine qs s14 (.c1 rfl (ob_assign rfl (opd_int rfl)) (.ce (u 6 rfl (u 7 rfl .nil)))) fun _ _ s16 => wn hK4 ?_; clear s14
  have s17 := St.drop (A := [_]) s16; clear s16
  have s18 := St.drop (A := [_]) s17; clear s17
  refine wp_ret ?_
  obtain rfl := Option.some.inj h2
  exact leaveXD (D := []) (nilRow 26) s18 rfl (.inl rfl) rfl (.cons (.tmp rfl) (.cons (.tmp rfl) .nil)) rfl
 ·have h3 := ite_f hc1 h1; clear h1
  refine wp_skip ?_
  refine then_normal (hK2 _ _ ?_)
  have s19 := s12.sub (u 0 rfl (u 4 rfl (u 5 rfl .nil))); clear s12
  refine wp_seq_k fun K5 hK5 => wp_seq_k fun K6 hK6 => ?_
  obtain ⟨x2, e_x2, h4⟩ := bind_some h3; clear h3
  refine wp_region_lit (qs s19 (.c1 rfl (mv rfl rfl) (.c1 rfl (ob_load rfl tk39 (.tmp rfl) (.tail _ (.head _)) (LG.refl _ _)) (.c1 rfl (ob_callD0 (args := [_, _]) rfl .direct hb56 (fun a w s => by exact c_cabalref15_Find k _ _ _ e_x2 _ _ _ _ (s.arg (.tmp rfl)) (s.arg (.tmp rfl)))) (.c1 rfl (ob_geq rfl (.tmp rfl) (opd_int rfl)) (.ce (u 0 rfl (u 4 rfl (u 5 rfl (u 17 rfl .nil))))))))) fun _ _ s24 => wn hK6 ?_); clear s19
  refine cond_split s24 (.tmp rfl) (fun hc2 => ?_) (fun hc2 => ?_)
  ·have h5 := ite_t hc2 h4; clear h4
   refine wp_seq_k fun K7 hK7 => wp_region_lit (qs s24 (.c1 rfl (ob_assign rfl opd_is) .cz) fun _ _ s25 => ?_); clear s24
   have s26 := St.adopt s25 (G := RowF (nilRow 27) 46 k_api_Node []) rfl (rowNilN _ _ _ _ _); clear s25
   refine qs s26 (.c1 rfl (ob_assign rfl (opd_int rfl)) (.ce (u 6 rfl (u 7 rfl .nil)))) fun _ _ s28 => wn hK7 ?_; clear s26
   have s29 := St.drop (A := [_]) s28; clear s28
   have s30 := St.drop (A := [_]) s29; clear s29
   refine wp_ret ?_
   obtain rfl := Option.some.inj h5
   exact leaveXD (D := []) (nilRow 27) s30 rfl (.inl rfl) rfl (.cons (.tmp rfl) (.cons (.tmp rfl) .nil)) rfl
  ·have h6 := ite_f hc2 h4; clear h4
   refine wp_skip ?_
   refine then_normal (hK5 _ _ ?_)
   have s31 := s24.sub (u 0 rfl (u 4 rfl (u 5 rfl .nil))); clear s24
   refine wp_seq_k fun K8 hK8 => wp_seq_k fun K9 hK9 => ?_
   refine wp_region_lit (qs s31 (.c1 rfl (mv rfl rfl) (.c1 rfl (ob_lens rfl Try.underlying22 (.tmp rfl)) (.c1 rfl (ob_geq rfl (.tmp rfl) (opd_int rfl)) (.ce (u 0 rfl (u 4 rfl (u 5 rfl (u 20 rfl .nil)))))))) fun _ _ s35 => wn hK9 ?_); clear s31
   refine cond_split s35 (.tmp rfl) (fun hc3 => ?_) (fun hc3 => ?_)
   ·have h7 := ite_t hc3 h6; clear h6
    refine wp_seq_k fun K10 hK10 => wp_region_lit (qs s35 (.c1 rfl (ob_assign rfl opd_is) .cz) fun _ _ s36 => ?_); clear s35
    have s37 := St.adopt s36 (G := RowF (nilRow 28) 46 k_api_Node []) rfl (rowNilN _ _ _ _ _); clear s36
    refine qs s37 (.c1 rfl (ob_assign rfl (opd_int rfl)) (.ce (u 6 rfl (u 7 rfl .nil)))) fun _ _ s39 => wn hK10 ?_; clear s37
    have s40 := St.drop (A := [_]) s39; clear s39
    have s41 := St.drop (A := [_]) s40; clear s40
    refine wp_ret ?_
    obtain rfl := Option.some.inj h7
    exact leaveXD (D := []) (nilRow 28) s41 rfl (.inl rfl) rfl (.cons (.tmp rfl) (.cons (.tmp rfl) .nil)) rfl
   ·have h8 := ite_f hc3 h6; clear h6
    refine wp_skip ?_
    refine then_normal (hK8 _ _ ?_)
    have s42 := s35.sub (u 0 rfl (u 4 rfl (u 5 rfl .nil))); clear s35
    obtain ⟨x3, e_x3, h9⟩ := bind_some h8; clear h8
    refine wp_seq_k fun K11 hK11 => wp_region_lit (qs s42 (.c1 rfl (mv rfl rfl) (.c1 rfl (ob_fieldAddr (off' := 2) rfl Try.underlying44 rfl sz40 (by decide) (.tmp rfl) rfl) (.c1 rfl (ob_load rfl tk40 (.tmp rfl) (.head _) (lg_api_Op_Parents p3)) .cz))) fun _ _ s45 => ?_); clear s42
    refine qx (B' := (fun v1 : Value => [RowF v1 3 (kint .i64) x3.1, BF b2 44 k_api_Op p3, BF b1 39 (karr 32 (kint .u8)) p2])) s45 rfl (ob_callL0 (args := [_, _]) (L := []) rfl .direct hb55 (List.Perm.refl _) (fun a w s => by exact c_cabalref15_Past k _ _ _ e_x3 _ _ _ _ (s.arg (.tmp rfl)) (s.arg (.tmp rfl))) (by exact fun _ => rfl)) fun v1 _ _ s46 => ?_; clear s45
    refine qs s46 (.c1 rfl (mv rfl rfl) (.c1 rfl (ob_extract rfl (.tmp rfl) rfl) (.c1 rfl (ob_extract rfl (.tmp rfl) rfl) (.c1 rfl (ob_assign rfl (.tmp rfl)) (.c1 rfl (ob_assign rfl (.tmp rfl)) (.ce (u 0 rfl (u 4 rfl (u 5 rfl (u 8 rfl (u 9 rfl .nil))))))))))) fun _ _ s52 => wn hK11 ?_; clear s46
    refine wp_seq_k fun K12 hK12 => wp_seq_k fun K13 hK13 => ?_
    refine wp_region_lit (qs s52 (.c1 rfl (mv rfl rfl) (.c1 rfl (ob_not rfl (.tmp rfl)) (.ce (u 0 rfl (u 4 rfl (u 5 rfl (u 8 rfl (u 29 rfl .nil)))))))) fun _ _ s55 => wn hK13 ?_); clear s52
    refine cond_split s55 (.tmp rfl) (fun hc4 => ?_) (fun hc4 => ?_)
    ·have h10 := ite_t hc4 h9; clear h9
     refine wp_seq_k fun K14 hK14 => wp_region_lit (qs s55 (.c1 rfl (ob_assign rfl opd_is) .cz) fun _ _ s56 => ?_); clear s55
     have s57 := St.adopt s56 (G := RowF (nilRow 29) 46 k_api_Node []) rfl (rowNilN _ _ _ _ _); clear s56
     refine qs s57 (.c1 rfl (ob_assign rfl (opd_int rfl)) (.ce (u 6 rfl (u 7 rfl .nil)))) fun _ _ s59 => wn hK14 ?_; clear s57
     have s60 := St.drop (A := [_]) s59; clear s59
     have s61 := St.drop (A := [_]) s60; clear s60
     have s62 := St.drop (A := [_]) s61; clear s61
     refine wp_ret ?_
     obtain rfl := Option.some.inj h10
     exact leaveXD (D := []) (nilRow 29) s62 rfl (.inl rfl) rfl (.cons (.tmp rfl) (.cons (.tmp rfl) .nil)) rfl
    ·have h11 := ite_f hc4 h9; clear h9
     refine wp_skip ?_
     refine then_normal (hK12 _ _ ?_)
     have s63 := s55.sub (u 0 rfl (u 4 rfl (u 5 rfl (u 8 rfl .nil)))); clear s55
     refine wp_seq_k fun K15 hK15 => wp_seq_k fun K16 hK16 => ?_
     obtain ⟨x4, e_x4, h12⟩ := bind_some h11; clear h11
     refine wp_region_lit (qs s63 (.c1 rfl (mv rfl rfl) (.c1 rfl (ob_load rfl tk44 (.tmp rfl) (.tail _ (.head _)) (LG.refl _ _)) (.c1 rfl (mv rfl rfl) (.c1 rfl ((ob_lendG (L := [_]) (List.Perm.refl _) (.cons (t := 32) rfl (lendRow (.head _)) .nil) (Flat.res1 (Flat.V KFlat.bool)) (fun _ => ob_callD0 (args := [_, _, _]) rfl .direct hb86 (fun a w s => by exact c_cabalref15_turn k _ _ _ _ e_x4 _ _ _ _ _ (s.arg (.tmp rfl)) (s.arg (.tmp rfl)) (s.arg (.tmp rfl)))))) (.c1 rfl (ob_not rfl (.tmp rfl)) (.ce (u 0 rfl (u 4 rfl (u 5 rfl (u 8 rfl (u 34 rfl .nil))))))))))) fun _ _ s69 => wn hK16 ?_); clear s63
     refine cond_split s69 (.tmp rfl) (fun hc5 => ?_) (fun hc5 => ?_)
     ·have h13 := ite_t hc5 h12; clear h12
      refine wp_seq_k fun K17 hK17 => wp_region_lit (qs s69 (.c1 rfl (ob_assign rfl opd_is) .cz) fun _ _ s70 => ?_); clear s69
      have s71 := St.adopt s70 (G := RowF (nilRow 30) 46 k_api_Node []) rfl (rowNilN _ _ _ _ _); clear s70
      refine qs s71 (.c1 rfl (ob_assign rfl (opd_int rfl)) (.ce (u 6 rfl (u 7 rfl .nil)))) fun _ _ s73 => wn hK17 ?_; clear s71
      have s74 := St.drop (A := [_]) s73; clear s73
      have s75 := St.drop (A := [_]) s74; clear s74
      have s76 := St.drop (A := [_]) s75; clear s75
      refine wp_ret ?_
      obtain rfl := Option.some.inj h13
      exact leaveXD (D := []) (nilRow 30) s76 rfl (.inl rfl) rfl (.cons (.tmp rfl) (.cons (.tmp rfl) .nil)) rfl
     ·have h14 := ite_f hc5 h12; clear h12
      refine wp_skip ?_
      refine then_normal (hK15 _ _ ?_)
      have s77 := s69.sub (u 0 rfl (u 4 rfl (u 5 rfl (u 8 rfl .nil)))); clear s69
      refine wp_seq_k fun K18 hK18 => wp_region_lit (qs s77 (.c1 rfl (ob_assign rfl opd_is) .cz) fun _ _ s78 => ?_); clear s77
      have s79 := St.adopt s78 (G := RowF (nilRow 31) 46 k_api_Node []) rfl (rowNilN _ _ _ _ _); clear s78
      refine wn hK18 ?_
      have s80 := s79.sub (u 0 rfl (u 4 rfl (u 5 rfl (u 8 rfl (u 10 rfl .nil))))); clear s79
      obtain ⟨g1, h15⟩ := guard_some h14; clear h14
      refine wp_seq_k fun K19 hK19 => wp_region_lit (qs s80 (.c1 rfl (mv rfl rfl) (.c1 rfl (mv rfl rfl) .cz)) fun _ _ s82 => ?_); clear s80
      refine qx (B' := (fun v2 : Value => [RowF v2 46 k_api_Node (([] : (List api_Node)) ++ p1), RowF v1 3 (kint .i64) x3.1, BF b2 44 k_api_Op p3, BF b1 39 (karr 32 (kint .u8)) p2])) s82 rfl (ob_appendL2 (A := []) rfl Try.underlying22 ap46 (Zr.iso (f := t_api_Node) (x := (⟨(List.replicate 32 (0 : Int)), (⟨(0 : Int), (0 : Int), [], (0 : Int), [], (List.replicate 32 (0 : Int)), (List.replicate 32 (0 : Int)), [], []⟩ : api_Op), []⟩ : api_Node)) (Zr.pair (Zr.arr 32 (Zr.int .u8)) (Zr.pair (Zr.iso (f := t_api_Op) (x := (⟨(0 : Int), (0 : Int), [], (0 : Int), [], (List.replicate 32 (0 : Int)), (List.replicate 32 (0 : Int)), [], []⟩ : api_Op)) (Zr.pair (Zr.int .i64) (Zr.pair (Zr.int .u32) (Zr.pair (Zr.sl _) (Zr.pair (Zr.int .i64) (Zr.pair (Zr.sl _) (Zr.pair (Zr.arr 32 (Zr.int .u8)) (Zr.pair (Zr.arr 32 (Zr.int .u8)) (Zr.pair Zr.str (Zr.pair (Zr.sl _) Zr.nil)))))))))) (Zr.pair (Zr.sl _) Zr.nil)))) (by decide) (.tmp rfl) (.tmp rfl) rfl g1) fun v2 _ _ s83 => ?_; clear s82
      refine qs s83 (.c1 rfl (ob_assign rfl (.tmp rfl)) (.ce (u 4 rfl (u 5 rfl (u 8 rfl (u 10 rfl .nil)))))) fun _ _ s85 => wn hK19 ?_; clear s83
      refine wp_seq_k fun K20 hK20 => wp_region_lit (qs s85 (.c1 rfl (mv rfl rfl) (.c1 rfl (ob_load rfl tk39 (.tmp rfl) (.tail _ (.tail _ (.tail _ (.head _)))) (LG.refl _ _)) (.c1 rfl (ob_load rfl tk44 (.tmp rfl) (.tail _ (.tail _ (.head _))) (LG.refl _ _)) (.c1 rfl (mv rfl rfl) .cz)))) fun _ _ s89 => ?_); clear s85
      have s90 := St.freezeAllM (A := [_]) s89 (ts := [8, 41]) (.cons rfl (.cons rfl .nil)); clear s89
      obtain ⟨g2, h16⟩ := guard_some h15; clear h15
      refine qs s90 (.c1 rfl (ob_mkStruct (K := k_api_Node) (X0 := (⟨(List.replicate 32 (0 : Int)), (⟨(0 : Int), (0 : Int), [], (0 : Int), [], (List.replicate 32 (0 : Int)), (List.replicate 32 (0 : Int)), [], []⟩ : api_Op), []⟩ : api_Node)) rfl Try.underlying46 zz46 rfl pl46 (Zr.iso (f := t_api_Node) (x := (⟨(List.replicate 32 (0 : Int)), (⟨(0 : Int), (0 : Int), [], (0 : Int), [], (List.replicate 32 (0 : Int)), (List.replicate 32 (0 : Int)), [], []⟩ : api_Op), []⟩ : api_Node)) (Zr.pair (Zr.arr 32 (Zr.int .u8)) (Zr.pair (Zr.iso (f := t_api_Op) (x := (⟨(0 : Int), (0 : Int), [], (0 : Int), [], (List.replicate 32 (0 : Int)), (List.replicate 32 (0 : Int)), [], []⟩ : api_Op)) (Zr.pair (Zr.int .i64) (Zr.pair (Zr.int .u32) (Zr.pair (Zr.sl _) (Zr.pair (Zr.int .i64) (Zr.pair (Zr.sl _) (Zr.pair (Zr.arr 32 (Zr.int .u8)) (Zr.pair (Zr.arr 32 (Zr.int .u8)) (Zr.pair Zr.str (Zr.pair (Zr.sl _) Zr.nil)))))))))) (Zr.pair (Zr.sl _) Zr.nil)))) (.cons (.tmp rfl) rfl (ls_api_Node_Id (⟨(List.replicate 32 (0 : Int)), (⟨(0 : Int), (0 : Int), [], (0 : Int), [], (List.replicate 32 (0 : Int)), (List.replicate 32 (0 : Int)), [], []⟩ : api_Op), []⟩ : api_Node) p2) (.cons (.tmp rfl) rfl (ls_api_Node_Op (⟨p2, (⟨(0 : Int), (0 : Int), [], (0 : Int), [], (List.replicate 32 (0 : Int)), (List.replicate 32 (0 : Int)), [], []⟩ : api_Op), []⟩ : api_Node) p3) (.cons (.tmp rfl) rfl (ls_api_Node_Past (⟨p2, p3, []⟩ : api_Node) x3.1) (.nil _))))) (.c1 rfl (ob_mkSlice (k := k_api_Node) (xs := ([(⟨p2, p3, x3.1⟩ : api_Node)] : (List api_Node))) rfl Try.underlying22 zz46 sz46 (Zr.iso (f := t_api_Node) (x := (⟨(List.replicate 32 (0 : Int)), (⟨(0 : Int), (0 : Int), [], (0 : Int), [], (List.replicate 32 (0 : Int)), (List.replicate 32 (0 : Int)), [], []⟩ : api_Op), []⟩ : api_Node)) (Zr.pair (Zr.arr 32 (Zr.int .u8)) (Zr.pair (Zr.iso (f := t_api_Op) (x := (⟨(0 : Int), (0 : Int), [], (0 : Int), [], (List.replicate 32 (0 : Int)), (List.replicate 32 (0 : Int)), [], []⟩ : api_Op)) (Zr.pair (Zr.int .i64) (Zr.pair (Zr.int .u32) (Zr.pair (Zr.sl _) (Zr.pair (Zr.int .i64) (Zr.pair (Zr.sl _) (Zr.pair (Zr.arr 32 (Zr.int .u8)) (Zr.pair (Zr.arr 32 (Zr.int .u8)) (Zr.pair Zr.str (Zr.pair (Zr.sl _) Zr.nil)))))))))) (Zr.pair (Zr.sl _) Zr.nil)))) (by decide) (by decide) (.cons (.tmp rfl) rfl (LS.arr' (i := 0) (ys := ([(⟨p2, p3, x3.1⟩ : api_Node)] : (List api_Node))) (by simp) (by rfl)) (.nil _))) .cz)) fun _ _ s92 => ?_; clear s90
      refine qx (B' := (fun v3 : Value => [RowF v3 46 k_api_Node ((([] : (List api_Node)) ++ p1) ++ ([(⟨p2, p3, x3.1⟩ : api_Node)] : (List api_Node))), BF b2 44 k_api_Op p3, BF b1 39 (karr 32 (kint .u8)) p2])) s92 rfl (ob_appendL2 (A := []) rfl Try.underlying22 ap46 (Zr.iso (f := t_api_Node) (x := (⟨(List.replicate 32 (0 : Int)), (⟨(0 : Int), (0 : Int), [], (0 : Int), [], (List.replicate 32 (0 : Int)), (List.replicate 32 (0 : Int)), [], []⟩ : api_Op), []⟩ : api_Node)) (Zr.pair (Zr.arr 32 (Zr.int .u8)) (Zr.pair (Zr.iso (f := t_api_Op) (x := (⟨(0 : Int), (0 : Int), [], (0 : Int), [], (List.replicate 32 (0 : Int)), (List.replicate 32 (0 : Int)), [], []⟩ : api_Op)) (Zr.pair (Zr.int .i64) (Zr.pair (Zr.int .u32) (Zr.pair (Zr.sl _) (Zr.pair (Zr.int .i64) (Zr.pair (Zr.sl _) (Zr.pair (Zr.arr 32 (Zr.int .u8)) (Zr.pair (Zr.arr 32 (Zr.int .u8)) (Zr.pair Zr.str (Zr.pair (Zr.sl _) Zr.nil)))))))))) (Zr.pair (Zr.sl _) Zr.nil)))) (by decide) (.tmp rfl) (.tmp rfl) rfl g2) fun v3 _ _ s93 => ?_; clear s92
      refine qs s93 (.c1 rfl (ob_assign rfl (.tmp rfl)) (.ce (u 10 rfl .nil))) fun _ _ s95 => wn hK20 ?_; clear s93
      have s96 := St.drop (A := [_]) s95; clear s95
      have s97 := St.drop (A := [_]) s96; clear s96
      refine wp_seq_k fun K21 hK21 => wp_region_lit (qs s97 (.c1 rfl (mv rfl rfl) (.c1 rfl (ob_assign rfl (.tmp rfl)) (.c1 rfl (ob_assign rfl (opd_int rfl)) (.ce (u 6 rfl (u 7 rfl .nil)))))) fun _ _ s101 => wn hK21 ?_); clear s97
      refine wp_ret ?_
      obtain rfl := Option.some.inj h16
      exact leaveXD (D := []) v3 s101 rfl (.inl rfl) rfl (.cons (.tmp rfl) (.cons (.tmp rfl) .nil)) rfl
theorem c_cabalref11_SameOp (k : Nat) (p1 : api_Op) (p2 : api_Op) (r : Bool) (h0 : cabalref11_SameOp k p1 p2 = some r) (ok : Ok) (w0 : World) (z0 : Value) (z1 : Value) (u0 : (k_api_Op.V p1).holds ok w0 z0) (u1 : (k_api_Op.V p2).holds ok w0 z1) :
 Gives Try.prog 103 [z0, z1] ok w0 (resFact [kbool.V r]) := by
 unfold cabalref11_SameOp at h0
 refine enter (N := 129) Try.func103 rfl rfl (of_decide_eq_true rfl) (.cons u0 (.cons u1 .nil)) fun a1 s1 => ?_
 refine wp_seq_k fun K1 hK1 => wp_region_lit ?_
 refine qx (B' := (fun b1 : Nat => [BF b1 44 k_api_Op p1])) s1 rfl (ob_box rfl (.tmp rfl)) fun b1 _ _ s2 => ?_; clear s1
 refine qx (B' := (fun b2 : Nat => [BF b2 44 k_api_Op p2, BF b1 44 k_api_Op p1])) s2 rfl (ob_box rfl (.tmp rfl)) fun b2 _ _ s3 => ?_; clear s2
 refine qs s3 (.c1 rfl (ob_assign rfl opd_bool) (.ce (u 2 rfl (u 3 rfl .nil)))) fun _ _ s5 => wn hK1 ?_; clear s3
 refine wp_seq_k fun K2 hK2 => wp_seq_k fun K3 hK3 => ?_
 obtain ⟨x1, e_x1, h1⟩ := bind_some h0; clear h0; replace e_x1 := Option.some.inj e_x1
 obtain ⟨x2, e_x2, h2⟩ := bind_some h1; clear h1; replace e_x2 := Option.some.inj e_x2
 obtain ⟨x3, e_x3, h3⟩ := bind_some h2; clear h2; replace e_x3 := Option.some.inj e_x3
 obtain ⟨x4, e_x4, h4⟩ := bind_some h3; clear h3; replace e_x4 := Option.some.inj e_x4
 obtain ⟨x5, e_x5, h5⟩ := bind_some h4; clear h4; replace e_x5 := Option.some.inj e_x5
 refine wp_region_lit (qs s5 (.c1 rfl (ob_fieldAddr (off' := 0) rfl Try.underlying44 rfl sz3 (by decide) (.tmp rfl) rfl) (.c1 rfl (ob_load rfl tk3 (.tmp rfl) (.tail _ (.head _)) (lg_api_Op_Author p1)) (.c1 rfl (ob_fieldAddr (off' := 0) rfl Try.underlying44 rfl sz3 (by decide) (.tmp rfl) rfl) (.c1 rfl (ob_load rfl tk3 (.tmp rfl) (.head _) (lg_api_Op_Author p2)) (.c1 rfl (ob_neq rfl (.tmp rfl) (.tmp rfl)) (.c1 rfl (mv rfl rfl) (.cg rfl rfl rfl rfl (fun hb => ob_fieldAddr (off' := 1) rfl Try.underlying44 rfl sz25 (by decide) (.tmp rfl) rfl) (.cg rfl rfl rfl rfl (fun hb => (Ob.uncond (t := 14) hb rfl (ob_load rfl tk25 (.tmp rfl) (.tail _ (.head _)) (lg_api_Op_Seq p1)))) (.cg rfl rfl rfl rfl (fun hb => ob_fieldAddr (off' := 1) rfl Try.underlying44 rfl sz25 (by decide) (.tmp rfl) rfl) (.cg rfl rfl rfl rfl (fun hb => (Ob.uncond (t := 16) hb rfl (ob_load rfl tk25 (.tmp rfl) (.head _) (lg_api_Op_Seq p2)))) (.cg rfl rfl rfl rfl (fun hb => (Ob.uncond (t := 17) hb rfl ((Ob.uncond (t := 15) hb rfl (ob_neq rfl (.tmp rfl) (.tmp rfl)))))) (.c1 rfl (ob_or2 rfl (.tmp rfl) opd_bool (.tmp rfl)) (.c1 rfl (mv rfl rfl) (.cg rfl rfl rfl rfl (fun hb => ob_fieldAddr (off' := 3) rfl Try.underlying44 rfl sz3 (by decide) (.tmp rfl) rfl) (.cg rfl rfl rfl rfl (fun hb => (Ob.uncond (t := 21) hb rfl (ob_load rfl tk3 (.tmp rfl) (.tail _ (.head _)) (lg_api_Op_Kind p1)))) (.cg rfl rfl rfl rfl (fun hb => ob_fieldAddr (off' := 3) rfl Try.underlying44 rfl sz3 (by decide) (.tmp rfl) rfl) (.cg rfl rfl rfl rfl (fun hb => (Ob.uncond (t := 23) hb rfl (ob_load rfl tk3 (.tmp rfl) (.head _) (lg_api_Op_Kind p2)))) (.cg rfl rfl rfl rfl (fun hb => (Ob.uncond (t := 24) hb rfl ((Ob.uncond (t := 22) hb rfl (ob_neq rfl (.tmp rfl) (.tmp rfl)))))) (.c1 rfl ((ob_or2 rfl (.tmp rfl) opd_bool (.tmp rfl)).nm e_x1) (.c1 rfl (mv rfl rfl) (.cg rfl rfl rfl rfl (fun hb => ob_fieldAddr (off' := 5) rfl Try.underlying44 rfl sz39 (by decide) (.tmp rfl) rfl) (.cg rfl rfl rfl rfl (fun hb => (Ob.uncond (t := 28) hb rfl (ob_load rfl tk39 (.tmp rfl) (.tail _ (.head _)) (lg_api_Op_Of p1)))) (.cg rfl rfl rfl rfl (fun hb => ob_fieldAddr (off' := 5) rfl Try.underlying44 rfl sz39 (by decide) (.tmp rfl) rfl) (.cg rfl rfl rfl rfl (fun hb => (Ob.uncond (t := 30) hb rfl (ob_load rfl tk39 (.tmp rfl) (.head _) (lg_api_Op_Of p2)))) (.cg rfl rfl rfl rfl (fun hb => (Ob.uncond (t := 31) hb rfl ((Ob.uncond (t := 29) hb rfl (ob_neqAgg rfl rfl (by kernel_rfl) eq39 (by decide) (.tmp rfl) (.tmp rfl)))))) (.c1 rfl (ob_or2 rfl (.tmp rfl) opd_bool (.tmp rfl)) (.c1 rfl (mv rfl rfl) (.cg rfl rfl rfl rfl (fun hb => ob_fieldAddr (off' := 37) rfl Try.underlying44 rfl sz39 (by decide) (.tmp rfl) rfl) (.cg rfl rfl rfl rfl (fun hb => (Ob.uncond (t := 35) hb rfl (ob_load rfl tk39 (.tmp rfl) (.tail _ (.head _)) (lg_api_Op_Check p1)))) (.cg rfl rfl rfl rfl (fun hb => ob_fieldAddr (off' := 37) rfl Try.underlying44 rfl sz39 (by decide) (.tmp rfl) rfl) (.cg rfl rfl rfl rfl (fun hb => (Ob.uncond (t := 37) hb rfl (ob_load rfl tk39 (.tmp rfl) (.head _) (lg_api_Op_Check p2)))) (.cg rfl rfl rfl rfl (fun hb => (Ob.uncond (t := 38) hb rfl ((Ob.uncond (t := 36) hb rfl (ob_neqAgg rfl rfl (by kernel_rfl) eq39 (by decide) (.tmp rfl) (.tmp rfl)))))) (.c1 rfl ((ob_or2 rfl (.tmp rfl) opd_bool (.tmp rfl)).nm e_x2) (.c1 rfl (mv rfl rfl) (.cg rfl rfl rfl rfl (fun hb => ob_fieldAddr (off' := 69) rfl Try.underlying44 rfl sz9 (by decide) (.tmp rfl) rfl) (.cg rfl rfl rfl rfl (fun hb => (Ob.uncond (t := 42) hb rfl (ob_load rfl tk9 (.tmp rfl) (.tail _ (.head _)) (lg_api_Op_Text p1)))) (.cg rfl rfl rfl rfl (fun hb => ob_fieldAddr (off' := 69) rfl Try.underlying44 rfl sz9 (by decide) (.tmp rfl) rfl) (.cg rfl rfl rfl rfl (fun hb => (Ob.uncond (t := 44) hb rfl (ob_load rfl tk9 (.tmp rfl) (.head _) (lg_api_Op_Text p2)))) (.cg rfl rfl rfl rfl (fun hb => (Ob.uncond (t := 45) hb rfl ((Ob.uncond (t := 43) hb rfl (ob_sneq rfl (.tmp rfl) (.tmp rfl)))))) (.c1 rfl (ob_or2 rfl (.tmp rfl) opd_bool (.tmp rfl)) (.c1 rfl (mv rfl rfl) (.cg rfl rfl rfl rfl (fun hb => ob_fieldAddr (off' := 2) rfl Try.underlying44 rfl sz40 (by decide) (.tmp rfl) rfl) (.cg rfl rfl rfl rfl (fun hb => (Ob.uncond (t := 49) hb rfl (ob_load rfl tk40 (.tmp rfl) (.tail _ (.head _)) (lg_api_Op_Parents p1)))) (.cg rfl rfl rfl rfl (fun hb => (Ob.uncond (t := 50) hb rfl (ob_lens rfl Try.underlying40 (.tmp rfl)))) (.cg rfl rfl rfl rfl (fun hb => ob_fieldAddr (off' := 2) rfl Try.underlying44 rfl sz40 (by decide) (.tmp rfl) rfl) (.cg rfl rfl rfl rfl (fun hb => (Ob.uncond (t := 52) hb rfl (ob_load rfl tk40 (.tmp rfl) (.head _) (lg_api_Op_Parents p2)))) (.cg rfl rfl rfl rfl (fun hb => (Ob.uncond (t := 53) hb rfl (ob_lens rfl Try.underlying40 (.tmp rfl)))) (.cg rfl rfl rfl rfl (fun hb => (Ob.uncond (t := 54) hb rfl ((Ob.uncond (t := 51) hb rfl (ob_neq rfl (.tmp rfl) (.tmp rfl)))))) (.c1 rfl ((ob_or2 rfl (.tmp rfl) opd_bool (.tmp rfl)).nm e_x3) (.c1 rfl (mv rfl rfl) (.cg rfl rfl rfl rfl (fun hb => ob_fieldAddr (off' := 4) rfl Try.underlying44 rfl sz41 (by decide) (.tmp rfl) rfl) (.cg rfl rfl rfl rfl (fun hb => (Ob.uncond (t := 58) hb rfl (ob_load rfl tk41 (.tmp rfl) (.tail _ (.head _)) (lg_api_Op_Who p1)))) (.cg rfl rfl rfl rfl (fun hb => (Ob.uncond (t := 59) hb rfl (ob_lens rfl Try.underlying41 (.tmp rfl)))) (.cg rfl rfl rfl rfl (fun hb => ob_fieldAddr (off' := 4) rfl Try.underlying44 rfl sz41 (by decide) (.tmp rfl) rfl) (.cg rfl rfl rfl rfl (fun hb => (Ob.uncond (t := 61) hb rfl (ob_load rfl tk41 (.tmp rfl) (.head _) (lg_api_Op_Who p2)))) (.cg rfl rfl rfl rfl (fun hb => (Ob.uncond (t := 62) hb rfl (ob_lens rfl Try.underlying41 (.tmp rfl)))) (.cg rfl rfl rfl rfl (fun hb => (Ob.uncond (t := 63) hb rfl ((Ob.uncond (t := 60) hb rfl (ob_neq rfl (.tmp rfl) (.tmp rfl)))))) (.c1 rfl ((ob_or2 rfl (.tmp rfl) opd_bool (.tmp rfl)).nm e_x4) (.c1 rfl (mv rfl rfl) (.cg rfl rfl rfl rfl (fun hb => ob_fieldAddr (off' := 70) rfl Try.underlying44 rfl sz42 (by decide) (.tmp rfl) rfl) (.cg rfl rfl rfl rfl (fun hb => (Ob.uncond (t := 67) hb rfl (ob_load rfl tk42 (.tmp rfl) (.tail _ (.head _)) (lg_api_Op_Boxes p1)))) (.cg rfl rfl rfl rfl (fun hb => (Ob.uncond (t := 68) hb rfl (ob_lens rfl Try.underlying42 (.tmp rfl)))) (.cg rfl rfl rfl rfl (fun hb => ob_fieldAddr (off' := 70) rfl Try.underlying44 rfl sz42 (by decide) (.tmp rfl) rfl) (.cg rfl rfl rfl rfl (fun hb => (Ob.uncond (t := 70) hb rfl (ob_load rfl tk42 (.tmp rfl) (.head _) (lg_api_Op_Boxes p2)))) (.cg rfl rfl rfl rfl (fun hb => (Ob.uncond (t := 71) hb rfl (ob_lens rfl Try.underlying42 (.tmp rfl)))) (.cg rfl rfl rfl rfl (fun hb => (Ob.uncond (t := 72) hb rfl ((Ob.uncond (t := 69) hb rfl (ob_neq rfl (.tmp rfl) (.tmp rfl)))))) (.c1 rfl ((ob_or2 rfl (.tmp rfl) opd_bool (.tmp rfl)).nm e_x5) (.ce (u 2 rfl (u 3 rfl (u 74 rfl .nil))))))))))))))))))))))))))))))))))))))))))))))))))))))))))))))))))))))) fun _ _ s73 => wn hK3 ?_); clear s5
 refine cond_split s73 (.tmp rfl) (fun hc1 => ?_) (fun hc1 => ?_)
 ·have h6 := ite_t hc1 h5; clear h5
  refine wp_seq_k fun K4 hK4 => wp_region_lit (qs s73 (.c1 rfl (ob_assign rfl opd_bool) (.ce (u 4 rfl .nil))) fun _ _ s75 => wn hK4 ?_); clear s73
  have s76 := St.drop (A := []) s75; clear s75
  have s77 := St.drop (A := []) s76; clear s76
  refine wp_ret ?_
  obtain rfl := Option.some.inj h6
  exact leave s77 (.inl rfl) rfl (.cons (.tmp rfl) .nil)
 ·have h7 := ite_f hc1 h5; clear h5
  refine wp_skip ?_
  refine then_normal (hK2 _ _ ?_)
  have s78 := s73.sub (u 2 rfl (u 3 rfl .nil)); clear s73
  refine wp_seq_k fun K5 hK5 => wp_seq_k fun K6 hK6 => ?_
  refine wp_region_lit (qs s78 (.c1 rfl (ob_assign rfl (opd_int rfl)) (.ce (u 2 rfl (u 3 rfl (u 5 rfl .nil))))) fun _ _ s80 => wn hK6 ?_); clear s78
  have hj1 : ∀ (a : Act) (w : World), (cabalref11_SameOp.j1 k p1 p2) = some r → St ⟨129, w0, ok, []⟩ [BF b1 44 k_api_Op p1, BF b2 44 k_api_Op p2] [(2, (ptrB b1 0)), (3, (ptrB b2 0))] a w → K5 a w := by
   intro a81 w81 h8 s81
   unfold cabalref11_SameOp.j1 at h8
   refine hK5 _ _ ?_
   refine wp_seq_k fun K7 hK7 => wp_seq_k fun K8 hK8 => ?_
   refine wp_region_lit (qs s81 (.c1 rfl (ob_assign rfl (opd_int rfl)) (.ce (u 2 rfl (u 3 rfl (u 6 rfl .nil))))) fun _ _ s83 => wn hK8 ?_); clear s81
   have hj2 : ∀ (a : Act) (w : World), (cabalref11_SameOp.j2 k p1 p2) = some r → St ⟨129, w0, ok, []⟩ [BF b1 44 k_api_Op p1, BF b2 44 k_api_Op p2] [(2, (ptrB b1 0)), (3, (ptrB b2 0))] a w → K7 a w := by
    intro a84 w84 h9 s84
    unfold cabalref11_SameOp.j2 at h9
    refine hK7 _ _ ?_
    refine wp_seq_k fun K9 hK9 => wp_seq_k fun K10 hK10 => ?_
    refine wp_region_lit (qs s84 (.c1 rfl (ob_assign rfl (opd_int rfl)) (.ce (u 2 rfl (u 3 rfl (u 7 rfl .nil))))) fun _ _ s86 => wn hK10 ?_); clear s84
    have hj3 : ∀ (a : Act) (w : World), (cabalref11_SameOp.j3 k) = some r → St ⟨129, w0, ok, []⟩ [] [] a w → K9 a w := by
     intro a87 w87 h10 s87
     unfold cabalref11_SameOp.j3 at h10
     refine hK9 _ _ ?_
     refine wp_seq_k fun K11 hK11 => wp_region_lit (qs s87 (.c1 rfl (ob_assign rfl opd_bool) (.ce (u 4 rfl .nil))) fun _ _ s89 => wn hK11 ?_); clear s87
     refine wp_ret ?_
     obtain rfl := Option.some.inj h10
     exact leave s89 (.inl rfl) rfl (.cons (.tmp rfl) .nil)
    refine wp_block ?_
    refine wp_loop_fuel (fun m (q : Int) => cabalref11_SameOp.l1 k p1 p2 m q) r (fun _ => rfl) (fun q a w => St ⟨129, w0, ok, []⟩ [BF b1 44 k_api_Op p1, BF b2 44 k_api_Op p2] [(2, (ptrB b1 0)), (3, (ptrB b2 0)), (7, ((kint .i64).V q))] a w) ?_ k (0 : Int) _ _ h9 (s86.sub (.cons rfl (.cons rfl (.cons rfl .nil))))
    rintro n1 y1 a90 w90 h11 s90 K12 hK12
    replace h11 : cabalref11_SameOp.l1 k p1 p2 (n1 + 1) y1 = some r := h11; rw [cabalref11_SameOp.l1] at h11
    have h12 := h11; clear h11
    refine wp_seq_k fun K13 hK13 => wp_seq_k fun K14 hK14 => ?_
    refine wp_region_lit (qs s90 (.c1 rfl (mv rfl rfl) (.c1 rfl (ob_fieldAddr (off' := 70) rfl Try.underlying44 rfl sz42 (by decide) (.tmp rfl) rfl) (.c1 rfl (ob_load rfl tk42 (.tmp rfl) (.head _) (lg_api_Op_Boxes p1)) (.c1 rfl (ob_lens rfl Try.underlying42 (.tmp rfl)) (.c1 rfl (ob_lss rfl (.tmp rfl) (.tmp rfl)) (.ce (u 2 rfl (u 3 rfl (u 7 rfl (u 115 rfl .nil)))))))))) fun _ _ s96 => wn hK14 ?_); clear s90
    refine cond_split s96 (.tmp rfl) (fun hc2 => ?_) (fun hc2 => ?_)
    ·have h13 := ite_t hc2 h12; clear h12
     refine wp_skip ?_
     refine then_normal (hK13 _ _ ?_)
     have s97 := s96.sub (u 2 rfl (u 3 rfl (u 7 rfl .nil))); clear s96
     refine wp_seq_k fun K15 hK15 => wp_block ?_
     refine wp_seq_k fun K16 hK16 => ?_
     obtain ⟨x6, e_x6, h14⟩ := bind_some h13; clear h13
     obtain ⟨x7, e_x7, h15⟩ := bind_some h14; clear h14
     refine wp_goes (Fs := [(ptrB b1 70), ((ksl k_api_Box).V p1.Boxes), ((kint .i64).V y1), (ptrTo k_api_Box x6), (k_api_Box.V x6), (ptrB b2 70), ((ksl k_api_Box).V p2.Boxes), ((kint .i64).V y1), (ptrTo k_api_Box x7), (k_api_Box.V x7)]) (bits := [0, 1, 0, 7, 15, 0, 32, 0, 224, 480, 1023]) (m := 10) (todo := 0) mx s97 ?_; clear s97
     refine goes_last (by kernel_rfl) rfl (oc (av 2 rfl rfl Av.nil) rfl rfl (ob_fieldAddr (off' := 70) rfl Try.underlying44 rfl sz42 (by decide) (.tmp rfl) rfl) (oc (an 0 rfl rfl rfl Av.nil) rfl rfl (ob_load rfl tk42 (.tmp rfl) (.head _) (lg_api_Op_Boxes p1)) (oc (av 7 rfl rfl Av.nil) rfl rfl (mv rfl rfl) (oc (an 1 rfl rfl rfl (an 2 rfl rfl rfl Av.nil)) rfl rfl (ob_indexAddrs rfl Try.underlying42 sz78 (.tmp rfl) (.tmp rfl) e_x6) (oc (an 3 rfl rfl rfl Av.nil) rfl rfl (ob_loadr rfl tk78 (.tmp rfl)) (oc (av 3 rfl rfl Av.nil) rfl rfl (ob_fieldAddr (off' := 70) rfl Try.underlying44 rfl sz42 (by decide) (.tmp rfl) rfl) (oc (an 5 rfl rfl rfl Av.nil) rfl rfl (ob_load rfl tk42 (.tmp rfl) (.tail _ (.head _)) (lg_api_Op_Boxes p2)) (oc (av 7 rfl rfl Av.nil) rfl rfl (mv rfl rfl) (oc (an 6 rfl rfl rfl (an 7 rfl rfl rfl Av.nil)) rfl rfl (ob_indexAddrs rfl Try.underlying42 sz78 (.tmp rfl) (.tmp rfl) e_x7) (oc (an 8 rfl rfl rfl Av.nil) rfl rfl (ob_loadr rfl tk78 (.tmp rfl)) opsS_nil)))))))))) (out_old (t := 2) rfl rfl (out_old (t := 3) rfl rfl (out_old (t := 7) rfl rfl (out_new (i := 4) (by decide) rfl rfl (out_new (i := 9) (by decide) rfl rfl out_nil))))) fun _ _ s98 => ?_
     refine qs s98 (.c1 rfl (ob_neqAgg rfl rfl (by kernel_rfl) eq78 (by decide) (.tmp rfl) (.tmp rfl)) (.ce (u 2 rfl (u 3 rfl (u 7 rfl (u 128 rfl .nil)))))) fun _ _ s100 => wn hK16 ?_; clear s98
     refine cond_split s100 (.tmp rfl) (fun hc3 => ?_) (fun hc3 => ?_)
     ·have h16 := ite_t hc3 h15; clear h15
      refine wp_seq_k fun K17 hK17 => wp_region_lit (qs s100 (.c1 rfl (ob_assign rfl opd_bool) (.ce (u 4 rfl .nil))) fun _ _ s102 => wn hK17 ?_); clear s100
      have s103 := St.drop (A := []) s102; clear s102
      have s104 := St.drop (A := []) s103; clear s103
      refine wp_ret ?_
      obtain rfl := Option.some.inj h16
      exact leave s104 (.inl rfl) rfl (.cons (.tmp rfl) .nil)
     ·have h17 := ite_f hc3 h15; clear h15
      refine wp_skip ?_
      refine in_normal ?_
      refine then_normal (hK15 _ _ ?_)
      have s105 := s100.sub (u 2 rfl (u 3 rfl (u 7 rfl .nil))); clear s100
      refine wp_region_lit (qs s105 (.c1 rfl (mv rfl rfl) (.c1 rfl (ob_add rfl (.tmp rfl) (opd_int rfl)) (.c1 rfl (ob_assign rfl (.tmp rfl)) .cz))) fun _ _ s108 => ?_); clear s105
      refine wpList_nil ?_
      refine then_normal ?_
      exact hK12 (iadd .i64 y1 (1 : Int)) _ _ h17 (s108.sub (.cons rfl (.cons rfl (.cons rfl .nil))))
    ·have h18 := ite_f hc2 h12; clear h12
     refine wp_exit ?_
     refine (then_exit (then_exit (in_here ?_)))
     refine then_normal ?_
     have s109 := St.drop (A := []) s96; clear s96
     have s110 := St.drop (A := []) s109; clear s109
     exact hj3 _ _ h18 (s110.sub .nil)
   refine wp_block ?_
   refine wp_loop_fuel (fun m (q : Int) => cabalref11_SameOp.l2 k p1 p2 m q) r (fun _ => rfl) (fun q a w => St ⟨129, w0, ok, []⟩ [BF b1 44 k_api_Op p1, BF b2 44 k_api_Op p2] [(2, (ptrB b1 0)), (3, (ptrB b2 0)), (6, ((kint .i64).V q))] a w) ?_ k (0 : Int) _ _ h8 (s83.sub (.cons rfl (.cons rfl (.cons rfl .nil))))
   rintro n2 y2 a111 w111 h19 s111 K18 hK18
   replace h19 : cabalref11_SameOp.l2 k p1 p2 (n2 + 1) y2 = some r := h19; rw [cabalref11_SameOp.l2] at h19
   have h20 := h19; clear h19
   refine wp_seq_k fun K19 hK19 => wp_seq_k fun K20 hK20 => ?_
   refine wp_region_lit (qs s111 (.c1 rfl (mv rfl rfl) (.c1 rfl (ob_fieldAddr (off' := 4) rfl Try.underlying44 rfl sz41 (by decide) (.tmp rfl) rfl) (.c1 rfl (ob_load rfl tk41 (.tmp rfl) (.head _) (lg_api_Op_Who p1)) (.c1 rfl (ob_lens rfl Try.underlying41 (.tmp rfl)) (.c1 rfl (ob_lss rfl (.tmp rfl) (.tmp rfl)) (.ce (u 2 rfl (u 3 rfl (u 6 rfl (u 97 rfl .nil)))))))))) fun _ _ s117 => wn hK20 ?_); clear s111
   refine cond_split s117 (.tmp rfl) (fun hc4 => ?_) (fun hc4 => ?_)
   ·have h21 := ite_t hc4 h20; clear h20
    refine wp_skip ?_
    refine then_normal (hK19 _ _ ?_)
    have s118 := s117.sub (u 2 rfl (u 3 rfl (u 6 rfl .nil))); clear s117
    refine wp_seq_k fun K21 hK21 => wp_block ?_
    refine wp_seq_k fun K22 hK22 => ?_
    obtain ⟨x8, e_x8, h22⟩ := bind_some h21; clear h21
    obtain ⟨x9, e_x9, h23⟩ := bind_some h22; clear h22
    refine wp_goes (Fs := [(ptrB b1 4), ((ksl (kint .i64)).V p1.Who), ((kint .i64).V y2), (ptrTo (kint .i64) x8), ((kint .i64).V x8), (ptrB b2 4), ((ksl (kint .i64)).V p2.Who), ((kint .i64).V y2), (ptrTo (kint .i64) x9), ((kint .i64).V x9)]) (bits := [0, 1, 0, 7, 15, 0, 32, 0, 224, 480, 1023]) (m := 10) (todo := 0) mx s118 ?_; clear s118
    refine goes_last (by kernel_rfl) rfl (oc (av 2 rfl rfl Av.nil) rfl rfl (ob_fieldAddr (off' := 4) rfl Try.underlying44 rfl sz41 (by decide) (.tmp rfl) rfl) (oc (an 0 rfl rfl rfl Av.nil) rfl rfl (ob_load rfl tk41 (.tmp rfl) (.head _) (lg_api_Op_Who p1)) (oc (av 6 rfl rfl Av.nil) rfl rfl (mv rfl rfl) (oc (an 1 rfl rfl rfl (an 2 rfl rfl rfl Av.nil)) rfl rfl (ob_indexAddrs rfl Try.underlying41 sz3 (.tmp rfl) (.tmp rfl) e_x8) (oc (an 3 rfl rfl rfl Av.nil) rfl rfl (ob_loadr rfl tk3 (.tmp rfl)) (oc (av 3 rfl rfl Av.nil) rfl rfl (ob_fieldAddr (off' := 4) rfl Try.underlying44 rfl sz41 (by decide) (.tmp rfl) rfl) (oc (an 5 rfl rfl rfl Av.nil) rfl rfl (ob_load rfl tk41 (.tmp rfl) (.tail _ (.head _)) (lg_api_Op_Who p2)) (oc (av 6 rfl rfl Av.nil) rfl rfl (mv rfl rfl) (oc (an 6 rfl rfl rfl (an 7 rfl rfl rfl Av.nil)) rfl rfl (ob_indexAddrs rfl Try.underlying41 sz3 (.tmp rfl) (.tmp rfl) e_x9) (oc (an 8 rfl rfl rfl Av.nil) rfl rfl (ob_loadr rfl tk3 (.tmp rfl)) opsS_nil)))))))))) (out_old (t := 2) rfl rfl (out_old (t := 3) rfl rfl (out_old (t := 6) rfl rfl (out_new (i := 4) (by decide) rfl rfl (out_new (i := 9) (by decide) rfl rfl out_nil))))) fun _ _ s119 => ?_
    refine qs s119 (.c1 rfl (ob_neq rfl (.tmp rfl) (.tmp rfl)) (.ce (u 2 rfl (u 3 rfl (u 6 rfl (u 110 rfl .nil)))))) fun _ _ s121 => wn hK22 ?_; clear s119
    refine cond_split s121 (.tmp rfl) (fun hc5 => ?_) (fun hc5 => ?_)
    ·have h24 := ite_t hc5 h23; clear h23
     refine wp_seq_k fun K23 hK23 => wp_region_lit (qs s121 (.c1 rfl (ob_assign rfl opd_bool) (.ce (u 4 rfl .nil))) fun _ _ s123 => wn hK23 ?_); clear s121
     have s124 := St.drop (A := []) s123; clear s123
     have s125 := St.drop (A := []) s124; clear s124
     refine wp_ret ?_
     obtain rfl := Option.some.inj h24
     exact leave s125 (.inl rfl) rfl (.cons (.tmp rfl) .nil)
    ·have h25 := ite_f hc5 h23; clear h23
     refine wp_skip ?_
     refine in_normal ?_
     refine then_normal (hK21 _ _ ?_)
     have s126 := s121.sub (u 2 rfl (u 3 rfl (u 6 rfl .nil))); clear s121
     refine wp_region_lit (qs s126 (.c1 rfl (mv rfl rfl) (.c1 rfl (ob_add rfl (.tmp rfl) (opd_int rfl)) (.c1 rfl (ob_assign rfl (.tmp rfl)) .cz))) fun _ _ s129 => ?_); clear s126
     refine wpList_nil ?_
     refine then_normal ?_
     exact hK18 (iadd .i64 y2 (1 : Int)) _ _ h25 (s129.sub (.cons rfl (.cons rfl (.cons rfl .nil))))
   ·have h26 := ite_f hc4 h20; clear h20
    refine wp_exit ?_
    refine (then_exit (then_exit (in_here ?_)))
    refine then_normal ?_
    exact hj2 _ _ h26 (s117.sub (.cons rfl (.cons rfl .nil)))
  refine wp_block ?_
  have s130 := s80.perm (toFront [_] (toFront [] (List.Perm.refl _))); clear s80
  refine wp_loop_fuel (fun m (q : Int) => cabalref11_SameOp.l3 k p1 p2 m q) r (fun _ => rfl) (fun q a w => St ⟨129, w0, ok, []⟩ [BF b1 44 k_api_Op p1, BF b2 44 k_api_Op p2] [(2, (ptrB b1 0)), (3, (ptrB b2 0)), (5, ((kint .i64).V q))] a w) ?_ k (0 : Int) _ _ h7 (s130.sub (.cons rfl (.cons rfl (.cons rfl .nil))))
  rintro n3 y3 a131 w131 h27 s131 K24 hK24
  replace h27 : cabalref11_SameOp.l3 k p1 p2 (n3 + 1) y3 = some r := h27; rw [cabalref11_SameOp.l3] at h27
  have h28 := h27; clear h27
  refine wp_seq_k fun K25 hK25 => wp_seq_k fun K26 hK26 => ?_
  refine wp_region_lit (qs s131 (.c1 rfl (mv rfl rfl) (.c1 rfl (ob_fieldAddr (off' := 2) rfl Try.underlying44 rfl sz40 (by decide) (.tmp rfl) rfl) (.c1 rfl (ob_load rfl tk40 (.tmp rfl) (.head _) (lg_api_Op_Parents p1)) (.c1 rfl (ob_lens rfl Try.underlying40 (.tmp rfl)) (.c1 rfl (ob_lss rfl (.tmp rfl) (.tmp rfl)) (.ce (u 2 rfl (u 3 rfl (u 5 rfl (u 79 rfl .nil)))))))))) fun _ _ s137 => wn hK26 ?_); clear s131
  refine cond_split s137 (.tmp rfl) (fun hc6 => ?_) (fun hc6 => ?_)
  ·have h29 := ite_t hc6 h28; clear h28
   refine wp_skip ?_
   refine then_normal (hK25 _ _ ?_)
   have s138 := s137.sub (u 2 rfl (u 3 rfl (u 5 rfl .nil))); clear s137
   refine wp_seq_k fun K27 hK27 => wp_block ?_
   refine wp_seq_k fun K28 hK28 => ?_
   obtain ⟨x10, e_x10, h30⟩ := bind_some h29; clear h29
   obtain ⟨x11, e_x11, h31⟩ := bind_some h30; clear h30
   refine wp_goes (Fs := [(ptrB b1 2), ((ksl (karr 32 (kint .u8))).V p1.Parents), ((kint .i64).V y3), (ptrTo (karr 32 (kint .u8)) x10), ((karr 32 (kint .u8)).V x10), (ptrB b2 2), ((ksl (karr 32 (kint .u8))).V p2.Parents), ((kint .i64).V y3), (ptrTo (karr 32 (kint .u8)) x11), ((karr 32 (kint .u8)).V x11)]) (bits := [0, 1, 0, 7, 15, 0, 32, 0, 224, 480, 1023]) (m := 10) (todo := 0) mx s138 ?_; clear s138
   refine goes_last (by kernel_rfl) rfl (oc (av 2 rfl rfl Av.nil) rfl rfl (ob_fieldAddr (off' := 2) rfl Try.underlying44 rfl sz40 (by decide) (.tmp rfl) rfl) (oc (an 0 rfl rfl rfl Av.nil) rfl rfl (ob_load rfl tk40 (.tmp rfl) (.head _) (lg_api_Op_Parents p1)) (oc (av 5 rfl rfl Av.nil) rfl rfl (mv rfl rfl) (oc (an 1 rfl rfl rfl (an 2 rfl rfl rfl Av.nil)) rfl rfl (ob_indexAddrs rfl Try.underlying40 sz39 (.tmp rfl) (.tmp rfl) e_x10) (oc (an 3 rfl rfl rfl Av.nil) rfl rfl (ob_loadr rfl tk39 (.tmp rfl)) (oc (av 3 rfl rfl Av.nil) rfl rfl (ob_fieldAddr (off' := 2) rfl Try.underlying44 rfl sz40 (by decide) (.tmp rfl) rfl) (oc (an 5 rfl rfl rfl Av.nil) rfl rfl (ob_load rfl tk40 (.tmp rfl) (.tail _ (.head _)) (lg_api_Op_Parents p2)) (oc (av 5 rfl rfl Av.nil) rfl rfl (mv rfl rfl) (oc (an 6 rfl rfl rfl (an 7 rfl rfl rfl Av.nil)) rfl rfl (ob_indexAddrs rfl Try.underlying40 sz39 (.tmp rfl) (.tmp rfl) e_x11) (oc (an 8 rfl rfl rfl Av.nil) rfl rfl (ob_loadr rfl tk39 (.tmp rfl)) opsS_nil)))))))))) (out_old (t := 2) rfl rfl (out_old (t := 3) rfl rfl (out_old (t := 5) rfl rfl (out_new (i := 4) (by decide) rfl rfl (out_new (i := 9) (by decide) rfl rfl out_nil))))) fun _ _ s139 => ?_
   refine qs s139 (.c1 rfl (ob_neqAgg rfl rfl (by kernel_rfl) eq39 (by decide) (.tmp rfl) (.tmp rfl)) (.ce (u 2 rfl (u 3 rfl (u 5 rfl (u 92 rfl .nil)))))) fun _ _ s141 => wn hK28 ?_; clear s139
   refine cond_split s141 (.tmp rfl) (fun hc7 => ?_) (fun hc7 => ?_)
   ·have h32 := ite_t hc7 h31; clear h31
    refine wp_seq_k fun K29 hK29 => wp_region_lit (qs s141 (.c1 rfl (ob_assign rfl opd_bool) (.ce (u 4 rfl .nil))) fun _ _ s143 => wn hK29 ?_); clear s141
    have s144 := St.drop (A := []) s143; clear s143
    have s145 := St.drop (A := []) s144; clear s144
    refine wp_ret ?_
    obtain rfl := Option.some.inj h32
    exact leave s145 (.inl rfl) rfl (.cons (.tmp rfl) .nil)
   ·have h33 := ite_f hc7 h31; clear h31
    refine wp_skip ?_
    refine in_normal ?_
    refine then_normal (hK27 _ _ ?_)
    have s146 := s141.sub (u 2 rfl (u 3 rfl (u 5 rfl .nil))); clear s141
    refine wp_region_lit (qs s146 (.c1 rfl (mv rfl rfl) (.c1 rfl (ob_add rfl (.tmp rfl) (opd_int rfl)) (.c1 rfl (ob_assign rfl (.tmp rfl)) .cz))) fun _ _ s149 => ?_); clear s146
    refine wpList_nil ?_
    refine then_normal ?_
    exact hK24 (iadd .i64 y3 (1 : Int)) _ _ h33 (s149.sub (.cons rfl (.cons rfl (.cons rfl .nil))))
  ·have h34 := ite_f hc6 h28; clear h28
   refine wp_exit ?_
   refine (then_exit (then_exit (in_here ?_)))
   refine then_normal ?_
   exact hj1 _ _ h34 (s137.sub (.cons rfl (.cons rfl .nil)))
theorem c_cabalref15_Same (k : Nat) (p1 : (List api_Node)) (p2 : (List api_Node)) (r : Bool) (h0 : cabalref15_Same k p1 p2 = some r) (ok : Ok) (w0 : World) (z0 : Value) (z1 : Value) (u0 : ((ksl k_api_Node).V p1).holds ok w0 z0) (u1 : ((ksl k_api_Node).V p2).holds ok w0 z1) :
 Gives Try.prog 53 [z0, z1] ok w0 (resFact [kbool.V r]) := by
 unfold cabalref15_Same at h0
 refine enter (N := 56) Try.func53 rfl rfl (of_decide_eq_true rfl) (.cons u0 (.cons u1 .nil)) fun a1 s1 => ?_
 refine wp_seq_k fun K1 hK1 => wp_region_lit (qs s1 (.c1 rfl (ob_assign rfl opd_bool) (.ce (u 0 rfl (u 1 rfl .nil)))) fun _ _ s3 => wn hK1 ?_); clear s1
 refine wp_seq_k fun K2 hK2 => wp_seq_k fun K3 hK3 => ?_
 refine wp_region_lit (qs s3 (.c1 rfl (mv rfl rfl) (.c1 rfl (ob_lens rfl Try.underlying22 (.tmp rfl)) (.c1 rfl (mv rfl rfl) (.c1 rfl (ob_lens rfl Try.underlying22 (.tmp rfl)) (.c1 rfl (ob_neq rfl (.tmp rfl) (.tmp rfl)) (.ce (u 0 rfl (u 1 rfl (u 10 rfl .nil))))))))) fun _ _ s9 => wn hK3 ?_); clear s3
 refine cond_split s9 (.tmp rfl) (fun hc1 => ?_) (fun hc1 => ?_)
 ·have h1 := ite_t hc1 h0; clear h0
  refine wp_seq_k fun K4 hK4 => wp_region_lit (qs s9 (.c1 rfl (ob_assign rfl opd_bool) (.ce (u 4 rfl .nil))) fun _ _ s11 => wn hK4 ?_); clear s9
  refine wp_ret ?_
  obtain rfl := Option.some.inj h1
  exact leave s11 (.inl rfl) rfl (.cons (.tmp rfl) .nil)
 ·have h2 := ite_f hc1 h0; clear h0
  refine wp_skip ?_
  refine then_normal (hK2 _ _ ?_)
  have s12 := s9.sub (u 0 rfl (u 1 rfl .nil)); clear s9
  refine wp_seq_k fun K5 hK5 => wp_seq_k fun K6 hK6 => ?_
  refine wp_region_lit (qs s12 (.c1 rfl (ob_assign rfl (opd_int rfl)) (.ce (u 0 rfl (u 1 rfl (u 5 rfl .nil))))) fun _ _ s14 => wn hK6 ?_); clear s12
  have hj1 : ∀ (a : Act) (w : World), (cabalref15_Same.j1 k) = some r → St ⟨56, w0, ok, []⟩ [] [] a w → K5 a w := by
   intro a15 w15 h3 s15
   unfold cabalref15_Same.j1 at h3
   refine hK5 _ _ ?_
   refine wp_seq_k fun K7 hK7 => wp_region_lit (qs s15 (.c1 rfl (ob_assign rfl opd_bool) (.ce (u 4 rfl .nil))) fun _ _ s17 => wn hK7 ?_); clear s15
   refine wp_ret ?_
   obtain rfl := Option.some.inj h3
   exact leave s17 (.inl rfl) rfl (.cons (.tmp rfl) .nil)
  refine wp_block ?_
  refine wp_loop_fuel (fun m (q : Int) => cabalref15_Same.l1 k p1 p2 m q) r (fun _ => rfl) (fun q a w => St ⟨56, w0, ok, []⟩ [] [(0, ((ksl k_api_Node).V p1)), (1, ((ksl k_api_Node).V p2)), (5, ((kint .i64).V q))] a w) ?_ k (0 : Int) _ _ h2 (s14.sub (.cons rfl (.cons rfl (.cons rfl .nil))))
  rintro n1 y1 a18 w18 h4 s18 K8 hK8
  replace h4 : cabalref15_Same.l1 k p1 p2 (n1 + 1) y1 = some r := h4; rw [cabalref15_Same.l1] at h4
  have h5 := h4; clear h4
  refine wp_seq_k fun K9 hK9 => wp_seq_k fun K10 hK10 => ?_
  refine wp_region_lit (qs s18 (.c1 rfl (mv rfl rfl) (.c1 rfl (mv rfl rfl) (.c1 rfl (ob_lens rfl Try.underlying22 (.tmp rfl)) (.c1 rfl (ob_lss rfl (.tmp rfl) (.tmp rfl)) (.ce (u 0 rfl (u 1 rfl (u 5 rfl (u 14 rfl .nil))))))))) fun _ _ s23 => wn hK10 ?_); clear s18
  refine cond_split s23 (.tmp rfl) (fun hc2 => ?_) (fun hc2 => ?_)
  ·have h6 := ite_t hc2 h5; clear h5
   refine wp_skip ?_
   refine then_normal (hK9 _ _ ?_)
   have s24 := s23.sub (u 0 rfl (u 1 rfl (u 5 rfl .nil))); clear s23
   refine wp_seq_k fun K11 hK11 => wp_block ?_
   refine wp_seq_k fun K12 hK12 => ?_
   obtain ⟨x1, e_x1, h7⟩ := bind_some h6; clear h6
   obtain ⟨x2, e_x2, h8⟩ := bind_some h7; clear h7
   obtain ⟨x3, e_x3, h9⟩ := bind_some h8; clear h8
   obtain ⟨x4, e_x4, h10⟩ := bind_some h9; clear h9
   obtain ⟨x5, e_x5, h11⟩ := bind_some h10; clear h10
   obtain ⟨x6, e_x6, h12⟩ := bind_some h11; clear h11
   obtain ⟨x7, e_x7, h13⟩ := bind_some h12; clear h12
   refine wp_goes (Fs := [((ksl k_api_Node).V p1), ((kint .i64).V y1), (ptrTo k_api_Node x1), (ptrTo (karr 32 (kint .u8)) x1.Id), ((karr 32 (kint .u8)).V x1.Id), ((ksl k_api_Node).V p2), ((kint .i64).V y1), (ptrTo k_api_Node x2), (ptrTo (karr 32 (kint .u8)) x2.Id), ((karr 32 (kint .u8)).V x2.Id), (kbool.V (!decide (x1.Id = x2.Id))), (kbool.V (!decide (x1.Id = x2.Id))), (Fact.when ((!decide (x1.Id = x2.Id)) == false) ((ksl k_api_Node).V p1)), (Fact.when ((!decide (x1.Id = x2.Id)) == false) ((kint .i64).V y1)), (Fact.when ((!decide (x1.Id = x2.Id)) == false) (ptrTo k_api_Node x3)), (Fact.when ((!decide (x1.Id = x2.Id)) == false) (ptrTo (ksl (kint .i64)) x3.Past)), (Fact.when ((!decide (x1.Id = x2.Id)) == false) ((ksl (kint .i64)).V x3.Past)), (Fact.when ((!decide (x1.Id = x2.Id)) == false) ((ksl k_api_Node).V p2)), (Fact.when ((!decide (x1.Id = x2.Id)) == false) ((kint .i64).V y1)), (Fact.when ((!decide (x1.Id = x2.Id)) == false) (ptrTo k_api_Node x4)), (Fact.when ((!decide (x1.Id = x2.Id)) == false) (ptrTo (ksl (kint .i64)) x4.Past)), (Fact.when ((!decide (x1.Id = x2.Id)) == false) ((ksl (kint .i64)).V x4.Past)), (Fact.when ((!decide (x1.Id = x2.Id)) == false) (kbool.V x5)), (Fact.when ((!decide (x1.Id = x2.Id)) == false) (kbool.V (!x5))), (kbool.V (if (!decide (x1.Id = x2.Id)) then true else (!x5))), (kbool.V (if (!decide (x1.Id = x2.Id)) then true else (!x5))), (Fact.when ((if (!decide (x1.Id = x2.Id)) then true else (!x5)) == false) ((ksl k_api_Node).V p1)), (Fact.when ((if (!decide (x1.Id = x2.Id)) then true else (!x5)) == false) ((kint .i64).V y1)), (Fact.when ((if (!decide (x1.Id = x2.Id)) then true else (!x5)) == false) (ptrTo k_api_Node x6)), (Fact.when ((if (!decide (x1.Id = x2.Id)) then true else (!x5)) == false) (ptrTo k_api_Op x6.Op)), (Fact.when ((if (!decide (x1.Id = x2.Id)) then true else (!x5)) == false) (k_api_Op.V x6.Op)), (Fact.when ((if (!decide (x1.Id = x2.Id)) then true else (!x5)) == false) ((ksl k_api_Node).V p2)), (Fact.when ((if (!decide (x1.Id = x2.Id)) then true else (!x5)) == false) ((kint .i64).V y1)), (Fact.when ((if (!decide (x1.Id = x2.Id)) then true else (!x5)) == false) (ptrTo k_api_Node x7)), (Fact.when ((if (!decide (x1.Id = x2.Id)) then true else (!x5)) == false) (ptrTo k_api_Op x7.Op)), (Fact.when ((if (!decide (x1.Id = x2.Id)) then true else (!x5)) == false) (k_api_Op.V x7.Op))]) (bits := [0, 0, 3, 7, 15, 0, 0, 96, 224, 480, 1023, 2047, 4095, 4095, 16383, 32767, 65535, 4095, 4095, 397311, 921599, 1970175, 4194303, 8388607, 16777215, 33554431, 67108863, 67108863, 268435455, 536870911, 1073741823, 67108863, 67108863, 6509559807, 15099494399, 32279363583, 68719476735, 137438953471, 274877906943]) (m := 36) (todo := 0) mx s24 ?_; clear s24
   refine goes_last (by kernel_rfl) rfl (oc (av 0 rfl rfl Av.nil) rfl rfl (mv rfl rfl) (oc (av 5 rfl rfl Av.nil) rfl rfl (mv rfl rfl) (oc (an 0 rfl rfl rfl (an 1 rfl rfl rfl Av.nil)) rfl rfl (ob_indexAddrs rfl Try.underlying22 sz46 (.tmp rfl) (.tmp rfl) e_x1) (oc (an 2 rfl rfl rfl Av.nil) rfl rfl (ob_fieldAddrr rfl Try.underlying46 rfl sz39 (by decide) (.tmp rfl) (lg_api_Node_Id x1)) (oc (an 3 rfl rfl rfl Av.nil) rfl rfl (ob_loadr rfl tk39 (.tmp rfl)) (oc (av 1 rfl rfl Av.nil) rfl rfl (mv rfl rfl) (oc (av 5 rfl rfl Av.nil) rfl rfl (mv rfl rfl) (oc (an 5 rfl rfl rfl (an 6 rfl rfl rfl Av.nil)) rfl rfl (ob_indexAddrs rfl Try.underlying22 sz46 (.tmp rfl) (.tmp rfl) e_x2) (oc (an 7 rfl rfl rfl Av.nil) rfl rfl (ob_fieldAddrr rfl Try.underlying46 rfl sz39 (by decide) (.tmp rfl) (lg_api_Node_Id x2)) (oc (an 8 rfl rfl rfl Av.nil) rfl rfl (ob_loadr rfl tk39 (.tmp rfl)) (oc (an 4 rfl rfl rfl (an 9 rfl rfl rfl Av.nil)) rfl rfl (ob_neqAgg rfl rfl (by kernel_rfl) eq39 (by decide) (.tmp rfl) (.tmp rfl)) (oc (an 10 rfl rfl rfl Av.nil) rfl rfl (mv rfl rfl) (opsS_cons (.guarded _ (av 0 rfl rfl (an 11 rfl rfl rfl Av.nil)) rfl rfl rfl rfl (fun hb => ob_move rfl (.tmp rfl))) (opsS_cons (.guarded _ (av 5 rfl rfl (an 11 rfl rfl rfl Av.nil)) rfl rfl rfl rfl (fun hb => ob_move rfl (.tmp rfl))) (opsS_cons (.guarded _ (an 11 rfl rfl rfl (an 12 rfl rfl rfl (an 13 rfl rfl rfl Av.nil))) rfl rfl rfl rfl (fun hb => (Ob.uncond (t := 30) hb rfl ((Ob.uncond (t := 29) hb rfl (ob_indexAddrs rfl Try.underlying22 sz46 (.tmp rfl) (.tmp rfl) (ite_t hb e_x3))))))) (opsS_cons (.guarded _ (an 11 rfl rfl rfl (an 14 rfl rfl rfl Av.nil)) rfl rfl rfl rfl (fun hb => (Ob.uncond (t := 31) hb rfl (ob_fieldAddrr rfl Try.underlying46 rfl sz41 (by decide) (.tmp rfl) (lg_api_Node_Past x3))))) (opsS_cons (.guarded _ (an 11 rfl rfl rfl (an 15 rfl rfl rfl Av.nil)) rfl rfl rfl rfl (fun hb => (Ob.uncond (t := 32) hb rfl (ob_loadr rfl tk41 (.tmp rfl))))) (opsS_cons (.guarded _ (av 1 rfl rfl (an 11 rfl rfl rfl Av.nil)) rfl rfl rfl rfl (fun hb => ob_move rfl (.tmp rfl))) (opsS_cons (.guarded _ (av 5 rfl rfl (an 11 rfl rfl rfl Av.nil)) rfl rfl rfl rfl (fun hb => ob_move rfl (.tmp rfl))) (opsS_cons (.guarded _ (an 11 rfl rfl rfl (an 17 rfl rfl rfl (an 18 rfl rfl rfl Av.nil))) rfl rfl rfl rfl (fun hb => (Ob.uncond (t := 35) hb rfl ((Ob.uncond (t := 34) hb rfl (ob_indexAddrs rfl Try.underlying22 sz46 (.tmp rfl) (.tmp rfl) (ite_t hb e_x4))))))) (opsS_cons (.guarded _ (an 11 rfl rfl rfl (an 19 rfl rfl rfl Av.nil)) rfl rfl rfl rfl (fun hb => (Ob.uncond (t := 36) hb rfl (ob_fieldAddrr rfl Try.underlying46 rfl sz41 (by decide) (.tmp rfl) (lg_api_Node_Past x4))))) (opsS_cons (.guarded _ (an 11 rfl rfl rfl (an 20 rfl rfl rfl Av.nil)) rfl rfl rfl rfl (fun hb => (Ob.uncond (t := 37) hb rfl (ob_loadr rfl tk41 (.tmp rfl))))) (opsS_cons (.guarded _ (an 11 rfl rfl rfl (an 16 rfl rfl rfl (an 21 rfl rfl rfl Av.nil))) rfl rfl rfl rfl (fun hb => (Ob.uncond (t := 38) hb rfl ((Ob.uncond (t := 33) hb rfl (ob_callD0 (args := [_, _]) rfl .direct hb38 (fun a w s => by exact c_cabalref15_SameInts k _ _ _ (ite_t hb e_x5) _ _ _ _ (s.arg (.tmp rfl)) (s.arg (.tmp rfl))))))))) (opsS_cons (.guarded _ (an 11 rfl rfl rfl (an 22 rfl rfl rfl Av.nil)) rfl rfl rfl rfl (fun hb => (Ob.uncond (t := 39) hb rfl (ob_not rfl (.tmp rfl))))) (oc (an 11 rfl rfl rfl (an 23 rfl rfl rfl Av.nil)) rfl rfl (ob_or2 rfl (.tmp rfl) opd_bool (.tmp rfl)) (oc (an 24 rfl rfl rfl Av.nil) rfl rfl (mv rfl rfl) (opsS_cons (.guarded _ (av 0 rfl rfl (an 25 rfl rfl rfl Av.nil)) rfl rfl rfl rfl (fun hb => ob_move rfl (.tmp rfl))) (opsS_cons (.guarded _ (av 5 rfl rfl (an 25 rfl rfl rfl Av.nil)) rfl rfl rfl rfl (fun hb => ob_move rfl (.tmp rfl))) (opsS_cons (.guarded _ (an 25 rfl rfl rfl (an 26 rfl rfl rfl (an 27 rfl rfl rfl Av.nil))) rfl rfl rfl rfl (fun hb => (Ob.uncond (t := 44) hb rfl ((Ob.uncond (t := 43) hb rfl (ob_indexAddrs rfl Try.underlying22 sz46 (.tmp rfl) (.tmp rfl) (ite_t hb e_x6))))))) (opsS_cons (.guarded _ (an 25 rfl rfl rfl (an 28 rfl rfl rfl Av.nil)) rfl rfl rfl rfl (fun hb => (Ob.uncond (t := 45) hb rfl (ob_fieldAddrr rfl Try.underlying46 rfl sz44 (by decide) (.tmp rfl) (lg_api_Node_Op x6))))) (opsS_cons (.guarded _ (an 25 rfl rfl rfl (an 29 rfl rfl rfl Av.nil)) rfl rfl rfl rfl (fun hb => (Ob.uncond (t := 46) hb rfl (ob_loadr rfl tk44 (.tmp rfl))))) (opsS_cons (.guarded _ (av 1 rfl rfl (an 25 rfl rfl rfl Av.nil)) rfl rfl rfl rfl (fun hb => ob_move rfl (.tmp rfl))) (opsS_cons (.guarded _ (av 5 rfl rfl (an 25 rfl rfl rfl Av.nil)) rfl rfl rfl rfl (fun hb => ob_move rfl (.tmp rfl))) (opsS_cons (.guarded _ (an 25 rfl rfl rfl (an 31 rfl rfl rfl (an 32 rfl rfl rfl Av.nil))) rfl rfl rfl rfl (fun hb => (Ob.uncond (t := 49) hb rfl ((Ob.uncond (t := 48) hb rfl (ob_indexAddrs rfl Try.underlying22 sz46 (.tmp rfl) (.tmp rfl) (ite_t hb e_x7))))))) (opsS_cons (.guarded _ (an 25 rfl rfl rfl (an 33 rfl rfl rfl Av.nil)) rfl rfl rfl rfl (fun hb => (Ob.uncond (t := 50) hb rfl (ob_fieldAddrr rfl Try.underlying46 rfl sz44 (by decide) (.tmp rfl) (lg_api_Node_Op x7))))) (opsS_cons (.guarded _ (an 25 rfl rfl rfl (an 34 rfl rfl rfl Av.nil)) rfl rfl rfl rfl (fun hb => (Ob.uncond (t := 51) hb rfl (ob_loadr rfl tk44 (.tmp rfl))))) opsS_nil)))))))))))))))))))))))))))))))))))) (out_old (t := 0) rfl rfl (out_old (t := 1) rfl rfl (out_old (t := 5) rfl rfl (out_new (i := 25) (by decide) rfl rfl (out_new (i := 30) (by decide) rfl rfl (out_new (i := 35) (by decide) rfl rfl out_nil)))))) fun _ _ s25 => ?_
   obtain ⟨x8, e_x8, h14⟩ := bind_some h13; clear h13
   obtain ⟨x9, e_x9, h15⟩ := bind_some h14; clear h14; replace e_x9 := Option.some.inj e_x9
   refine qs s25 (.cg rfl rfl rfl rfl (fun hb => (Ob.uncond (t := 52) hb rfl ((Ob.uncond (t := 47) hb rfl (ob_callD0 (args := [_, _]) rfl .direct hb103 (fun a w s => by exact c_cabalref11_SameOp k _ _ _ (ite_t hb e_x8) _ _ _ _ (s.arg (.tmp rfl)) (s.arg (.tmp rfl)))))))) (.cg rfl rfl rfl rfl (fun hb => (Ob.uncond (t := 53) hb rfl (ob_not rfl (.tmp rfl)))) (.c1 rfl ((ob_or2 rfl (.tmp rfl) opd_bool (.tmp rfl)).nm e_x9) (.ce (u 0 rfl (u 1 rfl (u 5 rfl (u 55 rfl .nil)))))))) fun _ _ s29 => wn hK12 ?_; clear s25
   refine cond_split s29 (.tmp rfl) (fun hc3 => ?_) (fun hc3 => ?_)
   ·have h16 := ite_t hc3 h15; clear h15
    refine wp_seq_k fun K13 hK13 => wp_region_lit (qs s29 (.c1 rfl (ob_assign rfl opd_bool) (.ce (u 4 rfl .nil))) fun _ _ s31 => wn hK13 ?_); clear s29
    refine wp_ret ?_
    obtain rfl := Option.some.inj h16
    exact leave s31 (.inl rfl) rfl (.cons (.tmp rfl) .nil)
   ·have h17 := ite_f hc3 h15; clear h15
    refine wp_skip ?_
    refine in_normal ?_
    refine then_normal (hK11 _ _ ?_)
    have s32 := s29.sub (u 0 rfl (u 1 rfl (u 5 rfl .nil))); clear s29
    refine wp_region_lit (qs s32 (.c1 rfl (mv rfl rfl) (.c1 rfl (ob_add rfl (.tmp rfl) (opd_int rfl)) (.c1 rfl (ob_assign rfl (.tmp rfl)) .cz))) fun _ _ s35 => ?_); clear s32
    refine wpList_nil ?_
    refine then_normal ?_
    exact hK8 (iadd .i64 y1 (1 : Int)) _ _ h17 (s35.sub (.cons rfl (.cons rfl (.cons rfl .nil))))
  ·have h18 := ite_f hc2 h5; clear h5
   refine wp_exit ?_
   refine (then_exit (then_exit (in_here ?_)))
   refine then_normal ?_
   exact hj1 _ _ h18 (s23.sub .nil)
theorem c_caballaw15_GraphAdds (k : Nat) (p1 : (List api_Node)) (p2 : (List Int)) (p3 : api_Op) (r : Bool) (h0 : caballaw15_GraphAdds k p1 p2 p3 = some r) (ok : Ok) (w0 : World) (z0 : Value) (z1 : Value) (z2 : Value) (u0 : ((ksl k_api_Node).V p1).holds ok w0 z0) (u1 : ((karr 32 (kint .u8)).V p2).holds ok w0 z1) (u2 : (k_api_Op.V p3).holds ok w0 z2) :
 Gives Try.prog 14 [z0, z1, z2] ok w0 (resFact [kbool.V r]) := by
 unfold caballaw15_GraphAdds at h0
 refine enter (N := 103) Try.func14 rfl rfl (of_decide_eq_true rfl) (.cons u0 (.cons u1 (.cons u2 .nil))) fun a1 s1 => ?_
 refine wp_seq_k fun K1 hK1 => wp_region_lit ?_
 refine qx (B' := (fun b1 : Nat => [BF b1 39 (karr 32 (kint .u8)) p2])) s1 rfl (ob_box rfl (.tmp rfl)) fun b1 _ _ s2 => ?_; clear s1
 refine qx (B' := (fun b2 : Nat => [BF b2 44 k_api_Op p3, BF b1 39 (karr 32 (kint .u8)) p2])) s2 rfl (ob_box rfl (.tmp rfl)) fun b2 _ _ s3 => ?_; clear s2
 refine qs s3 (.c1 rfl (ob_assign rfl opd_bool) (.ce (u 0 rfl (u 4 rfl (u 5 rfl .nil))))) fun _ _ s5 => wn hK1 ?_; clear s3
 refine wp_seq_k fun K2 hK2 => wp_seq_k fun K3 hK3 => ?_
 obtain ⟨x1, e_x1, h1⟩ := bind_some h0; clear h0
 refine wp_region_lit (qs s5 (.c1 rfl (ob_callD0 (args := []) rfl .direct hb47 (fun a w s => by exact c_caballaw15_alive k _ e_x1 _ _)) (.c1 rfl (ob_not rfl (.tmp rfl)) (.ce (u 0 rfl (u 4 rfl (u 5 rfl (u 16 rfl .nil))))))) fun _ _ s8 => wn hK3 ?_); clear s5
 refine cond_split s8 (.tmp rfl) (fun hc1 => ?_) (fun hc1 => ?_)
 ·have h2 := ite_t hc1 h1; clear h1
  refine wp_seq_k fun K4 hK4 => wp_region_lit (qs s8 (.c1 rfl (ob_assign rfl opd_bool) (.ce (u 6 rfl .nil))) fun _ _ s10 => wn hK4 ?_); clear s8
  have s11 := St.drop (A := []) s10; clear s10
  have s12 := St.drop (A := []) s11; clear s11
  refine wp_ret ?_
  obtain rfl := Option.some.inj h2
  exact leave s12 (.inl rfl) rfl (.cons (.tmp rfl) .nil)
 ·have h3 := ite_f hc1 h1; clear h1
  refine wp_skip ?_
  refine then_normal (hK2 _ _ ?_)
  have s13 := s8.sub (u 0 rfl (u 4 rfl (u 5 rfl .nil))); clear s8
  refine wp_seq_k fun K5 hK5 => wp_seq_k fun K6 hK6 => ?_
  obtain ⟨x2, e_x2, h4⟩ := bind_some h3; clear h3
  obtain ⟨x3, e_x3, h5⟩ := bind_some h4; clear h4
  refine wp_region_lit (qs s13 (.c1 rfl (mv rfl rfl) (.c1 rfl (ob_callD0 (args := [_]) rfl .direct hb23 (fun a w s => by exact c_cabalref15_Great k _ _ e_x2 _ _ _ (s.arg (.tmp rfl)))) (.c1 rfl (mv rfl rfl) (.cg rfl rfl rfl rfl (fun hb => ob_load rfl tk44 (.tmp rfl) (.head _) (LG.refl _ _)) (.cg rfl rfl rfl rfl (fun hb => (Ob.uncond (t := 20) hb rfl (ob_callD0 (args := [_]) rfl .direct hb51 (fun a w s => by exact c_cabalref11_Great k _ _ (ite_t hb e_x3) _ _ _ (s.arg (.tmp rfl)))))) (.c1 rfl (ob_or2 rfl (.tmp rfl) opd_bool (.tmp rfl)) (.ce (u 0 rfl (u 4 rfl (u 5 rfl (u 22 rfl .nil))))))))))) fun _ _ s20 => wn hK6 ?_); clear s13
  refine cond_split s20 (.tmp rfl) (fun hc2 => ?_) (fun hc2 => ?_)
  ·have h6 := ite_t hc2 h5; clear h5
   obtain ⟨x4, e_x4, h7⟩ := bind_some h6; clear h6
   refine wp_seq_k fun K7 hK7 => wp_region_lit (qs s20 (.c1 rfl (ob_callD0 (args := []) rfl .direct hb47 (fun a w s => by exact c_caballaw15_alive k _ e_x4 _ _)) (.c1 rfl (ob_assign rfl (.tmp rfl)) (.ce (u 6 rfl .nil)))) fun _ _ s23 => wn hK7 ?_); clear s20
   have s24 := St.drop (A := []) s23; clear s23
   have s25 := St.drop (A := []) s24; clear s24
   refine wp_ret ?_
   obtain rfl := Option.some.inj h7
   exact leave s25 (.inl rfl) rfl (.cons (.tmp rfl) .nil)
  ·have h8 := ite_f hc2 h5; clear h5
   refine wp_skip ?_
   refine then_normal (hK5 _ _ ?_)
   have s26 := s20.sub (u 0 rfl (u 4 rfl (u 5 rfl .nil))); clear s20
   obtain ⟨x5, e_x5, h9⟩ := bind_some h8; clear h8
   refine wp_seq_k fun K8 hK8 => wp_region_lit (qs s26 (.c1 rfl (mv rfl rfl) (.c1 rfl (ob_load rfl tk39 (.tmp rfl) (.tail _ (.head _)) (LG.refl _ _)) (.c1 rfl (ob_load rfl tk44 (.tmp rfl) (.head _) (LG.refl _ _)) .cz))) fun _ _ s29 => ?_); clear s26
   refine qx (B' := (fun v1 : Value => [RowF v1 46 k_api_Node x5.1, BF b2 44 k_api_Op p3, BF b1 39 (karr 32 (kint .u8)) p2])) s29 rfl (ob_callL0 (args := [_, _, _]) (L := []) rfl .direct hb43 (List.Perm.refl _) (fun a w s => by exact c_graph_Add k _ _ _ _ e_x5 _ _ _ _ _ (s.arg (.tmp rfl)) (s.arg (.tmp rfl)) (s.arg (.tmp rfl))) (by exact fun _ => rfl)) fun v1 _ _ s30 => ?_; clear s29
   refine qs s30 (.c1 rfl (mv rfl rfl) (.c1 rfl (ob_extract rfl (.tmp rfl) rfl) (.c1 rfl (ob_extract rfl (.tmp rfl) rfl) (.c1 rfl (ob_assign rfl (.tmp rfl)) (.c1 rfl (ob_assign rfl (.tmp rfl)) (.ce (u 0 rfl (u 4 rfl (u 5 rfl (u 7 rfl (u 8 rfl .nil))))))))))) fun _ _ s36 => wn hK8 ?_; clear s30
   obtain ⟨x6, e_x6, h10⟩ := bind_some h9; clear h9
   refine wp_seq_k fun K9 hK9 => wp_region_lit (qs s36 (.c1 rfl (mv rfl rfl) (.c1 rfl (ob_fieldAddr (off' := 2) rfl Try.underlying44 rfl sz40 (by decide) (.tmp rfl) rfl) (.c1 rfl (ob_load rfl tk40 (.tmp rfl) (.tail _ (.head _)) (lg_api_Op_Parents p3)) .cz))) fun _ _ s39 => ?_); clear s36
   refine qx (B' := (fun v2 : Value => [RowF v2 3 (kint .i64) x6.1, RowF v1 46 k_api_Node x5.1, BF b2 44 k_api_Op p3, BF b1 39 (karr 32 (kint .u8)) p2])) s39 rfl (ob_callL0 (args := [_, _]) (L := []) rfl .direct hb54 (List.Perm.refl _) (fun a w s => by exact c_graph_Past k _ _ _ e_x6 _ _ _ _ (s.arg (.tmp rfl)) (s.arg (.tmp rfl))) (by exact fun _ => rfl)) fun v2 _ _ s40 => ?_; clear s39
   refine qs s40 (.c1 rfl (mv rfl rfl) (.c1 rfl (ob_extract rfl (.tmp rfl) rfl) (.c1 rfl (ob_extract rfl (.tmp rfl) rfl) (.c1 rfl (ob_assign rfl (.tmp rfl)) (.c1 rfl (ob_assign rfl (.tmp rfl)) (.ce (u 0 rfl (u 4 rfl (u 5 rfl (u 7 rfl (u 8 rfl (u 9 rfl (u 10 rfl .nil))))))))))))) fun _ _ s46 => wn hK9 ?_; clear s40
   refine wp_seq_k fun K10 hK10 => wp_seq_k fun K11 hK11 => ?_
   obtain ⟨x7, e_x7, h11⟩ := bind_some h10; clear h10
   refine wp_region_lit (qs s46 (.c1 rfl (mv rfl rfl) (.c1 rfl (ob_callD0 (args := [_]) rfl .direct hb30 (fun a w s => by exact c_cabalref15_Right k _ _ e_x7 _ _ _ (s.arg (.tmp rfl)))) (.c1 rfl (ob_not rfl (.tmp rfl)) (.ce (u 0 rfl (u 4 rfl (u 5 rfl (u 7 rfl (u 8 rfl (u 9 rfl (u 10 rfl (u 40 rfl .nil)))))))))))) fun _ _ s50 => wn hK11 ?_); clear s46
   refine cond_split s50 (.tmp rfl) (fun hc3 => ?_) (fun hc3 => ?_)
   ·have h12 := ite_t hc3 h11; clear h11
    obtain ⟨x8, e_x8, h13⟩ := bind_some h12; clear h12
    obtain ⟨x9, e_x9, h14⟩ := bind_some h13; clear h13; replace e_x9 := Option.some.inj e_x9
    obtain ⟨x10, e_x10, h15⟩ := bind_some h14; clear h14; replace e_x10 := Option.some.inj e_x10
    refine wp_seq_k fun K12 hK12 => wp_region_lit (qs s50 (.c1 rfl (ob_callD0 (args := []) rfl .direct hb47 (fun a w s => by exact c_caballaw15_alive k _ e_x8 _ _)) (.c1 rfl (mv rfl rfl) (.cg rfl rfl rfl rfl (fun hb => ob_move rfl (.tmp rfl)) (.cg rfl rfl rfl rfl (fun hb => (Ob.uncond (t := 43) hb rfl (ob_lenRow rfl Try.underlying22 (.tmp rfl) (.tail _ (.head _))))) (.cg rfl rfl rfl rfl (fun hb => (Ob.uncond (t := 44) hb rfl (ob_eql rfl (.tmp rfl) (opd_int rfl)))) (.c1 rfl (ob_and2 rfl (.tmp rfl) (.tmp rfl) opd_bool) (.c1 rfl (mv rfl rfl) (.cg rfl rfl rfl rfl (fun hb => ob_move rfl (.tmp rfl)) (.cg rfl rfl rfl rfl (fun hb => (Ob.uncond (t := 48) hb rfl (ob_eql rfl (.tmp rfl) (opd_int rfl)))) (.c1 rfl ((ob_and2 rfl (.tmp rfl) (.tmp rfl) opd_bool).nm e_x9) (.c1 rfl (mv rfl rfl) (.cg rfl rfl rfl rfl (fun hb => ob_move rfl (.tmp rfl)) (.cg rfl rfl rfl rfl (fun hb => (Ob.uncond (t := 52) hb rfl (ob_lenRow rfl Try.underlying41 (.tmp rfl) (.head _)))) (.cg rfl rfl rfl rfl (fun hb => (Ob.uncond (t := 53) hb rfl (ob_eql rfl (.tmp rfl) (opd_int rfl)))) (.c1 rfl (ob_and2 rfl (.tmp rfl) (.tmp rfl) opd_bool) (.c1 rfl (mv rfl rfl) (.cg rfl rfl rfl rfl (fun hb => ob_move rfl (.tmp rfl)) (.cg rfl rfl rfl rfl (fun hb => (Ob.uncond (t := 57) hb rfl (ob_eql rfl (.tmp rfl) (opd_int rfl)))) (.c1 rfl ((ob_and2 rfl (.tmp rfl) (.tmp rfl) opd_bool).nm e_x10) (.c1 rfl (ob_assign rfl (.tmp rfl)) (.ce (u 6 rfl .nil)))))))))))))))))))))) fun _ _ s71 => wn hK12 ?_); clear s50
    have s72 := St.drop (A := []) s71; clear s71
    have s73 := St.drop (A := []) s72; clear s72
    have s74 := St.drop (A := []) s73; clear s73
    have s75 := St.drop (A := []) s74; clear s74
    refine wp_ret ?_
    obtain rfl := Option.some.inj h15
    exact leave s75 (.inl rfl) rfl (.cons (.tmp rfl) .nil)
   ·have h16 := ite_f hc3 h11; clear h11
    refine wp_skip ?_
    refine then_normal (hK10 _ _ ?_)
    have s76 := s50.sub (u 0 rfl (u 4 rfl (u 5 rfl (u 7 rfl (u 8 rfl (u 9 rfl (u 10 rfl .nil))))))); clear s50
    obtain ⟨x11, e_x11, h17⟩ := bind_some h16; clear h16
    refine wp_seq_k fun K13 hK13 => wp_region_lit (qs s76 (.c1 rfl (mv rfl rfl) (.c1 rfl (ob_load rfl tk39 (.tmp rfl) (.tail _ (.tail _ (.tail _ (.head _)))) (LG.refl _ _)) (.c1 rfl (ob_load rfl tk44 (.tmp rfl) (.tail _ (.tail _ (.head _))) (LG.refl _ _)) .cz))) fun _ _ s79 => ?_); clear s76
    refine qx (B' := (fun v3 : Value => [RowF v3 46 k_api_Node x11.1, RowF v2 3 (kint .i64) x6.1, RowF v1 46 k_api_Node x5.1, BF b2 44 k_api_Op p3, BF b1 39 (karr 32 (kint .u8)) p2])) s79 rfl (ob_callL0 (args := [_, _, _]) (L := []) rfl .direct hb52 (List.Perm.refl _) (fun a w s => by exact c_cabalref15_Add k _ _ _ _ e_x11 _ _ _ _ _ (s.arg (.tmp rfl)) (s.arg (.tmp rfl)) (s.arg (.tmp rfl))) (by exact fun _ => rfl)) fun v3 _ _ s80 => ?_; clear s79
    refine qs s80 (.c1 rfl (mv rfl rfl) (.c1 rfl (ob_extract rfl (.tmp rfl) rfl) (.c1 rfl (ob_extract rfl (.tmp rfl) rfl) (.c1 rfl (ob_assign rfl (.tmp rfl)) (.c1 rfl (ob_assign rfl (.tmp rfl)) (.ce (u 0 rfl (u 5 rfl (u 7 rfl (u 8 rfl (u 9 rfl (u 10 rfl (u 11 rfl (u 12 rfl .nil)))))))))))))) fun _ _ s86 => wn hK13 ?_; clear s80
    have s87 := St.drop (A := [_, _, _, _]) s86; clear s86
    obtain ⟨x12, e_x12, h18⟩ := bind_some h17; clear h17
    refine wp_seq_k fun K14 hK14 => wp_region_lit (qs s87 (.c1 rfl (mv rfl rfl) (.c1 rfl (ob_fieldAddr (off' := 2) rfl Try.underlying44 rfl sz40 (by decide) (.tmp rfl) rfl) (.c1 rfl (ob_load rfl tk40 (.tmp rfl) (.tail _ (.tail _ (.tail _ (.head _)))) (lg_api_Op_Parents p3)) .cz))) fun _ _ s90 => ?_); clear s87
    refine qx (B' := (fun v4 : Value => [RowF v4 3 (kint .i64) x12.1, RowF v3 46 k_api_Node x11.1, RowF v2 3 (kint .i64) x6.1, RowF v1 46 k_api_Node x5.1, BF b2 44 k_api_Op p3])) s90 rfl (ob_callL0 (args := [_, _]) (L := []) rfl .direct hb55 (List.Perm.refl _) (fun a w s => by exact c_cabalref15_Past k _ _ _ e_x12 _ _ _ _ (s.arg (.tmp rfl)) (s.arg (.tmp rfl))) (by exact fun _ => rfl)) fun v4 _ _ s91 => ?_; clear s90
    refine qs s91 (.c1 rfl (mv rfl rfl) (.c1 rfl (ob_extract rfl (.tmp rfl) rfl) (.c1 rfl (ob_extract rfl (.tmp rfl) rfl) (.c1 rfl (ob_assign rfl (.tmp rfl)) (.c1 rfl (ob_assign rfl (.tmp rfl)) (.ce (u 7 rfl (u 8 rfl (u 9 rfl (u 10 rfl (u 11 rfl (u 12 rfl (u 13 rfl (u 14 rfl .nil)))))))))))))) fun _ _ s97 => wn hK14 ?_; clear s91
    have s98 := St.drop (A := [_, _, _, _]) s97; clear s97
    refine wp_seq_k fun K15 hK15 => wp_seq_k fun K16 hK16 => ?_
    refine wp_region_lit (qs s98 (.c1 rfl (mv rfl rfl) (.c1 rfl (mv rfl rfl) (.c1 rfl (ob_eql rfl (.tmp rfl) (opd_int rfl)) (.c1 rfl (ob_bneq rfl Try.underlying4 (.tmp rfl) (.tmp rfl)) (.c1 rfl (mv rfl rfl) (.cg rfl rfl rfl rfl (fun hb => ob_move rfl (.tmp rfl)) (.cg rfl rfl rfl rfl (fun hb => (Ob.uncond (t := 79) hb rfl (ob_not rfl (.tmp rfl)))) (.cg rfl rfl rfl rfl (fun hb => (Ob.uncond (t := 80) hb rfl (mv rfl rfl))) .cz)))))))) fun _ _ s106 => ?_); clear s98
    refine seq_opg2 s106 rfl rfl rfl rfl (of_decide_eq_true rfl) (fun hb => ob_move rfl (.tmp rfl)) fun _ _ s107 => ?_; clear s106
    refine seq_opg2 s107 rfl rfl rfl rfl (of_decide_eq_true rfl) (fun hb => (Ob.uncond (t := 82) hb rfl (ob_neq rfl (.tmp rfl) (opd_int rfl)))) fun _ _ s108 => ?_; clear s107
    obtain ⟨x13, e_x13, h19⟩ := bind_some h18; clear h18; replace e_x13 := Option.some.inj e_x13
    obtain ⟨x14, e_x14, h20⟩ := bind_some h19; clear h19
    refine qs s108 (.cg rfl rfl rfl rfl (fun hb => (Ob.uncond (t := 81) hb rfl (ob_and3 hb rfl (.tmp rfl) (.tmp rfl) opd_bool))) (.c1 rfl ((ob_or2 rfl (.tmp rfl) opd_bool (.tmp rfl)).nm e_x13) (.c1 rfl (mv rfl rfl) (.cg rfl rfl rfl rfl (fun hb => ob_move rfl (.tmp rfl)) (.cg rfl rfl rfl rfl (fun hb => ob_move rfl (.tmp rfl)) (.cg rfl rfl rfl rfl (fun hb => (Ob.uncond (t := 88) hb rfl ((Ob.uncond (t := 87) hb rfl ((ob_lendG (L := [_, _]) (toFront [_, _] (toFront [] (List.Perm.refl _))) (.cons (t := 87) rfl (lendRow (.head _)) (.cons (t := 88) rfl (lendRow (.tail _ (.head _))) .nil)) (Flat.res1 (Flat.V KFlat.bool)) (fun _ => ob_callD0 (args := [_, _]) rfl .direct hb38 (fun a w s => by exact c_cabalref15_SameInts k _ _ _ (ite_t hb e_x14) _ _ _ _ (s.arg (.tmp rfl)) (s.arg (.tmp rfl)))))))))) (.cg rfl rfl rfl rfl (fun hb => (Ob.uncond (t := 89) hb rfl (ob_not rfl (.tmp rfl)))) (.c1 rfl (ob_or2 rfl (.tmp rfl) opd_bool (.tmp rfl)) (.ce (u 7 rfl (u 8 rfl (u 11 rfl (u 12 rfl (u 91 rfl .nil)))))))))))))) fun _ _ s117 => wn hK16 ?_; clear s108
    have s118 := St.drop (A := []) s117; clear s117
    have s119 := St.drop (A := [_]) s118; clear s118
    refine cond_split s119 (.tmp rfl) (fun hc4 => ?_) (fun hc4 => ?_)
    ·have h21 := ite_t hc4 h20; clear h20
     refine wp_seq_k fun K17 hK17 => wp_region_lit (qs s119 (.c1 rfl (ob_assign rfl opd_bool) (.ce (u 6 rfl .nil))) fun _ _ s121 => wn hK17 ?_); clear s119
     have s122 := St.drop (A := []) s121; clear s121
     have s123 := St.drop (A := []) s122; clear s122
     refine wp_ret ?_
     obtain rfl := Option.some.inj h21
     exact leave s123 (.inl rfl) rfl (.cons (.tmp rfl) .nil)
    ·have h22 := ite_f hc4 h20; clear h20
     refine wp_skip ?_
     refine then_normal (hK15 _ _ ?_)
     have s124 := s119.sub (u 7 rfl (u 8 rfl (u 11 rfl (u 12 rfl .nil)))); clear s119
     obtain ⟨x15, e_x15, h23⟩ := bind_some h22; clear h22
     obtain ⟨x16, e_x16, h24⟩ := bind_some h23; clear h23
     refine wp_seq_k fun K18 hK18 => wp_region_lit (qs s124 (.c1 rfl (ob_callD0 (args := []) rfl .direct hb47 (fun a w s => by exact c_caballaw15_alive k _ e_x15 _ _)) (.c1 rfl (mv rfl rfl) (.cg rfl rfl rfl rfl (fun hb => ob_move rfl (.tmp rfl)) (.cg rfl rfl rfl rfl (fun hb => ob_move rfl (.tmp rfl)) (.cg rfl rfl rfl rfl (fun hb => (Ob.uncond (t := 95) hb rfl ((Ob.uncond (t := 94) hb rfl (ob_eql rfl (.tmp rfl) (.tmp rfl)))))) (.c1 rfl (ob_and2 rfl (.tmp rfl) (.tmp rfl) opd_bool) (.c1 rfl (mv rfl rfl) (.cg rfl rfl rfl rfl (fun hb => ob_move rfl (.tmp rfl)) (.cg rfl rfl rfl rfl (fun hb => ob_move rfl (.tmp rfl)) (.cg rfl rfl rfl rfl (fun hb => (Ob.uncond (t := 100) hb rfl ((Ob.uncond (t := 99) hb rfl ((ob_lendG (L := [_, _]) (toFront [_] (toFront [] (List.Perm.refl _))) (.cons (t := 99) rfl (lendRow (.head _)) (.cons (t := 100) rfl (lendRow (.tail _ (.head _))) .nil)) (Flat.res1 (Flat.V KFlat.bool)) (fun _ => ob_callD0 (args := [_, _]) rfl .direct hb53 (fun a w s => by exact c_cabalref15_Same k _ _ _ (ite_t hb e_x16) _ _ _ _ (s.arg (.tmp rfl)) (s.arg (.tmp rfl)))))))))) (.c1 rfl (ob_and2 rfl (.tmp rfl) (.tmp rfl) opd_bool) (.c1 rfl (ob_assign rfl (.tmp rfl)) (.ce (u 6 rfl .nil)))))))))))))) fun _ _ s137 => wn hK18 ?_); clear s124
     have s138 := St.drop (A := []) s137; clear s137
     have s139 := St.drop (A := []) s138; clear s138
     refine wp_ret ?_
     obtain rfl := Option.some.inj h24
     exact leave s139 (.inl rfl) rfl (.cons (.tmp rfl) .nil)
end Go.Proofs.Ytdlnfgpcnfbjiaa
