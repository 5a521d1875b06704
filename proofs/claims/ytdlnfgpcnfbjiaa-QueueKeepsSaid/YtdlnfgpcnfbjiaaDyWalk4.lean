/- Several parts of this proof in one file. No condition. -/
import Derived.Test.YtdlnfgpcnfbjiaaDyWalk3
namespace Go.Proofs.Ytdlnfgpcnfbjiaa
open Go Go.RowKit Go.Proofs.Kit Go.Proofs.Pure
set_option linter.unusedVariables false
set_option linter.unusedSimpArgs false
set_option maxRecDepth 100000
set_option maxHeartbeats 2000000
theorem c_queue_Wanted (k : Nat) (p1 : (List api_Node)) (p2 : (List api_Held)) (r : (List (List Int))) (h0 : queue_Wanted k p1 p2 = some r) (ok : Ok) (w0 : World) (z0 : Value) (z1 : Value) (u0 : ((ksl k_api_Node).V p1).holds ok w0 z0) (u1 : ((ksl k_api_Held).V p2).holds ok w0 z1) :
 GivesX Try.prog 62 [z0, z1] ok w0 [] (fun g : Value => resFact [is g]) (fun g : Value => [RowF (g) 39 (karr 32 (kint .u8)) r]) := by
 unfold queue_Wanted at h0
 refine enterX (N := 50) Try.func62 rfl rfl (of_decide_eq_true rfl) (.cons u0 (.cons u1 .nil)) List.nodup_nil (fun _ h => by cases h) (fun _ h => by cases h) fun a1 s1 => ?_
 refine wp_seq_k fun K1 hK1 => wp_region_lit (qs s1 (.c1 rfl (ob_assign rfl opd_is) .cz) fun _ _ s2 => ?_); clear s1
 have s3 := St.adopt s2 (G := RowF (nilRow 13) 39 (karr 32 (kint .u8)) []) rfl (rowNilN _ _ _ _ _); clear s2
 refine wn hK1 ?_
 have s4 := s3.sub (u 0 rfl (u 1 rfl .nil)); clear s3
 have s5 := St.drop (A := []) s4; clear s4
 refine wp_seq_k fun K2 hK2 => wp_seq_k fun K3 hK3 => ?_
 obtain ⟨x1, e_x1, h1⟩ := bind_some h0; clear h0
 obtain ⟨x2, e_x2, h2⟩ := bind_some h1; clear h1
 refine wp_region_lit (qs s5 (.c1 rfl (mv rfl rfl) (.c1 rfl (ob_callD0 (args := [_]) rfl .direct hb24 (fun a w s => by exact c_graph_Right k _ _ e_x1 _ _ _ (s.arg (.tmp rfl)))) (.c1 rfl (ob_not rfl (.tmp rfl)) (.c1 rfl (mv rfl rfl) (.cg rfl rfl rfl rfl (fun hb => ob_move rfl (.tmp rfl)) (.cg rfl rfl rfl rfl (fun hb => (Ob.uncond (t := 14) hb rfl (ob_callD0 (args := [_]) rfl .direct hb71 (fun a w s => by exact c_queue_Right k _ _ (ite_t hb e_x2) _ _ _ (s.arg (.tmp rfl)))))) (.cg rfl rfl rfl rfl (fun hb => (Ob.uncond (t := 15) hb rfl (ob_not rfl (.tmp rfl)))) (.c1 rfl (ob_or2 rfl (.tmp rfl) opd_bool (.tmp rfl)) (.ce (u 0 rfl (u 1 rfl (u 17 rfl .nil)))))))))))) fun _ _ s14 => wn hK3 ?_); clear s5
 refine cond_split s14 (.tmp rfl) (fun hc1 => ?_) (fun hc1 => ?_)
 ·have h3 := ite_t hc1 h2; clear h2
  refine wp_seq_k fun K4 hK4 => wp_region_lit (qs s14 (.c1 rfl (ob_assign rfl opd_is) .cz) fun _ _ s15 => ?_); clear s14
  have s16 := St.adopt s15 (G := RowF (nilRow 17) 39 (karr 32 (kint .u8)) []) rfl (rowNilN _ _ _ _ _); clear s15
  refine wn hK4 ?_
  have s17 := s16.sub (u 4 rfl .nil); clear s16
  refine wp_ret ?_
  obtain rfl := Option.some.inj h3
  exact leaveXD (D := []) (nilRow 17) s17 rfl (.inl rfl) rfl (.cons (.tmp rfl) .nil) rfl
 ·have h4 := ite_f hc1 h2; clear h2
  refine wp_skip ?_
  refine then_normal (hK2 _ _ ?_)
  have s18 := s14.sub (u 0 rfl (u 1 rfl .nil)); clear s14
  refine wp_seq_k fun K5 hK5 => wp_region_lit (qs s18 (.c1 rfl (ob_assign rfl opd_is) .cz) fun _ _ s19 => ?_); clear s18
  have s20 := St.adopt s19 (G := RowF (nilRow 18) 39 (karr 32 (kint .u8)) []) rfl (rowNilN _ _ _ _ _); clear s19
  refine wn hK5 ?_
  have s21 := s20.sub (u 0 rfl (u 1 rfl (u 5 rfl .nil))); clear s20
  refine wp_seq_k fun K6 hK6 => wp_seq_k fun K7 hK7 => ?_
  refine wp_region_lit (qs s21 (.c1 rfl (mv rfl rfl) (.c1 rfl (ob_lens rfl Try.underlying85 (.tmp rfl)) (.c1 rfl (ob_move rfl (opd_int rfl)) (.ce (u 0 rfl (u 1 rfl (u 5 rfl (u 18 rfl (u 19 rfl (u 20 rfl .nil)))))))))) fun _ _ s25 => wn hK7 ?_); clear s21
  have hj1 : ∀ (y1 : (List (List Int))) (v1 : Value) (a : Act) (w : World), (queue_Wanted.j1 k) y1 = some r → St ⟨50, w0, ok, (idsOf [])⟩ [RowF v1 39 (karr 32 (kint .u8)) y1] [(5, (is v1))] a w → K6 a w := by
   intro y1 v1 a26 w26 h5 s26
   unfold queue_Wanted.j1 at h5
   refine hK6 _ _ ?_
   obtain ⟨x3, e_x3, h6⟩ := bind_some h5; clear h5
   refine wp_seq_k fun K8 hK8 => wp_region_lit (qs s26 (.c1 rfl (mv rfl rfl) .cz) fun _ _ s27 => ?_); clear s26
   refine qx (B' := (fun v2 : Value => [RowF v2 39 (karr 32 (kint .u8)) x3])) s27 rfl (ob_callL0 (args := [_, _]) (L := [_]) rfl .direct hb114 (List.Perm.refl _) (fun a w s => by exact c_queue_once_api_Key_queue_Wanted_1 k _ _ e_x3 _ _ _ _ _ (ownL s) (disL s) (nodL s) (s.arg (.tmp rfl)) (s.arg .func)) (by exact fun _ => rfl)) fun v2 _ _ s28 => ?_; clear s27
   refine qs s28 (.c1 rfl (ob_assign rfl (.tmp rfl)) (.ce (u 4 rfl .nil))) fun _ _ s30 => wn hK8 ?_; clear s28
   refine wp_ret ?_
   obtain rfl := Option.some.inj h6
   exact leaveXD (D := []) v2 s30 rfl (.inl rfl) rfl (.cons (.tmp rfl) .nil) rfl
  refine wp_block ?_
  refine wp_loop_fuel (fun m (q : Int × (List (List Int))) => queue_Wanted.l1 k p2 p1 m q.1 q.2) r (fun _ => rfl) (fun q a w => ∃ (v3 : Value), St ⟨50, w0, ok, (idsOf [])⟩ [RowF v3 39 (karr 32 (kint .u8)) q.2] [(0, ((ksl k_api_Node).V p1)), (1, ((ksl k_api_Held).V p2)), (5, (is v3)), (18, ((ksl k_api_Held).V p2)), (19, ((kint .i64).V (p2.length : Int))), (20, ((kint .i64).V q.1))] a w) ?_ k ((0 : Int), ([] : (List (List Int)))) _ _ h4 ⟨(nilRow 18), (s25.sub (.cons rfl (.cons rfl (.cons rfl (.cons rfl (.cons rfl (.cons rfl .nil)))))))⟩
  rintro n1 ⟨y2, y3⟩ a31 w31 h7 ⟨v3, s31⟩ K9 hK9
  replace h7 : queue_Wanted.l1 k p2 p1 (n1 + 1) y2 y3 = some r := h7; rw [queue_Wanted.l1] at h7
  have h8 := h7; clear h7
  refine wp_seq_k fun K10 hK10 => wp_region_lit (qs s31 (.c1 rfl (ob_lss rfl (.tmp rfl) (.tmp rfl)) (.ce (u 0 rfl (u 1 rfl (u 5 rfl (u 18 rfl (u 19 rfl (u 20 rfl (u 21 rfl .nil))))))))) fun _ _ s33 => wn hK10 ?_); clear s31
  refine wp_seq_k fun K11 hK11 => ?_
  refine cond_split s33 (.tmp rfl) (fun hc2 => ?_) (fun hc2 => ?_)
  ·have h9 := ite_t hc2 h8; clear h8
   refine wp_skip ?_
   refine then_normal (hK11 _ _ ?_)
   have s34 := s33.sub (u 0 rfl (u 1 rfl (u 5 rfl (u 18 rfl (u 19 rfl (u 20 rfl .nil)))))); clear s33
   refine wp_seq_k fun K12 hK12 => ?_
   have hj2 : ∀ (y4 : (List (List Int))) (v4 : Value) (a : Act) (w : World), (queue_Wanted.j2 k y2 (queue_Wanted.l1 k p2 p1 n1)) y4 = some r → St ⟨50, w0, ok, (idsOf [])⟩ [RowF v4 39 (karr 32 (kint .u8)) y4] [(0, ((ksl k_api_Node).V p1)), (1, ((ksl k_api_Held).V p2)), (5, (is v4)), (18, ((ksl k_api_Held).V p2)), (19, ((kint .i64).V (p2.length : Int))), (20, ((kint .i64).V y2))] a w → K12 a w := by
    intro y4 v4 a35 w35 h10 s35
    unfold queue_Wanted.j2 at h10
    refine hK12 _ _ ?_
    refine wp_region_lit (qs s35 (.c1 rfl (ob_add rfl (.tmp rfl) (opd_int rfl)) (.c1 rfl (mv rfl rfl) .cz)) fun _ _ s37 => ?_); clear s35
    refine wpList_nil ?_
    refine then_normal ?_
    exact hK9 ((iadd .i64 y2 (1 : Int)), y4) _ _ h10 ⟨v4, (s37.sub (.cons rfl (.cons rfl (.cons rfl (.cons rfl (.cons rfl (.cons rfl .nil)))))))⟩
   refine wp_block ?_
   obtain ⟨x4, e_x4, h11⟩ := bind_some h9; clear h9
   refine wp_seq_k fun K13 hK13 => wp_region_lit (qs s34 (.c1 rfl (ob_indexAddrs rfl Try.underlying85 sz91 (.tmp rfl) (.tmp rfl) e_x4) (.c1 rfl (ob_loadr rfl tk91 (.tmp rfl)) .cz)) fun _ _ s39 => ?_); clear s34
   refine qx (B' := (fun b1 : Nat => [BF b1 91 k_api_Held (⟨(List.replicate 32 (0 : Int)), (⟨(0 : Int), (0 : Int), [], (0 : Int), [], (List.replicate 32 (0 : Int)), (List.replicate 32 (0 : Int)), [], []⟩ : api_Op), []⟩ : api_Held), RowF v3 39 (karr 32 (kint .u8)) y3])) s39 rfl (ob_new (k := k_api_Held) rfl zz91 (Zr.iso (f := t_api_Held) (x := (⟨(List.replicate 32 (0 : Int)), (⟨(0 : Int), (0 : Int), [], (0 : Int), [], (List.replicate 32 (0 : Int)), (List.replicate 32 (0 : Int)), [], []⟩ : api_Op), []⟩ : api_Held)) (Zr.pair (Zr.arr 32 (Zr.int .u8)) (Zr.pair (Zr.iso (f := t_api_Op) (x := (⟨(0 : Int), (0 : Int), [], (0 : Int), [], (List.replicate 32 (0 : Int)), (List.replicate 32 (0 : Int)), [], []⟩ : api_Op)) (Zr.pair (Zr.int .i64) (Zr.pair (Zr.int .u32) (Zr.pair (Zr.sl _) (Zr.pair (Zr.int .i64) (Zr.pair (Zr.sl _) (Zr.pair (Zr.arr 32 (Zr.int .u8)) (Zr.pair (Zr.arr 32 (Zr.int .u8)) (Zr.pair Zr.str (Zr.pair (Zr.sl _) Zr.nil)))))))))) (Zr.pair (Zr.sl _) Zr.nil))))) fun b1 _ _ s40 => ?_; clear s39
   refine seq_opx0 (B' := (fun _ : Unit => [BF b1 91 k_api_Held x4, RowF v3 39 (karr 32 (kint .u8)) y3])) s40 rfl rfl (ob_store (A := []) rfl tk91 (.tmp rfl) (.tmp rfl) rfl (LS.refl _ _ _) rfl) fun _ a41 w41 s41 => ?_; clear s40
   refine wn hK13 ?_
   have s42 := s41.sub (u 0 rfl (u 1 rfl (u 5 rfl (u 7 rfl (u 18 rfl (u 19 rfl (u 20 rfl .nil))))))); clear s41
   refine wp_seq_k fun K14 hK14 => wp_region_lit (qs s42 (.c1 rfl (ob_fieldAddr (off' := 32) rfl Try.underlying91 rfl sz44 (by decide) (.tmp rfl) rfl) (.c1 rfl (ob_fieldAddr (off' := 34) rfl Try.underlying44 rfl sz40 (by decide) (.tmp rfl) rfl) (.c1 rfl (ob_load rfl tk40 (.tmp rfl) (.head _) (LG.trans (lg_api_Held_Op x4) (lg_api_Op_Parents x4.Op) (by decide))) (.c1 rfl (ob_lens rfl Try.underlying40 (.tmp rfl)) (.c1 rfl (ob_move rfl (opd_int rfl)) (.ce (u 0 rfl (u 1 rfl (u 5 rfl (u 18 rfl (u 19 rfl (u 20 rfl (u 26 rfl (u 27 rfl (u 28 rfl .nil))))))))))))))) fun _ _ s48 => wn hK14 ?_); clear s42
   have s49 := St.drop (A := []) s48; clear s48
   refine wp_block ?_
   refine wp_loop_fuel (fun m (q : Int × (List (List Int))) => queue_Wanted.l2 k x4 p1 p2 y2 (queue_Wanted.l1 k p2 p1 n1) m q.1 q.2) r (fun _ => rfl) (fun q a w => ∃ (v5 : Value), St ⟨50, w0, ok, (idsOf [])⟩ [RowF v5 39 (karr 32 (kint .u8)) q.2] [(0, ((ksl k_api_Node).V p1)), (1, ((ksl k_api_Held).V p2)), (5, (is v5)), (18, ((ksl k_api_Held).V p2)), (19, ((kint .i64).V (p2.length : Int))), (20, ((kint .i64).V y2)), (26, ((ksl (karr 32 (kint .u8))).V x4.Op.Parents)), (27, ((kint .i64).V (x4.Op.Parents.length : Int))), (28, ((kint .i64).V q.1))] a w) ?_ k ((0 : Int), y3) _ _ h11 ⟨v3, (s49.sub (.cons rfl (.cons rfl (.cons rfl (.cons rfl (.cons rfl (.cons rfl (.cons rfl (.cons rfl (.cons rfl .nil))))))))))⟩
   rintro n2 ⟨y5, y6⟩ a50 w50 h12 ⟨v5, s50⟩ K15 hK15
   replace h12 : queue_Wanted.l2 k x4 p1 p2 y2 (queue_Wanted.l1 k p2 p1 n1) (n2 + 1) y5 y6 = some r := h12; rw [queue_Wanted.l2] at h12
   have h13 := h12; clear h12
   refine wp_seq_k fun K16 hK16 => wp_region_lit (qs s50 (.c1 rfl (ob_lss rfl (.tmp rfl) (.tmp rfl)) (.ce (u 0 rfl (u 1 rfl (u 5 rfl (u 18 rfl (u 19 rfl (u 20 rfl (u 26 rfl (u 27 rfl (u 28 rfl (u 29 rfl .nil)))))))))))) fun _ _ s52 => wn hK16 ?_); clear s50
   refine wp_seq_k fun K17 hK17 => ?_
   refine cond_split s52 (.tmp rfl) (fun hc3 => ?_) (fun hc3 => ?_)
   ·have h14 := ite_t hc3 h13; clear h13
    refine wp_skip ?_
    refine then_normal (hK17 _ _ ?_)
    have s53 := s52.sub (u 0 rfl (u 1 rfl (u 5 rfl (u 18 rfl (u 19 rfl (u 20 rfl (u 26 rfl (u 27 rfl (u 28 rfl .nil))))))))); clear s52
    refine wp_seq_k fun K18 hK18 => ?_
    have hj3 : ∀ (y7 : (List (List Int))) (v6 : Value) (a : Act) (w : World), (queue_Wanted.j3 k y5 (queue_Wanted.l2 k x4 p1 p2 y2 (queue_Wanted.l1 k p2 p1 n1) n2)) y7 = some r → St ⟨50, w0, ok, (idsOf [])⟩ [RowF v6 39 (karr 32 (kint .u8)) y7] [(0, ((ksl k_api_Node).V p1)), (1, ((ksl k_api_Held).V p2)), (5, (is v6)), (18, ((ksl k_api_Held).V p2)), (19, ((kint .i64).V (p2.length : Int))), (20, ((kint .i64).V y2)), (26, ((ksl (karr 32 (kint .u8))).V x4.Op.Parents)), (27, ((kint .i64).V (x4.Op.Parents.length : Int))), (28, ((kint .i64).V y5))] a w → K18 a w := by
     intro y7 v6 a54 w54 h15 s54
     unfold queue_Wanted.j3 at h15
     refine hK18 _ _ ?_
     refine wp_region_lit (qs s54 (.c1 rfl (ob_add rfl (.tmp rfl) (opd_int rfl)) (.c1 rfl (mv rfl rfl) .cz)) fun _ _ s56 => ?_); clear s54
     refine wpList_nil ?_
     refine then_normal ?_
     exact hK15 ((iadd .i64 y5 (1 : Int)), y7) _ _ h15 ⟨v6, (s56.sub (.cons rfl (.cons rfl (.cons rfl (.cons rfl (.cons rfl (.cons rfl (.cons rfl (.cons rfl (.cons rfl .nil))))))))))⟩
    refine wp_block ?_
    obtain ⟨x5, e_x5, h16⟩ := bind_some h14; clear h14
    refine wp_seq_k fun K19 hK19 => wp_region_lit (qs s53 (.c1 rfl (ob_indexAddrs rfl Try.underlying40 sz39 (.tmp rfl) (.tmp rfl) e_x5) (.c1 rfl (ob_loadr rfl tk39 (.tmp rfl)) .cz)) fun _ _ s58 => ?_); clear s53
    refine qx (B' := (fun b2 : Nat => [BF b2 39 (karr 32 (kint .u8)) (List.replicate 32 (0 : Int)), RowF v5 39 (karr 32 (kint .u8)) y6])) s58 rfl (ob_new (k := (karr 32 (kint .u8))) rfl zz39 (Zr.arr 32 (Zr.int .u8))) fun b2 _ _ s59 => ?_; clear s58
    refine seq_opx0 (B' := (fun _ : Unit => [BF b2 39 (karr 32 (kint .u8)) x5, RowF v5 39 (karr 32 (kint .u8)) y6])) s59 rfl rfl (ob_store (A := []) rfl tk39 (.tmp rfl) (.tmp rfl) rfl (LS.refl _ _ _) rfl) fun _ a60 w60 s60 => ?_; clear s59
    refine wn hK19 ?_
    have s61 := s60.sub (u 0 rfl (u 1 rfl (u 5 rfl (u 9 rfl (u 18 rfl (u 19 rfl (u 20 rfl (u 26 rfl (u 27 rfl (u 28 rfl .nil)))))))))); clear s60
    obtain ⟨x6, e_x6, h17⟩ := bind_some h16; clear h16
    obtain ⟨x7, e_x7, h18⟩ := bind_some h17; clear h17
    obtain ⟨x8, e_x8, h19⟩ := bind_some h18; clear h18; replace e_x8 := Option.some.inj e_x8
    refine wp_seq_k fun K20 hK20 => wp_region_lit (qs s61 (.c1 rfl (mv rfl rfl) (.c1 rfl (ob_load rfl tk39 (.tmp rfl) (.head _) (LG.refl _ _)) (.c1 rfl (ob_callD0 (args := [_, _]) rfl .direct hb48 (fun a w s => by exact c_graph_Find k _ _ _ e_x6 _ _ _ _ (s.arg (.tmp rfl)) (s.arg (.tmp rfl)))) (.c1 rfl (ob_lss rfl (.tmp rfl) (opd_int rfl)) (.c1 rfl (mv rfl rfl) (.cg rfl rfl rfl rfl (fun hb => ob_move rfl (.tmp rfl)) (.cg rfl rfl rfl rfl (fun hb => ob_load rfl tk39 (.tmp rfl) (.head _) (LG.refl _ _)) (.cg rfl rfl rfl rfl (fun hb => (Ob.uncond (t := 38) hb rfl ((Ob.uncond (t := 37) hb rfl (ob_callD0 (args := [_, _]) rfl .direct hb72 (fun a w s => by exact c_queue_Find k _ _ _ (ite_t hb e_x7) _ _ _ _ (s.arg (.tmp rfl)) (s.arg (.tmp rfl)))))))) (.cg rfl rfl rfl rfl (fun hb => (Ob.uncond (t := 39) hb rfl (ob_lss rfl (.tmp rfl) (opd_int rfl)))) (.c1 rfl ((ob_and2 rfl (.tmp rfl) (.tmp rfl) opd_bool).nm e_x8) (.ce (u 0 rfl (u 1 rfl (u 5 rfl (u 9 rfl (u 18 rfl (u 19 rfl (u 20 rfl (u 26 rfl (u 27 rfl (u 28 rfl (u 41 rfl .nil)))))))))))))))))))))) fun _ _ s72 => wn hK20 ?_); clear s61
    refine cond_split s72 (.tmp rfl) (fun hc4 => ?_) (fun hc4 => ?_)
    ·have h20 := ite_t hc4 h19; clear h19
     obtain ⟨g1, h21⟩ := guard_some h20; clear h20
     refine wp_region_lit (qs s72 (.c1 rfl (mv rfl rfl) (.c1 rfl (ob_load rfl tk39 (.tmp rfl) (.head _) (LG.refl _ _)) (.c1 rfl (ob_mkSlice (k := (karr 32 (kint .u8))) (xs := ([x5] : (List (List Int)))) rfl Try.underlying40 zz39 sz39 (Zr.arr 32 (Zr.int .u8)) (by decide) (by decide) (.cons (.tmp rfl) rfl (LS.arr' (i := 0) (ys := ([x5] : (List (List Int)))) (by simp) (by rfl)) (.nil _))) .cz))) fun _ _ s75 => ?_); clear s72
     refine qx (B' := (fun v7 : Value => [BF b2 39 (karr 32 (kint .u8)) x5, RowF v7 39 (karr 32 (kint .u8)) (y6 ++ ([x5] : (List (List Int))))])) s75 rfl (ob_appendL2 (A := [_]) rfl Try.underlying40 ap39 (Zr.arr 32 (Zr.int .u8)) (by decide) (.tmp rfl) (.tmp rfl) rfl g1) fun v7 _ _ s76 => ?_; clear s75
     refine qs s76 (.c1 rfl (ob_assign rfl (.tmp rfl)) .cz) fun _ _ s77 => ?_; clear s76
     refine wpList_nil ?_
     refine in_normal ?_
     refine then_normal ?_
     have s78 := St.drop (A := []) s77; clear s77
     exact hj3 (y6 ++ ([x5] : (List (List Int)))) v7 _ _ h21 (s78.sub (.cons rfl (.cons rfl (.cons rfl (.cons rfl (.cons rfl (.cons rfl (.cons rfl (.cons rfl (.cons rfl .nil))))))))))
    ·have h22 := ite_f hc4 h19; clear h19
     refine wp_skip ?_
     refine in_normal ?_
     refine then_normal ?_
     have s79 := St.drop (A := []) s72; clear s72
     exact hj3 y6 v5 _ _ h22 (s79.sub (.cons rfl (.cons rfl (.cons rfl (.cons rfl (.cons rfl (.cons rfl (.cons rfl (.cons rfl (.cons rfl .nil))))))))))
   ·have h23 := ite_f hc3 h13; clear h13
    refine wp_exit ?_
    refine (then_exit (then_exit (in_here ?_)))
    refine in_normal ?_
    refine then_normal ?_
    exact hj2 y6 v5 _ _ h23 (s52.sub (.cons rfl (.cons rfl (.cons rfl (.cons rfl (.cons rfl (.cons rfl .nil)))))))
  ·have h24 := ite_f hc2 h8; clear h8
   refine wp_exit ?_
   refine (then_exit (then_exit (in_here ?_)))
   refine then_normal ?_
   exact hj1 y3 v3 _ _ h24 (s33.sub (.cons rfl .nil))
theorem c_queue_Without (k : Nat) (p1 : (List api_Held)) (p2 : Int) (r : ((List api_Held) × Int)) (h0 : queue_Without k p1 p2 = some r) (ok : Ok) (w0 : World) (z0 : Value) (z1 : Value) (u0 : ((ksl k_api_Held).V p1).holds ok w0 z0) (u1 : ((kint .i64).V p2).holds ok w0 z1) :
 GivesX Try.prog 69 [z0, z1] ok w0 [] (fun g : Value => resFact [is g, (kint .i64).V r.2]) (fun g : Value => [RowF (g) 91 k_api_Held r.1]) := by
 unfold queue_Without at h0
 refine enterX (N := 22) Try.func69 rfl rfl (of_decide_eq_true rfl) (.cons u0 (.cons u1 .nil)) List.nodup_nil (fun _ h => by cases h) (fun _ h => by cases h) fun a1 s1 => ?_
 refine wp_seq_k fun K1 hK1 => wp_region_lit (qs s1 (.c1 rfl (ob_assign rfl opd_is) .cz) fun _ _ s2 => ?_); clear s1
 have s3 := St.adopt s2 (G := RowF (nilRow 21) 91 k_api_Held []) rfl (rowNilN _ _ _ _ _); clear s2
 refine qs s3 (.c1 rfl (ob_assign rfl (opd_int rfl)) (.ce (u 0 rfl (u 1 rfl .nil)))) fun _ _ s5 => wn hK1 ?_; clear s3
 have s6 := St.drop (A := []) s5; clear s5
 refine wp_seq_k fun K2 hK2 => wp_block ?_
 obtain ⟨x1, e_x1, h1⟩ := bind_some h0; clear h0
 refine wp_seq_k fun K3 hK3 => wp_region_lit (qs s6 (.c1 rfl (mv rfl rfl) (.c1 rfl (ob_callD0 (args := [_]) rfl .direct hb71 (fun a w s => by exact c_queue_Right k _ _ e_x1 _ _ _ (s.arg (.tmp rfl)))) (.c1 rfl (ob_not rfl (.tmp rfl)) (.c1 rfl (ob_assign rfl (.tmp rfl)) (.ce (u 0 rfl (u 1 rfl (u 6 rfl .nil)))))))) fun _ _ s11 => wn hK3 ?_); clear s6
 refine cond_split s11 (.tmp rfl) (fun hc1 => ?_) (fun hc1 => ?_)
 ·have h2 := ite_t hc1 h1; clear h1
  refine wp_seq_k fun K4 hK4 => wp_region_lit (qs s11 (.c1 rfl (ob_assign rfl opd_is) .cz) fun _ _ s12 => ?_); clear s11
  have s13 := St.adopt s12 (G := RowF (nilRow 22) 91 k_api_Held []) rfl (rowNilN _ _ _ _ _); clear s12
  refine qs s13 (.c1 rfl (ob_assign rfl (opd_int rfl)) (.ce (u 4 rfl (u 5 rfl .nil)))) fun _ _ s15 => wn hK4 ?_; clear s13
  refine wp_ret ?_
  obtain rfl := Option.some.inj h2
  exact leaveXD (D := []) (nilRow 22) s15 rfl (.inl rfl) rfl (.cons (.tmp rfl) (.cons (.tmp rfl) .nil)) rfl
 ·have h3 := ite_f hc1 h1; clear h1
  obtain ⟨x2, e_x2, h4⟩ := bind_some h3; clear h3; replace e_x2 := Option.some.inj e_x2
  refine wp_seq_k fun K5 hK5 => wp_region_lit (qs s11 (.c1 rfl (mv rfl rfl) (.c1 rfl (ob_lss rfl (.tmp rfl) (opd_int rfl)) (.c1 rfl (mv rfl rfl) (.cg rfl rfl rfl rfl (fun hb => ob_move rfl (.tmp rfl)) (.cg rfl rfl rfl rfl (fun hb => ob_move rfl (.tmp rfl)) (.cg rfl rfl rfl rfl (fun hb => (Ob.uncond (t := 15) hb rfl (ob_lens rfl Try.underlying85 (.tmp rfl)))) (.cg rfl rfl rfl rfl (fun hb => (Ob.uncond (t := 16) hb rfl ((Ob.uncond (t := 14) hb rfl (ob_geq rfl (.tmp rfl) (.tmp rfl)))))) (.c1 rfl ((ob_or2 rfl (.tmp rfl) opd_bool (.tmp rfl)).nm e_x2) (.c1 rfl (ob_assign rfl (.tmp rfl)) (.ce (u 0 rfl (u 1 rfl (u 10 rfl .nil))))))))))))) fun _ _ s25 => wn hK5 ?_); clear s11
  refine cond_split s25 (.tmp rfl) (fun hc2 => ?_) (fun hc2 => ?_)
  ·have h5 := ite_t hc2 h4; clear h4
   refine wp_seq_k fun K6 hK6 => wp_region_lit (qs s25 (.c1 rfl (ob_assign rfl opd_is) .cz) fun _ _ s26 => ?_); clear s25
   have s27 := St.adopt s26 (G := RowF (nilRow 23) 91 k_api_Held []) rfl (rowNilN _ _ _ _ _); clear s26
   refine qs s27 (.c1 rfl (ob_assign rfl (opd_int rfl)) (.ce (u 4 rfl (u 5 rfl .nil)))) fun _ _ s29 => wn hK6 ?_; clear s27
   refine wp_ret ?_
   obtain rfl := Option.some.inj h5
   exact leaveXD (D := []) (nilRow 23) s29 rfl (.inl rfl) rfl (.cons (.tmp rfl) (.cons (.tmp rfl) .nil)) rfl
  ·have h6 := ite_f hc2 h4; clear h4
   refine wp_skip ?_
   refine in_normal ?_
   refine then_normal (hK2 _ _ ?_)
   have s30 := s25.sub (u 0 rfl (u 1 rfl .nil)); clear s25
   obtain ⟨x3, e_x3, h7⟩ := bind_some h6; clear h6
   refine wp_seq_k fun K7 hK7 => wp_region_lit (qs s30 (.c1 rfl (mv rfl rfl) (.c1 rfl (mv rfl rfl) .cz)) fun _ _ s32 => ?_); clear s30
   refine qx (B' := (fun v1 : Value => [RowF v1 91 k_api_Held x3])) s32 rfl (ob_callL0 (args := [_, _]) (L := []) rfl .direct hb117 (List.Perm.refl _) (fun a w s => by exact c_queue_copied k _ _ _ e_x3 _ _ _ _ (s.arg (.tmp rfl)) (s.arg (.tmp rfl))) (by exact fun _ => rfl)) fun v1 _ _ s33 => ?_; clear s32
   refine qs s33 (.c1 rfl (ob_assign rfl (.tmp rfl)) (.c1 rfl (ob_assign rfl (opd_int rfl)) (.ce (u 4 rfl (u 5 rfl .nil))))) fun _ _ s36 => wn hK7 ?_; clear s33
   refine wp_ret ?_
   obtain rfl := Option.some.inj h7
   exact leaveXD (D := []) v1 s36 rfl (.inl rfl) rfl (.cons (.tmp rfl) (.cons (.tmp rfl) .nil)) rfl
theorem c_queue_Ready_1_1 (k : Nat) (p1 : (List Int)) (p2 : (List api_Node)) (r : Bool) (h0 : queue_Ready_1_1 k p1 p2 = some r) (ok : Ok) (w0 : World) (z0 : Value) (z1 : Value) (u0 : ((karr 32 (kint .u8)).V p1).holds ok w0 z0) (u1 : (ptrTo (ksl k_api_Node) p2).holds ok w0 z1) :
 Gives Try.prog 113 [z0, z1] ok w0 (resFact [kbool.V r]) := by
 unfold queue_Ready_1_1 at h0
 refine enter (N := 8) Try.func113 rfl rfl (of_decide_eq_true rfl) (.cons u0 (.cons u1 .nil)) fun a1 s1 => ?_
 refine wp_seq_k fun K1 hK1 => wp_region_lit ?_
 refine qx (B' := (fun b1 : Nat => [BF b1 39 (karr 32 (kint .u8)) p1])) s1 rfl (ob_box rfl (.tmp rfl)) fun b1 _ _ s2 => ?_; clear s1
 refine qs s2 (.c1 rfl (ob_assign rfl opd_bool) (.ce (u 1 rfl (u 2 rfl .nil)))) fun _ _ s4 => wn hK1 ?_; clear s2
 obtain ⟨x1, e_x1, h1⟩ := bind_some h0; clear h0
 refine wp_seq_k fun K2 hK2 => wp_region_lit (qs s4 (.c1 rfl (ob_loadr rfl tk22 (.tmp rfl)) (.c1 rfl (ob_load rfl tk39 (.tmp rfl) (.head _) (LG.refl _ _)) (.c1 rfl (ob_callD0 (args := [_, _]) rfl .direct hb48 (fun a w s => by exact c_graph_Find k _ _ _ e_x1 _ _ _ _ (s.arg (.tmp rfl)) (s.arg (.tmp rfl)))) (.c1 rfl (ob_lss rfl (.tmp rfl) (opd_int rfl)) (.c1 rfl (ob_assign rfl (.tmp rfl)) (.ce (u 3 rfl .nil))))))) fun _ _ s10 => wn hK2 ?_); clear s4
 have s11 := St.drop (A := []) s10; clear s10
 refine wp_ret ?_
 obtain rfl := Option.some.inj h1
 exact leave s11 (.inl rfl) rfl (.cons (.tmp rfl) .nil)
theorem c_slices_IndexFunc_api_Key_api_Key_queue_Ready_1_1 (k : Nat) (p1 : (List (List Int))) (p2 : (List api_Node)) (r : Int) (h0 : slices_IndexFunc_api_Key_api_Key_queue_Ready_1_1 k p1 p2 = some r) (ok : Ok) (w0 : World) (z0 : Value) (z1 : Value) (u0 : ((ksl (karr 32 (kint .u8))).V p1).holds ok w0 z0) (u1 : (cloF 113 [] [(ptrTo (ksl k_api_Node) p2)]).holds ok w0 z1) :
 Gives Try.prog 149 [z0, z1] ok w0 (resFact [(kint .i64).V r]) := by
 unfold slices_IndexFunc_api_Key_api_Key_queue_Ready_1_1 at h0
 refine enter (N := 19) Try.func149 rfl rfl (of_decide_eq_true rfl) (.cons u0 (.cons u1 .nil)) fun a1 s1 => ?_
 refine wp_seq_k fun K1 hK1 => wp_region_lit (qs s1 (.c1 rfl (ob_assign rfl (opd_int rfl)) (.ce (u 0 rfl (u 1 rfl .nil)))) fun _ _ s3 => wn hK1 ?_); clear s1
 refine wp_seq_k fun K2 hK2 => wp_seq_k fun K3 hK3 => ?_
 refine wp_region_lit (qs s3 (.c1 rfl (mv rfl rfl) (.c1 rfl (ob_lens rfl Try.underlying40 (.tmp rfl)) (.c1 rfl (ob_move rfl (opd_int rfl)) (.ce (u 0 rfl (u 1 rfl (u 7 rfl (u 8 rfl .nil)))))))) fun _ _ s7 => wn hK3 ?_); clear s3
 have hj1 : ∀ (a : Act) (w : World), (slices_IndexFunc_api_Key_api_Key_queue_Ready_1_1.j1 k) = some r → St ⟨19, w0, ok, []⟩ [] [] a w → K2 a w := by
  intro a8 w8 h1 s8
  unfold slices_IndexFunc_api_Key_api_Key_queue_Ready_1_1.j1 at h1
  refine hK2 _ _ ?_
  refine wp_seq_k fun K4 hK4 => wp_region_lit (qs s8 (.c1 rfl (ob_assign rfl (opd_int rfl)) (.ce (u 4 rfl .nil))) fun _ _ s10 => wn hK4 ?_); clear s8
  refine wp_ret ?_
  obtain rfl := Option.some.inj h1
  exact leave s10 (.inl rfl) rfl (.cons (.tmp rfl) .nil)
 refine wp_block ?_
 refine wp_loop_fuel (fun m (q : Int) => slices_IndexFunc_api_Key_api_Key_queue_Ready_1_1.l1 k p1 p2 m q) r (fun _ => rfl) (fun q a w => St ⟨19, w0, ok, []⟩ [] [(0, ((ksl (karr 32 (kint .u8))).V p1)), (1, (cloF 113 [] [(ptrTo (ksl k_api_Node) p2)])), (7, ((kint .i64).V (p1.length : Int))), (8, ((kint .i64).V q))] a w) ?_ k (0 : Int) _ _ h0 (s7.sub (.cons rfl (.cons rfl (.cons rfl (.cons rfl .nil)))))
 rintro n1 y1 a11 w11 h2 s11 K5 hK5
 replace h2 : slices_IndexFunc_api_Key_api_Key_queue_Ready_1_1.l1 k p1 p2 (n1 + 1) y1 = some r := h2; rw [slices_IndexFunc_api_Key_api_Key_queue_Ready_1_1.l1] at h2
 have h3 := h2; clear h2
 refine wp_seq_k fun K6 hK6 => wp_region_lit (qs s11 (.c1 rfl (ob_lss rfl (.tmp rfl) (.tmp rfl)) (.ce (u 0 rfl (u 1 rfl (u 7 rfl (u 8 rfl (u 9 rfl .nil))))))) fun _ _ s13 => wn hK6 ?_); clear s11
 refine wp_seq_k fun K7 hK7 => ?_
 refine cond_split s13 (.tmp rfl) (fun hc1 => ?_) (fun hc1 => ?_)
 ·have h4 := ite_t hc1 h3; clear h3
  refine wp_skip ?_
  refine then_normal (hK7 _ _ ?_)
  have s14 := s13.sub (u 0 rfl (u 1 rfl (u 7 rfl (u 8 rfl .nil)))); clear s13
  refine wp_seq_k fun K8 hK8 => wp_block ?_
  refine wp_seq_k fun K9 hK9 => wp_region_lit (qs s14 (.c1 rfl (mv rfl rfl) (.c1 rfl (ob_assign rfl (.tmp rfl)) (.ce (u 0 rfl (u 1 rfl (u 5 rfl (u 7 rfl (u 8 rfl .nil)))))))) fun _ _ s17 => wn hK9 ?_); clear s14
  obtain ⟨x1, e_x1, h5⟩ := bind_some h4; clear h4
  obtain ⟨x2, e_x2, h6⟩ := bind_some h5; clear h5
  refine wp_seq_k fun K10 hK10 => wp_region_lit (qs s17 (.c1 rfl (mv rfl rfl) (.c1 rfl (mv rfl rfl) (.c1 rfl (mv rfl rfl) (.c1 rfl (ob_indexAddrs rfl Try.underlying40 sz39 (.tmp rfl) (.tmp rfl) e_x1) (.c1 rfl (ob_loadr rfl tk39 (.tmp rfl)) (.c1 rfl (ob_callD (args := [_]) rfl (.clo (.tmp rfl)) hb113 (fun a w s fs gs hf hg => by obtain rfl := hf.unnil; obtain ⟨u0, _, rfl, fu0, hg⟩ := hg.uncons; obtain rfl := hg.unnil; exact c_queue_Ready_1_1 k _ _ _ e_x2 _ _ _ _ (s.arg (.tmp rfl)) fu0)) (.ce (u 0 rfl (u 1 rfl (u 5 rfl (u 7 rfl (u 8 rfl (u 16 rfl .nil))))))))))))) fun _ _ s24 => wn hK10 ?_); clear s17
  refine cond_split s24 (.tmp rfl) (fun hc2 => ?_) (fun hc2 => ?_)
  ·have h7 := ite_t hc2 h6; clear h6
   refine wp_seq_k fun K11 hK11 => wp_region_lit (qs s24 (.c1 rfl (mv rfl rfl) (.c1 rfl (ob_assign rfl (.tmp rfl)) (.ce (u 4 rfl .nil)))) fun _ _ s27 => wn hK11 ?_); clear s24
   refine wp_ret ?_
   obtain rfl := Option.some.inj h7
   exact leave s27 (.inl rfl) rfl (.cons (.tmp rfl) .nil)
  ·have h8 := ite_f hc2 h6; clear h6
   refine wp_skip ?_
   refine in_normal ?_
   refine then_normal (hK8 _ _ ?_)
   have s28 := s24.sub (u 0 rfl (u 1 rfl (u 7 rfl (u 8 rfl .nil)))); clear s24
   refine wp_region_lit (qs s28 (.c1 rfl (ob_add rfl (.tmp rfl) (opd_int rfl)) (.c1 rfl (mv rfl rfl) .cz)) fun _ _ s30 => ?_); clear s28
   refine wpList_nil ?_
   refine then_normal ?_
   exact hK5 (iadd .i64 y1 (1 : Int)) _ _ h8 (s30.sub (.cons rfl (.cons rfl (.cons rfl (.cons rfl .nil)))))
 ·have h9 := ite_f hc1 h3; clear h3
  refine wp_exit ?_
  refine (then_exit (then_exit (in_here ?_)))
  refine then_normal ?_
  exact hj1 _ _ h9 (s13.sub .nil)
theorem c_slices_ContainsFunc_api_Key_api_Key_queue_Ready_1_1 (k : Nat) (p1 : (List (List Int))) (p2 : (List api_Node)) (r : Bool) (h0 : slices_ContainsFunc_api_Key_api_Key_queue_Ready_1_1 k p1 p2 = some r) (ok : Ok) (w0 : World) (z0 : Value) (z1 : Value) (u0 : ((ksl (karr 32 (kint .u8))).V p1).holds ok w0 z0) (u1 : (cloF 113 [] [(ptrTo (ksl k_api_Node) p2)]).holds ok w0 z1) :
 Gives Try.prog 112 [z0, z1] ok w0 (resFact [kbool.V r]) := by
 unfold slices_ContainsFunc_api_Key_api_Key_queue_Ready_1_1 at h0
 refine enter (N := 9) Try.func112 rfl rfl (of_decide_eq_true rfl) (.cons u0 (.cons u1 .nil)) fun a1 s1 => ?_
 refine wp_seq_k fun K1 hK1 => wp_region_lit (qs s1 (.c1 rfl (ob_assign rfl opd_bool) (.ce (u 0 rfl (u 1 rfl .nil)))) fun _ _ s3 => wn hK1 ?_); clear s1
 obtain ⟨x1, e_x1, h1⟩ := bind_some h0; clear h0
 refine wp_seq_k fun K2 hK2 => wp_region_lit (qs s3 (.c1 rfl (mv rfl rfl) (.c1 rfl (mv rfl rfl) (.c1 rfl (ob_callD0 (args := [_, _]) rfl .direct hb149 (fun a w s => by exact c_slices_IndexFunc_api_Key_api_Key_queue_Ready_1_1 k _ _ _ e_x1 _ _ _ _ (s.arg (.tmp rfl)) (s.arg (.tmp rfl)))) (.c1 rfl (ob_geq rfl (.tmp rfl) (opd_int rfl)) (.c1 rfl (ob_assign rfl (.tmp rfl)) (.ce (u 4 rfl .nil))))))) fun _ _ s9 => wn hK2 ?_); clear s3
 refine wp_ret ?_
 obtain rfl := Option.some.inj h1
 exact leave s9 (.inl rfl) rfl (.cons (.tmp rfl) .nil)
theorem c_queue_Ready_1 (k : Nat) (p1 : api_Held) (p2 : (List api_Node)) (r : Bool) (h0 : queue_Ready_1 k p1 p2 = some r) (ok : Ok) (w0 : World) (z0 : Value) (z1 : Value) (u0 : (k_api_Held.V p1).holds ok w0 z0) (u1 : (ptrTo (ksl k_api_Node) p2).holds ok w0 z1) :
 Gives Try.prog 111 [z0, z1] ok w0 (resFact [kbool.V r]) := by
 unfold queue_Ready_1 at h0
 refine enter (N := 10) Try.func111 rfl rfl (of_decide_eq_true rfl) (.cons u0 (.cons u1 .nil)) fun a1 s1 => ?_
 refine wp_seq_k fun K1 hK1 => wp_region_lit ?_
 refine qx (B' := (fun b1 : Nat => [BF b1 91 k_api_Held p1])) s1 rfl (ob_box rfl (.tmp rfl)) fun b1 _ _ s2 => ?_; clear s1
 refine qs s2 (.c1 rfl (ob_assign rfl opd_bool) (.ce (u 1 rfl (u 2 rfl .nil)))) fun _ _ s4 => wn hK1 ?_; clear s2
 obtain ⟨x1, e_x1, h1⟩ := bind_some h0; clear h0
 refine wp_seq_k fun K2 hK2 => wp_region_lit (qs s4 (.c1 rfl (ob_fieldAddr (off' := 32) rfl Try.underlying91 rfl sz44 (by decide) (.tmp rfl) rfl) (.c1 rfl (ob_fieldAddr (off' := 34) rfl Try.underlying44 rfl sz40 (by decide) (.tmp rfl) rfl) (.c1 rfl (ob_load rfl tk40 (.tmp rfl) (.head _) (LG.trans (lg_api_Held_Op p1) (lg_api_Op_Parents p1.Op) (by decide))) (.c1 rfl (ob_makeFn (xs := []) (ys := [_]) rfl .nil (.cons (.tmp rfl) .nil)) (.c1 rfl (ob_callD0 (args := [_, _]) rfl .direct hb112 (fun a w s => by exact c_slices_ContainsFunc_api_Key_api_Key_queue_Ready_1_1 k _ _ _ e_x1 _ _ _ _ (s.arg (.tmp rfl)) (s.arg (.tmp rfl)))) (.c1 rfl (ob_not rfl (.tmp rfl)) (.c1 rfl (ob_assign rfl (.tmp rfl)) (.ce (u 3 rfl .nil))))))))) fun _ _ s12 => wn hK2 ?_); clear s4
 have s13 := St.drop (A := []) s12; clear s12
 refine wp_ret ?_
 obtain rfl := Option.some.inj h1
 exact leave s13 (.inl rfl) rfl (.cons (.tmp rfl) .nil)
theorem c_slices_IndexFunc_api_Held_api_Held_queue_Ready_1 (k : Nat) (p1 : (List api_Held)) (p2 : (List api_Node)) (r : Int) (h0 : slices_IndexFunc_api_Held_api_Held_queue_Ready_1 k p1 p2 = some r) (ok : Ok) (w0 : World) (z0 : Value) (z1 : Value) (u0 : ((ksl k_api_Held).V p1).holds ok w0 z0) (u1 : (cloF 111 [] [(ptrTo (ksl k_api_Node) p2)]).holds ok w0 z1) :
 Gives Try.prog 110 [z0, z1] ok w0 (resFact [(kint .i64).V r]) := by
 unfold slices_IndexFunc_api_Held_api_Held_queue_Ready_1 at h0
 refine enter (N := 19) Try.func110 rfl rfl (of_decide_eq_true rfl) (.cons u0 (.cons u1 .nil)) fun a1 s1 => ?_
 refine wp_seq_k fun K1 hK1 => wp_region_lit (qs s1 (.c1 rfl (ob_assign rfl (opd_int rfl)) (.ce (u 0 rfl (u 1 rfl .nil)))) fun _ _ s3 => wn hK1 ?_); clear s1
 refine wp_seq_k fun K2 hK2 => wp_seq_k fun K3 hK3 => ?_
 refine wp_region_lit (qs s3 (.c1 rfl (mv rfl rfl) (.c1 rfl (ob_lens rfl Try.underlying85 (.tmp rfl)) (.c1 rfl (ob_move rfl (opd_int rfl)) (.ce (u 0 rfl (u 1 rfl (u 7 rfl (u 8 rfl .nil)))))))) fun _ _ s7 => wn hK3 ?_); clear s3
 have hj1 : ∀ (a : Act) (w : World), (slices_IndexFunc_api_Held_api_Held_queue_Ready_1.j1 k) = some r → St ⟨19, w0, ok, []⟩ [] [] a w → K2 a w := by
  intro a8 w8 h1 s8
  unfold slices_IndexFunc_api_Held_api_Held_queue_Ready_1.j1 at h1
  refine hK2 _ _ ?_
  refine wp_seq_k fun K4 hK4 => wp_region_lit (qs s8 (.c1 rfl (ob_assign rfl (opd_int rfl)) (.ce (u 4 rfl .nil))) fun _ _ s10 => wn hK4 ?_); clear s8
  refine wp_ret ?_
  obtain rfl := Option.some.inj h1
  exact leave s10 (.inl rfl) rfl (.cons (.tmp rfl) .nil)
 refine wp_block ?_
 refine wp_loop_fuel (fun m (q : Int) => slices_IndexFunc_api_Held_api_Held_queue_Ready_1.l1 k p1 p2 m q) r (fun _ => rfl) (fun q a w => St ⟨19, w0, ok, []⟩ [] [(0, ((ksl k_api_Held).V p1)), (1, (cloF 111 [] [(ptrTo (ksl k_api_Node) p2)])), (7, ((kint .i64).V (p1.length : Int))), (8, ((kint .i64).V q))] a w) ?_ k (0 : Int) _ _ h0 (s7.sub (.cons rfl (.cons rfl (.cons rfl (.cons rfl .nil)))))
 rintro n1 y1 a11 w11 h2 s11 K5 hK5
 replace h2 : slices_IndexFunc_api_Held_api_Held_queue_Ready_1.l1 k p1 p2 (n1 + 1) y1 = some r := h2; rw [slices_IndexFunc_api_Held_api_Held_queue_Ready_1.l1] at h2
 have h3 := h2; clear h2
 refine wp_seq_k fun K6 hK6 => wp_region_lit (qs s11 (.c1 rfl (ob_lss rfl (.tmp rfl) (.tmp rfl)) (.ce (u 0 rfl (u 1 rfl (u 7 rfl (u 8 rfl (u 9 rfl .nil))))))) fun _ _ s13 => wn hK6 ?_); clear s11
 refine wp_seq_k fun K7 hK7 => ?_
 refine cond_split s13 (.tmp rfl) (fun hc1 => ?_) (fun hc1 => ?_)
 ·have h4 := ite_t hc1 h3; clear h3
  refine wp_skip ?_
  refine then_normal (hK7 _ _ ?_)
  have s14 := s13.sub (u 0 rfl (u 1 rfl (u 7 rfl (u 8 rfl .nil)))); clear s13
  refine wp_seq_k fun K8 hK8 => wp_block ?_
  refine wp_seq_k fun K9 hK9 => wp_region_lit (qs s14 (.c1 rfl (mv rfl rfl) (.c1 rfl (ob_assign rfl (.tmp rfl)) (.ce (u 0 rfl (u 1 rfl (u 5 rfl (u 7 rfl (u 8 rfl .nil)))))))) fun _ _ s17 => wn hK9 ?_); clear s14
  obtain ⟨x1, e_x1, h5⟩ := bind_some h4; clear h4
  obtain ⟨x2, e_x2, h6⟩ := bind_some h5; clear h5
  refine wp_seq_k fun K10 hK10 => wp_region_lit (qs s17 (.c1 rfl (mv rfl rfl) (.c1 rfl (mv rfl rfl) (.c1 rfl (mv rfl rfl) (.c1 rfl (ob_indexAddrs rfl Try.underlying85 sz91 (.tmp rfl) (.tmp rfl) e_x1) (.c1 rfl (ob_loadr rfl tk91 (.tmp rfl)) (.c1 rfl (ob_callD (args := [_]) rfl (.clo (.tmp rfl)) hb111 (fun a w s fs gs hf hg => by obtain rfl := hf.unnil; obtain ⟨u0, _, rfl, fu0, hg⟩ := hg.uncons; obtain rfl := hg.unnil; exact c_queue_Ready_1 k _ _ _ e_x2 _ _ _ _ (s.arg (.tmp rfl)) fu0)) (.ce (u 0 rfl (u 1 rfl (u 5 rfl (u 7 rfl (u 8 rfl (u 16 rfl .nil))))))))))))) fun _ _ s24 => wn hK10 ?_); clear s17
  refine cond_split s24 (.tmp rfl) (fun hc2 => ?_) (fun hc2 => ?_)
  ·have h7 := ite_t hc2 h6; clear h6
   refine wp_seq_k fun K11 hK11 => wp_region_lit (qs s24 (.c1 rfl (mv rfl rfl) (.c1 rfl (ob_assign rfl (.tmp rfl)) (.ce (u 4 rfl .nil)))) fun _ _ s27 => wn hK11 ?_); clear s24
   refine wp_ret ?_
   obtain rfl := Option.some.inj h7
   exact leave s27 (.inl rfl) rfl (.cons (.tmp rfl) .nil)
  ·have h8 := ite_f hc2 h6; clear h6
   refine wp_skip ?_
   refine in_normal ?_
   refine then_normal (hK8 _ _ ?_)
   have s28 := s24.sub (u 0 rfl (u 1 rfl (u 7 rfl (u 8 rfl .nil)))); clear s24
   refine wp_region_lit (qs s28 (.c1 rfl (ob_add rfl (.tmp rfl) (opd_int rfl)) (.c1 rfl (mv rfl rfl) .cz)) fun _ _ s30 => ?_); clear s28
   refine wpList_nil ?_
   refine then_normal ?_
   exact hK5 (iadd .i64 y1 (1 : Int)) _ _ h8 (s30.sub (.cons rfl (.cons rfl (.cons rfl (.cons rfl .nil)))))
 ·have h9 := ite_f hc1 h3; clear h3
  refine wp_exit ?_
  refine (then_exit (then_exit (in_here ?_)))
  refine then_normal ?_
  exact hj1 _ _ h9 (s13.sub .nil)
theorem c_queue_Ready (k : Nat) (p1 : (List api_Node)) (p2 : (List api_Held)) (r : Int) (h0 : queue_Ready k p1 p2 = some r) (ok : Ok) (w0 : World) (z0 : Value) (z1 : Value) (u0 : ((ksl k_api_Node).V p1).holds ok w0 z0) (u1 : ((ksl k_api_Held).V p2).holds ok w0 z1) :
 Gives Try.prog 61 [z0, z1] ok w0 (resFact [(kint .i64).V r]) := by
 unfold queue_Ready at h0
 refine enter (N := 16) Try.func61 rfl rfl (of_decide_eq_true rfl) (.cons u0 (.cons u1 .nil)) fun a1 s1 => ?_
 refine wp_seq_k fun K1 hK1 => wp_region_lit ?_
 refine qx (B' := (fun b1 : Nat => [BF b1 22 (ksl k_api_Node) p1])) s1 rfl (ob_box rfl (.tmp rfl)) fun b1 _ _ s2 => ?_; clear s1
 refine qs s2 (.c1 rfl (ob_assign rfl (opd_int rfl)) (.ce (u 1 rfl (u 2 rfl .nil)))) fun _ _ s4 => wn hK1 ?_; clear s2
 refine wp_seq_k fun K2 hK2 => wp_seq_k fun K3 hK3 => ?_
 obtain ⟨x1, e_x1, h1⟩ := bind_some h0; clear h0
 obtain ⟨x2, e_x2, h2⟩ := bind_some h1; clear h1
 refine wp_region_lit (qs s4 (.c1 rfl (ob_load rfl tk22 (.tmp rfl) (.head _) (LG.refl _ _)) (.c1 rfl (ob_callD0 (args := [_]) rfl .direct hb24 (fun a w s => by exact c_graph_Right k _ _ e_x1 _ _ _ (s.arg (.tmp rfl)))) (.c1 rfl (ob_not rfl (.tmp rfl)) (.c1 rfl (mv rfl rfl) (.cg rfl rfl rfl rfl (fun hb => ob_move rfl (.tmp rfl)) (.cg rfl rfl rfl rfl (fun hb => (Ob.uncond (t := 9) hb rfl (ob_callD0 (args := [_]) rfl .direct hb71 (fun a w s => by exact c_queue_Right k _ _ (ite_t hb e_x2) _ _ _ (s.arg (.tmp rfl)))))) (.cg rfl rfl rfl rfl (fun hb => (Ob.uncond (t := 10) hb rfl (ob_not rfl (.tmp rfl)))) (.c1 rfl (ob_or2 rfl (.tmp rfl) opd_bool (.tmp rfl)) (.ce (u 1 rfl (u 2 rfl (u 12 rfl .nil)))))))))))) fun _ _ s13 => wn hK3 ?_); clear s4
 refine cond_split s13 (.tmp rfl) (fun hc1 => ?_) (fun hc1 => ?_)
 ·have h3 := ite_t hc1 h2; clear h2
  refine wp_seq_k fun K4 hK4 => wp_region_lit (qs s13 (.c1 rfl (ob_assign rfl (opd_int rfl)) (.ce (u 4 rfl .nil))) fun _ _ s15 => wn hK4 ?_); clear s13
  have s16 := St.drop (A := []) s15; clear s15
  refine wp_ret ?_
  obtain rfl := Option.some.inj h3
  exact leave s16 (.inl rfl) rfl (.cons (.tmp rfl) .nil)
 ·have h4 := ite_f hc1 h2; clear h2
  refine wp_skip ?_
  refine then_normal (hK2 _ _ ?_)
  have s17 := s13.sub (u 1 rfl (u 2 rfl .nil)); clear s13
  obtain ⟨x3, e_x3, h5⟩ := bind_some h4; clear h4
  refine wp_seq_k fun K5 hK5 => wp_region_lit (qs s17 (.c1 rfl (mv rfl rfl) (.c1 rfl (ob_makeFn (xs := []) (ys := [_]) rfl .nil (.cons (.tmp rfl) .nil)) (.c1 rfl ((ob_lendG (L := [_]) (List.Perm.refl _) (.cons (t := 14) rfl (lendClo .nil (.cons (lendPtrB (.head _) (LG.refl _ _)) .nil)) .nil) (Flat.res1 (Flat.V (KFlat.int _))) (fun _ => ob_callD0 (args := [_, _]) rfl .direct hb110 (fun a w s => by exact c_slices_IndexFunc_api_Held_api_Held_queue_Ready_1 k _ _ _ e_x3 _ _ _ _ (s.arg (.tmp rfl)) (s.arg (.tmp rfl)))))) (.c1 rfl (ob_assign rfl (.tmp rfl)) (.ce (u 4 rfl .nil)))))) fun _ _ s22 => wn hK5 ?_); clear s17
  have s23 := St.drop (A := []) s22; clear s22
  refine wp_ret ?_
  obtain rfl := Option.some.inj h5
  exact leave s23 (.inl rfl) rfl (.cons (.tmp rfl) .nil)
theorem c_caballaw19_alive (k : Nat) (r : Bool) (h0 : caballaw19_alive k = some r) (ok : Ok) (w0 : World) :
 Gives Try.prog 59 [] ok w0 (resFact [kbool.V r]) := by
 unfold caballaw19_alive at h0
 refine enter (N := 80) Try.func59 rfl rfl (of_decide_eq_true rfl) .nil fun a1 s1 => ?_
 refine wp_seq_k fun K1 hK1 => wp_region_lit (qs s1 (.c1 rfl (ob_assign rfl opd_bool) (.ce .nil)) fun _ _ s3 => wn hK1 ?_); clear s1
 obtain ⟨x1, e_x1, h1⟩ := bind_some h0; clear h0; replace e_x1 := Option.some.inj e_x1
 obtain ⟨x2, e_x2, h2⟩ := bind_some h1; clear h1; replace e_x2 := Option.some.inj e_x2
 obtain ⟨x3, e_x3, h3⟩ := bind_some h2; clear h2
 obtain ⟨x4, e_x4, h4⟩ := bind_some h3; clear h3
 refine wp_seq_k fun K2 hK2 => wp_region_lit (qs s3 (.c1 rfl (((ob_mkArr (k := (kint .u8)) rfl Try.underlying39 zz39 sz5 (Zr.arr 32 (Zr.int .u8)) (.cons (opd_int rfl) rfl (LS.arr' (i := 0) (ys := ([(3 : Int), 0, 0, 0, 0, 0, 0, 0, 0, 0, 0, 0, 0, 0, 0, 0, 0, 0, 0, 0, 0, 0, 0, 0, 0, 0, 0, 0, 0, 0, 0, 0] : (List Int))) (by simp) (by rfl)) (.nil _)) : Ob _ _ _ _ _ ((karr 32 (kint .u8)).V ([(3 : Int), 0, 0, 0, 0, 0, 0, 0, 0, 0, 0, 0, 0, 0, 0, 0, 0, 0, 0, 0, 0, 0, 0, 0, 0, 0, 0, 0, 0, 0, 0, 0] : (List Int))))).nm e_x1) (.c1 rfl (((ob_mkArr (k := (kint .u8)) rfl Try.underlying39 zz39 sz5 (Zr.arr 32 (Zr.int .u8)) (.cons (opd_int rfl) rfl (LS.arr' (i := 0) (ys := ([(2 : Int), 0, 0, 0, 0, 0, 0, 0, 0, 0, 0, 0, 0, 0, 0, 0, 0, 0, 0, 0, 0, 0, 0, 0, 0, 0, 0, 0, 0, 0, 0, 0] : (List Int))) (by simp) (by rfl)) (.nil _)) : Ob _ _ _ _ _ ((karr 32 (kint .u8)).V ([(2 : Int), 0, 0, 0, 0, 0, 0, 0, 0, 0, 0, 0, 0, 0, 0, 0, 0, 0, 0, 0, 0, 0, 0, 0, 0, 0, 0, 0, 0, 0, 0, 0] : (List Int))))).nm e_x2) (.c1 rfl (ob_callD0 (args := [_]) rfl .direct hb109 (fun a w s => by exact c_caballaw19_update k _ _ e_x3 _ _ _ (s.arg (.tmp rfl)))) (.c1 rfl (ob_mkStruct (K := k_api_Held) (X0 := (⟨(List.replicate 32 (0 : Int)), (⟨(0 : Int), (0 : Int), [], (0 : Int), [], (List.replicate 32 (0 : Int)), (List.replicate 32 (0 : Int)), [], []⟩ : api_Op), []⟩ : api_Held)) rfl Try.underlying91 zz91 rfl pl91 (Zr.iso (f := t_api_Held) (x := (⟨(List.replicate 32 (0 : Int)), (⟨(0 : Int), (0 : Int), [], (0 : Int), [], (List.replicate 32 (0 : Int)), (List.replicate 32 (0 : Int)), [], []⟩ : api_Op), []⟩ : api_Held)) (Zr.pair (Zr.arr 32 (Zr.int .u8)) (Zr.pair (Zr.iso (f := t_api_Op) (x := (⟨(0 : Int), (0 : Int), [], (0 : Int), [], (List.replicate 32 (0 : Int)), (List.replicate 32 (0 : Int)), [], []⟩ : api_Op)) (Zr.pair (Zr.int .i64) (Zr.pair (Zr.int .u32) (Zr.pair (Zr.sl _) (Zr.pair (Zr.int .i64) (Zr.pair (Zr.sl _) (Zr.pair (Zr.arr 32 (Zr.int .u8)) (Zr.pair (Zr.arr 32 (Zr.int .u8)) (Zr.pair Zr.str (Zr.pair (Zr.sl _) Zr.nil)))))))))) (Zr.pair (Zr.sl _) Zr.nil)))) (.cons (.tmp rfl) rfl (ls_api_Held_Id (⟨(List.replicate 32 (0 : Int)), (⟨(0 : Int), (0 : Int), [], (0 : Int), [], (List.replicate 32 (0 : Int)), (List.replicate 32 (0 : Int)), [], []⟩ : api_Op), []⟩ : api_Held) x1) (.cons (.tmp rfl) rfl (ls_api_Held_Op (⟨x1, (⟨(0 : Int), (0 : Int), [], (0 : Int), [], (List.replicate 32 (0 : Int)), (List.replicate 32 (0 : Int)), [], []⟩ : api_Op), []⟩ : api_Held) x3) (.nil _)))) .cz)))) fun _ _ s7 => ?_); clear s3
 refine qx (B' := (fun v1 : Value => [RowF v1 91 k_api_Held x4.1])) s7 rfl (ob_callL0 (args := [_, _]) (L := []) rfl .direct hb66 (List.Perm.refl _) (fun a w s => by exact c_queue_Put k _ _ _ e_x4 _ _ _ _ (s.arg opd_nil) (s.arg (.tmp rfl))) (by exact fun _ => rfl)) fun v1 _ _ s8 => ?_; clear s7
 refine qs s8 (.c1 rfl (mv rfl rfl) (.c1 rfl (ob_extract rfl (.tmp rfl) rfl) (.c1 rfl (ob_extract rfl (.tmp rfl) rfl) (.c1 rfl (ob_assign rfl (.tmp rfl)) (.c1 rfl (ob_assign rfl (.tmp rfl)) (.ce (u 1 rfl (u 2 rfl .nil)))))))) fun _ _ s14 => wn hK2 ?_; clear s8
 obtain ⟨x5, e_x5, h5⟩ := bind_some h4; clear h4
 refine wp_seq_k fun K3 hK3 => wp_region_lit (qs s14 (.c1 rfl (mv rfl rfl) .cz) fun _ _ s15 => ?_); clear s14
 refine qx (B' := (fun v2 : Value => [RowF v1 91 k_api_Held x4.1, RowF v2 39 (karr 32 (kint .u8)) x5])) s15 rfl ((ob_lendX (L := [_]) (List.Perm.refl _) (.cons (t := 16) rfl (lendRow (.head _)) .nil) (fun _ => (Flat.res1 Flat.is)) (fun _ => (.cons (FlatO.row (KFlat.arr (KFlat.int _))) FlatL.nil)) (fun _ _ => ob_callL0 (args := [_, _]) (L := []) (D := []) rfl .direct hb62 (List.Perm.refl _) (fun a w s => by exact c_queue_Wanted k _ _ _ e_x5 _ _ _ _ (s.arg opd_nil) (s.arg (.tmp rfl))) (by exact fun _ => rfl)))) fun v2 _ _ s16 => ?_; clear s15
 refine qs s16 (.c1 rfl (ob_assign rfl (.tmp rfl)) (.ce (u 1 rfl (u 2 rfl (u 3 rfl .nil))))) fun _ _ s18 => wn hK3 ?_; clear s16
 obtain ⟨x6, e_x6, h6⟩ := bind_some h5; clear h5; replace e_x6 := Option.some.inj e_x6
 obtain ⟨x7, e_x7, h7⟩ := bind_some h6; clear h6; replace e_x7 := Option.some.inj e_x7
 obtain ⟨x8, e_x8, h8⟩ := bind_some h7; clear h7; replace e_x8 := Option.some.inj e_x8
 refine wp_seq_k fun K4 hK4 => wp_region_lit (qs s18 (.c1 rfl (mv rfl rfl) (.c1 rfl (((ob_mkArr (k := (kint .u8)) rfl Try.underlying39 zz39 sz5 (Zr.arr 32 (Zr.int .u8)) (.cons (opd_int rfl) rfl (LS.arr' (i := 0) (ys := ([(2 : Int), 0, 0, 0, 0, 0, 0, 0, 0, 0, 0, 0, 0, 0, 0, 0, 0, 0, 0, 0, 0, 0, 0, 0, 0, 0, 0, 0, 0, 0, 0, 0] : (List Int))) (by simp) (by rfl)) (.nil _)) : Ob _ _ _ _ _ ((karr 32 (kint .u8)).V ([(2 : Int), 0, 0, 0, 0, 0, 0, 0, 0, 0, 0, 0, 0, 0, 0, 0, 0, 0, 0, 0, 0, 0, 0, 0, 0, 0, 0, 0, 0, 0, 0, 0] : (List Int))))).nm e_x6) (.c1 rfl (ob_mkSlice (k := (kint .i64)) (xs := ([(0 : Int)] : (List Int))) rfl Try.underlying41 zz3 sz3 (Zr.int .i64) (by decide) (by decide) (.cons (opd_int rfl) rfl (LS.arr' (i := 0) (ys := ([(0 : Int)] : (List Int))) (by simp) (by rfl)) (.nil _))) (.c1 rfl (((ob_mkArr (k := (kint .u8)) rfl Try.underlying39 zz39 sz5 (Zr.arr 32 (Zr.int .u8)) (.cons (opd_int rfl) rfl (LS.arr' (i := 0) (ys := ([(1 : Int), 0, 0, 0, 0, 0, 0, 0, 0, 0, 0, 0, 0, 0, 0, 0, 0, 0, 0, 0, 0, 0, 0, 0, 0, 0, 0, 0, 0, 0, 0, 0] : (List Int))) (by simp) (by rfl)) (.nil _)) : Ob _ _ _ _ _ ((karr 32 (kint .u8)).V ([(1 : Int), 0, 0, 0, 0, 0, 0, 0, 0, 0, 0, 0, 0, 0, 0, 0, 0, 0, 0, 0, 0, 0, 0, 0, 0, 0, 0, 0, 0, 0, 0, 0] : (List Int))))).nm e_x7) (.c1 rfl ((ob_mkStruct (K := k_api_Op) (X0 := (⟨(0 : Int), (0 : Int), [], (0 : Int), [], (List.replicate 32 (0 : Int)), (List.replicate 32 (0 : Int)), [], []⟩ : api_Op)) rfl Try.underlying44 zz44 rfl pl44 (Zr.iso (f := t_api_Op) (x := (⟨(0 : Int), (0 : Int), [], (0 : Int), [], (List.replicate 32 (0 : Int)), (List.replicate 32 (0 : Int)), [], []⟩ : api_Op)) (Zr.pair (Zr.int .i64) (Zr.pair (Zr.int .u32) (Zr.pair (Zr.sl _) (Zr.pair (Zr.int .i64) (Zr.pair (Zr.sl _) (Zr.pair (Zr.arr 32 (Zr.int .u8)) (Zr.pair (Zr.arr 32 (Zr.int .u8)) (Zr.pair Zr.str (Zr.pair (Zr.sl _) Zr.nil)))))))))) (.cons (opd_int rfl) rfl (ls_api_Op_Seq (⟨(0 : Int), (0 : Int), [], (0 : Int), [], (List.replicate 32 (0 : Int)), (List.replicate 32 (0 : Int)), [], []⟩ : api_Op) (1 : Int)) (.cons (opd_int rfl) rfl (ls_api_Op_Kind (⟨(0 : Int), (1 : Int), [], (0 : Int), [], (List.replicate 32 (0 : Int)), (List.replicate 32 (0 : Int)), [], []⟩ : api_Op) (1 : Int)) (.cons (.tmp rfl) rfl (ls_api_Op_Who (⟨(0 : Int), (1 : Int), [], (1 : Int), [], (List.replicate 32 (0 : Int)), (List.replicate 32 (0 : Int)), [], []⟩ : api_Op) ([(0 : Int)] : (List Int))) (.cons (.tmp rfl) rfl (ls_api_Op_Check (⟨(0 : Int), (1 : Int), [], (1 : Int), ([(0 : Int)] : (List Int)), (List.replicate 32 (0 : Int)), (List.replicate 32 (0 : Int)), [], []⟩ : api_Op) x7) (.nil _)))))).nm e_x8) (.c1 rfl (ob_mkStruct (K := k_api_Held) (X0 := (⟨(List.replicate 32 (0 : Int)), (⟨(0 : Int), (0 : Int), [], (0 : Int), [], (List.replicate 32 (0 : Int)), (List.replicate 32 (0 : Int)), [], []⟩ : api_Op), []⟩ : api_Held)) rfl Try.underlying91 zz91 rfl pl91 (Zr.iso (f := t_api_Held) (x := (⟨(List.replicate 32 (0 : Int)), (⟨(0 : Int), (0 : Int), [], (0 : Int), [], (List.replicate 32 (0 : Int)), (List.replicate 32 (0 : Int)), [], []⟩ : api_Op), []⟩ : api_Held)) (Zr.pair (Zr.arr 32 (Zr.int .u8)) (Zr.pair (Zr.iso (f := t_api_Op) (x := (⟨(0 : Int), (0 : Int), [], (0 : Int), [], (List.replicate 32 (0 : Int)), (List.replicate 32 (0 : Int)), [], []⟩ : api_Op)) (Zr.pair (Zr.int .i64) (Zr.pair (Zr.int .u32) (Zr.pair (Zr.sl _) (Zr.pair (Zr.int .i64) (Zr.pair (Zr.sl _) (Zr.pair (Zr.arr 32 (Zr.int .u8)) (Zr.pair (Zr.arr 32 (Zr.int .u8)) (Zr.pair Zr.str (Zr.pair (Zr.sl _) Zr.nil)))))))))) (Zr.pair (Zr.sl _) Zr.nil)))) (.cons (.tmp rfl) rfl (ls_api_Held_Id (⟨(List.replicate 32 (0 : Int)), (⟨(0 : Int), (0 : Int), [], (0 : Int), [], (List.replicate 32 (0 : Int)), (List.replicate 32 (0 : Int)), [], []⟩ : api_Op), []⟩ : api_Held) x6) (.cons (.tmp rfl) rfl (ls_api_Held_Op (⟨x6, (⟨(0 : Int), (0 : Int), [], (0 : Int), [], (List.replicate 32 (0 : Int)), (List.replicate 32 (0 : Int)), [], []⟩ : api_Op), []⟩ : api_Held) x8) (.nil _)))) .cz)))))) fun _ _ s24 => ?_); clear s18
 have s25 := St.freezeAllM (A := []) s24 (ts := [1, 19]) (.cons rfl (.cons rfl .nil)); clear s24
 obtain ⟨x9, e_x9, h9⟩ := bind_some h8; clear h8
 refine qx (B' := (fun v3 : Value => [RowF v3 91 k_api_Held x9.1, RowF v2 39 (karr 32 (kint .u8)) x5])) s25 rfl (ob_callL0 (args := [_, _]) (L := []) rfl .direct hb66 (List.Perm.refl _) (fun a w s => by exact c_queue_Put k _ _ _ e_x9 _ _ _ _ (s.arg (.tmp rfl)) (s.arg (.tmp rfl))) (by exact fun _ => rfl)) fun v3 _ _ s26 => ?_; clear s25
 refine qs s26 (.c1 rfl (mv rfl rfl) (.c1 rfl (ob_extract rfl (.tmp rfl) rfl) (.c1 rfl (ob_extract rfl (.tmp rfl) rfl) (.c1 rfl (ob_assign rfl (.tmp rfl)) (.c1 rfl (ob_assign rfl (.tmp rfl)) (.ce (u 1 rfl (u 2 rfl (u 3 rfl (u 4 rfl (u 5 rfl .nil))))))))))) fun _ _ s32 => wn hK4 ?_; clear s26
 refine wp_seq_k fun K5 hK5 => wp_region_lit (qs s32 (.c1 rfl (mv rfl rfl) .cz) fun _ _ s33 => ?_); clear s32
 have s34 := St.freezeAllM (A := []) s33 (ts := [4, 29]) (.cons rfl (.cons rfl .nil)); clear s33
 obtain ⟨x10, e_x10, h10⟩ := bind_some h9; clear h9
 refine qx (B' := (fun v4 : Value => [RowF v4 91 k_api_Held x10.1, RowF v2 39 (karr 32 (kint .u8)) x5])) s34 rfl (ob_callL0 (args := [_, _]) (L := []) rfl .direct hb69 (List.Perm.refl _) (fun a w s => by exact c_queue_Without k _ _ _ e_x10 _ _ _ _ (s.arg (.tmp rfl)) (s.arg (opd_int rfl))) (by exact fun _ => rfl)) fun v4 _ _ s35 => ?_; clear s34
 refine qs s35 (.c1 rfl (mv rfl rfl) (.c1 rfl (ob_extract rfl (.tmp rfl) rfl) (.c1 rfl (ob_extract rfl (.tmp rfl) rfl) (.c1 rfl (ob_assign rfl (.tmp rfl)) (.c1 rfl (ob_assign rfl (.tmp rfl)) (.ce (u 1 rfl (u 2 rfl (u 3 rfl (u 4 rfl (u 5 rfl (u 6 rfl (u 7 rfl .nil))))))))))))) fun _ _ s41 => wn hK5 ?_; clear s35
 obtain ⟨x11, e_x11, h11⟩ := bind_some h10; clear h10; replace e_x11 := Option.some.inj e_x11
 obtain ⟨g1, h12⟩ := guard_some h11; clear h11
 obtain ⟨x12, e_x12, h13⟩ := bind_some h12; clear h12
 obtain ⟨x13, e_x13, h14⟩ := bind_some h13; clear h13; replace e_x13 := Option.some.inj e_x13
 obtain ⟨x14, e_x14, h15⟩ := bind_some h14; clear h14; replace e_x14 := Option.some.inj e_x14
 obtain ⟨x15, e_x15, h16⟩ := bind_some h15; clear h15
 obtain ⟨x16, e_x16, h17⟩ := bind_some h16; clear h16
 obtain ⟨x17, e_x17, h18⟩ := bind_some h17; clear h17; replace e_x17 := Option.some.inj e_x17
 obtain ⟨x18, e_x18, h19⟩ := bind_some h18; clear h18; replace e_x18 := Option.some.inj e_x18
 obtain ⟨x19, e_x19, h20⟩ := bind_some h19; clear h19
 obtain ⟨x20, e_x20, h21⟩ := bind_some h20; clear h20; replace e_x20 := Option.some.inj e_x20
 obtain ⟨x21, e_x21, h22⟩ := bind_some h21; clear h21
 refine wp_seq_k fun K6 hK6 => wp_region_lit (qs s41 (.c1 rfl (mv rfl rfl) (.c1 rfl (ob_eql rfl (.tmp rfl) (opd_int rfl)) (.c1 rfl (mv rfl rfl) (.cg rfl rfl rfl rfl (fun hb => ob_move rfl (.tmp rfl)) (.cg rfl rfl rfl rfl (fun hb => (Ob.uncond (t := 36) hb rfl (ob_eql rfl (.tmp rfl) (opd_int rfl)))) (.c1 rfl (ob_and2 rfl (.tmp rfl) (.tmp rfl) opd_bool) (.c1 rfl (mv rfl rfl) (.cg rfl rfl rfl rfl (fun hb => ob_move rfl (.tmp rfl)) (.cg rfl rfl rfl rfl (fun hb => (Ob.uncond (t := 40) hb rfl (ob_eql rfl (.tmp rfl) (opd_int rfl)))) (.c1 rfl ((ob_and2 rfl (.tmp rfl) (.tmp rfl) opd_bool).nm e_x11) (.c1 rfl (mv rfl rfl) (.cg rfl rfl rfl rfl (fun hb => ob_move rfl (.tmp rfl)) (.cg rfl rfl rfl rfl (fun hb => (Ob.uncond (t := 44) hb rfl (ob_lenRow rfl Try.underlying40 (.tmp rfl) (.tail _ (.head _))))) (.cg rfl rfl rfl rfl (fun hb => (Ob.uncond (t := 45) hb rfl (ob_eql rfl (.tmp rfl) (opd_int rfl)))) (.c1 rfl (ob_and2 rfl (.tmp rfl) (.tmp rfl) opd_bool) (.c1 rfl (mv rfl rfl) (.cg rfl rfl rfl rfl (fun hb => ob_move rfl (.tmp rfl)) (.cg rfl rfl rfl rfl (fun hb => (Ob.uncond (t := 49) hb rfl (ob_rowAt rfl Try.underlying40 sz39 (.tmp rfl) (.tail _ (.head _)) (opd_int rfl) (g1 hb)))) (.cg rfl rfl rfl rfl (fun hb => (Ob.uncond (t := 50) hb rfl (ob_rowLoad rfl tk39 (.tmp rfl) (.tail _ (.head _)) (LG.arrA (ite_t hb e_x12))))) (.cg rfl rfl rfl rfl (fun hb => ((ob_mkArr (k := (kint .u8)) rfl Try.underlying39 zz39 sz5 (Zr.arr 32 (Zr.int .u8)) (.cons (opd_int rfl) rfl (LS.arr' (i := 0) (ys := ([(2 : Int), 0, 0, 0, 0, 0, 0, 0, 0, 0, 0, 0, 0, 0, 0, 0, 0, 0, 0, 0, 0, 0, 0, 0, 0, 0, 0, 0, 0, 0, 0, 0] : (List Int))) (by simp) (by rfl)) (.nil _)) : Ob _ _ _ _ _ ((karr 32 (kint .u8)).V ([(2 : Int), 0, 0, 0, 0, 0, 0, 0, 0, 0, 0, 0, 0, 0, 0, 0, 0, 0, 0, 0, 0, 0, 0, 0, 0, 0, 0, 0, 0, 0, 0, 0] : (List Int))))).nm e_x13) (.cg rfl rfl rfl rfl (fun hb => (Ob.uncond (t := 52) hb rfl ((Ob.uncond (t := 51) hb rfl (ob_eqAgg rfl rfl (by kernel_rfl) eq39 (by decide) (.tmp rfl) (.tmp rfl)))))) (.c1 rfl ((ob_and2 rfl (.tmp rfl) (.tmp rfl) opd_bool).nm e_x14) (.c1 rfl (mv rfl rfl) (.cg rfl rfl rfl rfl (fun hb => ob_move rfl (.tmp rfl)) (.cg rfl rfl rfl rfl (fun hb => (Ob.uncond (t := 56) hb rfl (ob_callD0 (args := [_, _]) rfl .direct hb61 (fun a w s => by exact c_queue_Ready k _ _ _ (ite_t hb e_x15) _ _ _ _ (s.arg opd_nil) (s.arg (.tmp rfl)))))) (.cg rfl rfl rfl rfl (fun hb => (Ob.uncond (t := 57) hb rfl (ob_eql rfl (.tmp rfl) (opd_int rfl)))) (.c1 rfl (ob_and2 rfl (.tmp rfl) (.tmp rfl) opd_bool) (.c1 rfl (mv rfl rfl) (.cg rfl rfl rfl rfl (fun hb => ob_move rfl (.tmp rfl)) (.cg rfl rfl rfl rfl (fun hb => (Ob.uncond (t := 61) hb rfl (ob_callD0 (args := [_, _]) rfl .direct hb61 (fun a w s => by exact c_queue_Ready k _ _ _ (ite_t hb e_x16) _ _ _ _ (s.arg opd_nil) (s.arg (.tmp rfl)))))) (.cg rfl rfl rfl rfl (fun hb => (Ob.uncond (t := 62) hb rfl (ob_eql rfl (.tmp rfl) (opd_int rfl)))) (.c1 rfl ((ob_and2 rfl (.tmp rfl) (.tmp rfl) opd_bool).nm e_x17) (.c1 rfl (mv rfl rfl) (.cg rfl rfl rfl rfl (fun hb => ob_move rfl (.tmp rfl)) (.cg rfl rfl rfl rfl (fun hb => (Ob.uncond (t := 66) hb rfl (ob_lenRow rfl Try.underlying85 (.tmp rfl) (.head _)))) (.cg rfl rfl rfl rfl (fun hb => (Ob.uncond (t := 67) hb rfl (ob_eql rfl (.tmp rfl) (opd_int rfl)))) (.c1 rfl (ob_and2 rfl (.tmp rfl) (.tmp rfl) opd_bool) (.c1 rfl (mv rfl rfl) (.cg rfl rfl rfl rfl (fun hb => ob_move rfl (.tmp rfl)) (.cg rfl rfl rfl rfl (fun hb => ((ob_mkArr (k := (kint .u8)) rfl Try.underlying39 zz39 sz5 (Zr.arr 32 (Zr.int .u8)) (.cons (opd_int rfl) rfl (LS.arr' (i := 0) (ys := ([(2 : Int), 0, 0, 0, 0, 0, 0, 0, 0, 0, 0, 0, 0, 0, 0, 0, 0, 0, 0, 0, 0, 0, 0, 0, 0, 0, 0, 0, 0, 0, 0, 0] : (List Int))) (by simp) (by rfl)) (.nil _)) : Ob _ _ _ _ _ ((karr 32 (kint .u8)).V ([(2 : Int), 0, 0, 0, 0, 0, 0, 0, 0, 0, 0, 0, 0, 0, 0, 0, 0, 0, 0, 0, 0, 0, 0, 0, 0, 0, 0, 0, 0, 0, 0, 0] : (List Int))))).nm e_x18) (.cg rfl rfl rfl rfl (fun hb => (Ob.uncond (t := 72) hb rfl ((Ob.uncond (t := 71) hb rfl (ob_callD0 (args := [_, _]) rfl .direct hb72 (fun a w s => by exact c_queue_Find k _ _ _ (ite_t hb e_x19) _ _ _ _ (s.arg (.tmp rfl)) (s.arg (.tmp rfl)))))))) (.cg rfl rfl rfl rfl (fun hb => (Ob.uncond (t := 73) hb rfl (ob_eql rfl (.tmp rfl) (opd_int rfl)))) (.c1 rfl ((ob_and2 rfl (.tmp rfl) (.tmp rfl) opd_bool).nm e_x20) (.c1 rfl (mv rfl rfl) (.cg rfl rfl rfl rfl (fun hb => ob_move rfl (.tmp rfl)) (.cg rfl rfl rfl rfl (fun hb => (Ob.uncond (t := 77) hb rfl (ob_callD0 (args := [_]) rfl .direct hb71 (fun a w s => by exact c_queue_Right k _ _ (ite_t hb e_x21) _ _ _ (s.arg (.tmp rfl)))))) (.c1 rfl (ob_and2 rfl (.tmp rfl) (.tmp rfl) opd_bool) (.c1 rfl (ob_assign rfl (.tmp rfl)) (.ce (u 0 rfl .nil)))))))))))))))))))))))))))))))))))))))))))))))))) fun _ _ s90 => wn hK6 ?_); clear s41
 have s91 := St.drop (A := []) s90; clear s90
 have s92 := St.drop (A := []) s91; clear s91
 refine wp_ret ?_
 obtain rfl := Option.some.inj h22
 exact leave s92 (.inl rfl) rfl (.cons (.tmp rfl) .nil)
theorem c_cabalref11_Great (k : Nat) (p1 : api_Op) (r : Bool) (h0 : cabalref11_Great k p1 = some r) (ok : Ok) (w0 : World) (z0 : Value) (u0 : (k_api_Op.V p1).holds ok w0 z0) :
 Gives Try.prog 51 [z0] ok w0 (resFact [kbool.V r]) := by
 unfold cabalref11_Great at h0
 refine enter (N := 41) Try.func51 rfl rfl (of_decide_eq_true rfl) (.cons u0 .nil) fun a1 s1 => ?_
 refine wp_seq_k fun K1 hK1 => wp_region_lit ?_
 refine qx (B' := (fun b1 : Nat => [BF b1 44 k_api_Op p1])) s1 rfl (ob_box rfl (.tmp rfl)) fun b1 _ _ s2 => ?_; clear s1
 refine qs s2 (.c1 rfl (ob_assign rfl opd_bool) (.ce (u 1 rfl .nil))) fun _ _ s4 => wn hK1 ?_; clear s2
 refine wp_seq_k fun K2 hK2 => wp_seq_k fun K3 hK3 => ?_
 obtain ⟨x1, e_x1, h1⟩ := bind_some h0; clear h0; replace e_x1 := Option.some.inj e_x1
 obtain ⟨x2, e_x2, h2⟩ := bind_some h1; clear h1; replace e_x2 := Option.some.inj e_x2
 refine wp_region_lit (qs s4 (.c1 rfl (ob_fieldAddr (off' := 2) rfl Try.underlying44 rfl sz40 (by decide) (.tmp rfl) rfl) (.c1 rfl (ob_load rfl tk40 (.tmp rfl) (.head _) (lg_api_Op_Parents p1)) (.c1 rfl (ob_lens rfl Try.underlying40 (.tmp rfl)) (.c1 rfl (ob_gtr rfl (.tmp rfl) (opd_int rfl)) (.c1 rfl (mv rfl rfl) (.cg rfl rfl rfl rfl (fun hb => ob_fieldAddr (off' := 4) rfl Try.underlying44 rfl sz41 (by decide) (.tmp rfl) rfl) (.cg rfl rfl rfl rfl (fun hb => (Ob.uncond (t := 9) hb rfl (ob_load rfl tk41 (.tmp rfl) (.head _) (lg_api_Op_Who p1)))) (.cg rfl rfl rfl rfl (fun hb => (Ob.uncond (t := 10) hb rfl (ob_lens rfl Try.underlying41 (.tmp rfl)))) (.cg rfl rfl rfl rfl (fun hb => (Ob.uncond (t := 11) hb rfl (ob_gtr rfl (.tmp rfl) (opd_int rfl)))) (.c1 rfl ((ob_or2 rfl (.tmp rfl) opd_bool (.tmp rfl)).nm e_x1) (.c1 rfl (mv rfl rfl) (.cg rfl rfl rfl rfl (fun hb => ob_fieldAddr (off' := 70) rfl Try.underlying44 rfl sz42 (by decide) (.tmp rfl) rfl) (.cg rfl rfl rfl rfl (fun hb => (Ob.uncond (t := 15) hb rfl (ob_load rfl tk42 (.tmp rfl) (.head _) (lg_api_Op_Boxes p1)))) (.cg rfl rfl rfl rfl (fun hb => (Ob.uncond (t := 16) hb rfl (ob_lens rfl Try.underlying42 (.tmp rfl)))) (.cg rfl rfl rfl rfl (fun hb => (Ob.uncond (t := 17) hb rfl (ob_gtr rfl (.tmp rfl) (opd_int rfl)))) (.c1 rfl (ob_or2 rfl (.tmp rfl) opd_bool (.tmp rfl)) (.c1 rfl (mv rfl rfl) (.cg rfl rfl rfl rfl (fun hb => ob_fieldAddr (off' := 69) rfl Try.underlying44 rfl sz9 (by decide) (.tmp rfl) rfl) (.cg rfl rfl rfl rfl (fun hb => (Ob.uncond (t := 21) hb rfl (ob_load rfl tk9 (.tmp rfl) (.head _) (lg_api_Op_Text p1)))) (.cg rfl rfl rfl rfl (fun hb => (Ob.uncond (t := 22) hb rfl (ob_lenStr rfl Try.underlying9 (.tmp rfl)))) (.cg rfl rfl rfl rfl (fun hb => (Ob.uncond (t := 23) hb rfl (ob_gtr rfl (.tmp rfl) (opd_int rfl)))) (.c1 rfl ((ob_or2 rfl (.tmp rfl) opd_bool (.tmp rfl)).nm e_x2) (.ce (u 1 rfl (u 25 rfl .nil))))))))))))))))))))))))) fun _ _ s27 => wn hK3 ?_); clear s4
 refine cond_split s27 (.tmp rfl) (fun hc1 => ?_) (fun hc1 => ?_)
 ·have h3 := ite_t hc1 h2; clear h2
  refine wp_seq_k fun K4 hK4 => wp_region_lit (qs s27 (.c1 rfl (ob_assign rfl opd_bool) (.ce (u 2 rfl .nil))) fun _ _ s29 => wn hK4 ?_); clear s27
  have s30 := St.drop (A := []) s29; clear s29
  refine wp_ret ?_
  obtain rfl := Option.some.inj h3
  exact leave s30 (.inl rfl) rfl (.cons (.tmp rfl) .nil)
 ·have h4 := ite_f hc1 h2; clear h2
  refine wp_skip ?_
  refine then_normal (hK2 _ _ ?_)
  have s31 := s27.sub (u 1 rfl .nil); clear s27
  refine wp_seq_k fun K5 hK5 => wp_seq_k fun K6 hK6 => ?_
  refine wp_region_lit (qs s31 (.c1 rfl (ob_assign rfl (opd_int rfl)) (.ce (u 1 rfl (u 3 rfl .nil)))) fun _ _ s33 => wn hK6 ?_); clear s31
  have hj1 : ∀ (a : Act) (w : World), (cabalref11_Great.j1 k) = some r → St ⟨41, w0, ok, []⟩ [] [] a w → K5 a w := by
   intro a34 w34 h5 s34
   unfold cabalref11_Great.j1 at h5
   refine hK5 _ _ ?_
   refine wp_seq_k fun K7 hK7 => wp_region_lit (qs s34 (.c1 rfl (ob_assign rfl opd_bool) (.ce (u 2 rfl .nil))) fun _ _ s36 => wn hK7 ?_); clear s34
   refine wp_ret ?_
   obtain rfl := Option.some.inj h5
   exact leave s36 (.inl rfl) rfl (.cons (.tmp rfl) .nil)
  refine wp_block ?_
  refine wp_loop_fuel (fun m (q : Int) => cabalref11_Great.l1 k p1 m q) r (fun _ => rfl) (fun q a w => St ⟨41, w0, ok, []⟩ [BF b1 44 k_api_Op p1] [(1, (ptrB b1 0)), (3, ((kint .i64).V q))] a w) ?_ k (0 : Int) _ _ h4 (s33.sub (.cons rfl (.cons rfl .nil)))
  rintro n1 y1 a37 w37 h6 s37 K8 hK8
  replace h6 : cabalref11_Great.l1 k p1 (n1 + 1) y1 = some r := h6; rw [cabalref11_Great.l1] at h6
  have h7 := h6; clear h6
  refine wp_seq_k fun K9 hK9 => wp_seq_k fun K10 hK10 => ?_
  refine wp_region_lit (qs s37 (.c1 rfl (mv rfl rfl) (.c1 rfl (ob_fieldAddr (off' := 70) rfl Try.underlying44 rfl sz42 (by decide) (.tmp rfl) rfl) (.c1 rfl (ob_load rfl tk42 (.tmp rfl) (.head _) (lg_api_Op_Boxes p1)) (.c1 rfl (ob_lens rfl Try.underlying42 (.tmp rfl)) (.c1 rfl (ob_lss rfl (.tmp rfl) (.tmp rfl)) (.ce (u 1 rfl (u 3 rfl (u 30 rfl .nil))))))))) fun _ _ s43 => wn hK10 ?_); clear s37
  refine cond_split s43 (.tmp rfl) (fun hc2 => ?_) (fun hc2 => ?_)
  ·have h8 := ite_t hc2 h7; clear h7
   refine wp_skip ?_
   refine then_normal (hK9 _ _ ?_)
   have s44 := s43.sub (u 1 rfl (u 3 rfl .nil)); clear s43
   refine wp_seq_k fun K11 hK11 => wp_block ?_
   obtain ⟨x3, e_x3, h9⟩ := bind_some h8; clear h8
   refine wp_seq_k fun K12 hK12 => wp_region_lit (qs s44 (.c1 rfl (ob_fieldAddr (off' := 70) rfl Try.underlying44 rfl sz42 (by decide) (.tmp rfl) rfl) (.c1 rfl (ob_load rfl tk42 (.tmp rfl) (.head _) (lg_api_Op_Boxes p1)) (.c1 rfl (mv rfl rfl) (.c1 rfl (ob_indexAddrs rfl Try.underlying42 sz78 (.tmp rfl) (.tmp rfl) e_x3) (.c1 rfl (ob_fieldAddrr rfl Try.underlying78 rfl sz9 (by decide) (.tmp rfl) (lg_api_Box_Body x3)) (.c1 rfl (ob_loadr rfl tk9 (.tmp rfl)) (.c1 rfl (ob_lenStr rfl Try.underlying9 (.tmp rfl)) (.c1 rfl (ob_gtr rfl (.tmp rfl) (opd_int rfl)) (.ce (u 1 rfl (u 3 rfl (u 40 rfl .nil)))))))))))) fun _ _ s53 => wn hK12 ?_); clear s44
   refine cond_split s53 (.tmp rfl) (fun hc3 => ?_) (fun hc3 => ?_)
   ·have h10 := ite_t hc3 h9; clear h9
    refine wp_seq_k fun K13 hK13 => wp_region_lit (qs s53 (.c1 rfl (ob_assign rfl opd_bool) (.ce (u 2 rfl .nil))) fun _ _ s55 => wn hK13 ?_); clear s53
    have s56 := St.drop (A := []) s55; clear s55
    refine wp_ret ?_
    obtain rfl := Option.some.inj h10
    exact leave s56 (.inl rfl) rfl (.cons (.tmp rfl) .nil)
   ·have h11 := ite_f hc3 h9; clear h9
    refine wp_skip ?_
    refine in_normal ?_
    refine then_normal (hK11 _ _ ?_)
    have s57 := s53.sub (u 1 rfl (u 3 rfl .nil)); clear s53
    refine wp_region_lit (qs s57 (.c1 rfl (mv rfl rfl) (.c1 rfl (ob_add rfl (.tmp rfl) (opd_int rfl)) (.c1 rfl (ob_assign rfl (.tmp rfl)) .cz))) fun _ _ s60 => ?_); clear s57
    refine wpList_nil ?_
    refine then_normal ?_
    exact hK8 (iadd .i64 y1 (1 : Int)) _ _ h11 (s60.sub (.cons rfl (.cons rfl .nil)))
  ·have h12 := ite_f hc2 h7; clear h7
   refine wp_exit ?_
   refine (then_exit (then_exit (in_here ?_)))
   refine then_normal ?_
   have s61 := St.drop (A := []) s43; clear s43
   exact hj1 _ _ h12 (s61.sub .nil)
theorem c_cabalref19_Great (k : Nat) (p1 : (List api_Held)) (r : Bool) (h0 : cabalref19_Great k p1 = some r) (ok : Ok) (w0 : World) (z0 : Value) (u0 : ((ksl k_api_Held).V p1).holds ok w0 z0) :
 Gives Try.prog 60 [z0] ok w0 (resFact [kbool.V r]) := by
 unfold cabalref19_Great at h0
 refine enter (N := 28) Try.func60 rfl rfl (of_decide_eq_true rfl) (.cons u0 .nil) fun a1 s1 => ?_
 refine wp_seq_k fun K1 hK1 => wp_region_lit (qs s1 (.c1 rfl (ob_assign rfl opd_bool) (.ce (u 0 rfl .nil))) fun _ _ s3 => wn hK1 ?_); clear s1
 refine wp_seq_k fun K2 hK2 => wp_seq_k fun K3 hK3 => ?_
 refine wp_region_lit (qs s3 (.c1 rfl (mv rfl rfl) (.c1 rfl (ob_lens rfl Try.underlying85 (.tmp rfl)) (.c1 rfl (ob_gtr rfl (.tmp rfl) (opd_int rfl)) (.ce (u 0 rfl (u 6 rfl .nil)))))) fun _ _ s7 => wn hK3 ?_); clear s3
 refine cond_split s7 (.tmp rfl) (fun hc1 => ?_) (fun hc1 => ?_)
 ·have h1 := ite_t hc1 h0; clear h0
  refine wp_seq_k fun K4 hK4 => wp_region_lit (qs s7 (.c1 rfl (ob_assign rfl opd_bool) (.ce (u 2 rfl .nil))) fun _ _ s9 => wn hK4 ?_); clear s7
  refine wp_ret ?_
  obtain rfl := Option.some.inj h1
  exact leave s9 (.inl rfl) rfl (.cons (.tmp rfl) .nil)
 ·have h2 := ite_f hc1 h0; clear h0
  refine wp_skip ?_
  refine then_normal (hK2 _ _ ?_)
  have s10 := s7.sub (u 0 rfl .nil); clear s7
  refine wp_seq_k fun K5 hK5 => wp_seq_k fun K6 hK6 => ?_
  refine wp_region_lit (qs s10 (.c1 rfl (ob_assign rfl (opd_int rfl)) (.ce (u 0 rfl (u 3 rfl .nil)))) fun _ _ s12 => wn hK6 ?_); clear s10
  have hj1 : ∀ (a : Act) (w : World), (cabalref19_Great.j1 k) = some r → St ⟨28, w0, ok, []⟩ [] [] a w → K5 a w := by
   intro a13 w13 h3 s13
   unfold cabalref19_Great.j1 at h3
   refine hK5 _ _ ?_
   refine wp_seq_k fun K7 hK7 => wp_region_lit (qs s13 (.c1 rfl (ob_assign rfl opd_bool) (.ce (u 2 rfl .nil))) fun _ _ s15 => wn hK7 ?_); clear s13
   refine wp_ret ?_
   obtain rfl := Option.some.inj h3
   exact leave s15 (.inl rfl) rfl (.cons (.tmp rfl) .nil)
  refine wp_block ?_
  refine wp_loop_fuel (fun m (q : Int) => cabalref19_Great.l1 k p1 m q) r (fun _ => rfl) (fun q a w => St ⟨28, w0, ok, []⟩ [] [(0, ((ksl k_api_Held).V p1)), (3, ((kint .i64).V q))] a w) ?_ k (0 : Int) _ _ h2 (s12.sub (.cons rfl (.cons rfl .nil)))
  rintro n1 y1 a16 w16 h4 s16 K8 hK8
  replace h4 : cabalref19_Great.l1 k p1 (n1 + 1) y1 = some r := h4; rw [cabalref19_Great.l1] at h4
  have h5 := h4; clear h4
  refine wp_seq_k fun K9 hK9 => wp_seq_k fun K10 hK10 => ?_
  refine wp_region_lit (qs s16 (.c1 rfl (mv rfl rfl) (.c1 rfl (mv rfl rfl) (.c1 rfl (ob_lens rfl Try.underlying85 (.tmp rfl)) (.c1 rfl (ob_lss rfl (.tmp rfl) (.tmp rfl)) (.ce (u 0 rfl (u 3 rfl (u 10 rfl .nil)))))))) fun _ _ s21 => wn hK10 ?_); clear s16
  refine cond_split s21 (.tmp rfl) (fun hc2 => ?_) (fun hc2 => ?_)
  ·have h6 := ite_t hc2 h5; clear h5
   refine wp_skip ?_
   refine then_normal (hK9 _ _ ?_)
   have s22 := s21.sub (u 0 rfl (u 3 rfl .nil)); clear s21
   refine wp_seq_k fun K11 hK11 => wp_block ?_
   obtain ⟨x1, e_x1, h7⟩ := bind_some h6; clear h6
   obtain ⟨x2, e_x2, h8⟩ := bind_some h7; clear h7
   obtain ⟨x3, e_x3, h9⟩ := bind_some h8; clear h8
   refine wp_seq_k fun K12 hK12 => wp_region_lit (qs s22 (.c1 rfl (mv rfl rfl) (.c1 rfl (mv rfl rfl) (.c1 rfl (ob_indexAddrs rfl Try.underlying85 sz91 (.tmp rfl) (.tmp rfl) e_x1) (.c1 rfl (ob_fieldAddrr rfl Try.underlying91 rfl sz44 (by decide) (.tmp rfl) (lg_api_Held_Op x1)) (.c1 rfl (ob_loadr rfl tk44 (.tmp rfl)) (.c1 rfl (ob_callD0 (args := [_]) rfl .direct hb51 (fun a w s => by exact c_cabalref11_Great k _ _ e_x2 _ _ _ (s.arg (.tmp rfl)))) (.c1 rfl (mv rfl rfl) (.cg rfl rfl rfl rfl (fun hb => ob_move rfl (.tmp rfl)) (.cg rfl rfl rfl rfl (fun hb => ob_move rfl (.tmp rfl)) (.cg rfl rfl rfl rfl (fun hb => (Ob.uncond (t := 21) hb rfl ((Ob.uncond (t := 20) hb rfl (ob_indexAddrs rfl Try.underlying85 sz91 (.tmp rfl) (.tmp rfl) (ite_t hb e_x3)))))) (.cg rfl rfl rfl rfl (fun hb => (Ob.uncond (t := 22) hb rfl (ob_fieldAddrr rfl Try.underlying91 rfl sz40 (by decide) (.tmp rfl) (lg_api_Held_Got x3)))) (.cg rfl rfl rfl rfl (fun hb => (Ob.uncond (t := 23) hb rfl (ob_loadr rfl tk40 (.tmp rfl)))) (.cg rfl rfl rfl rfl (fun hb => (Ob.uncond (t := 24) hb rfl (ob_lens rfl Try.underlying40 (.tmp rfl)))) (.cg rfl rfl rfl rfl (fun hb => (Ob.uncond (t := 25) hb rfl (ob_gtr rfl (.tmp rfl) (opd_int rfl)))) (.c1 rfl (ob_or2 rfl (.tmp rfl) opd_bool (.tmp rfl)) (.ce (u 0 rfl (u 3 rfl (u 27 rfl .nil))))))))))))))))))) fun _ _ s38 => wn hK12 ?_); clear s22
   refine cond_split s38 (.tmp rfl) (fun hc3 => ?_) (fun hc3 => ?_)
   ·have h10 := ite_t hc3 h9; clear h9
    refine wp_seq_k fun K13 hK13 => wp_region_lit (qs s38 (.c1 rfl (ob_assign rfl opd_bool) (.ce (u 2 rfl .nil))) fun _ _ s40 => wn hK13 ?_); clear s38
    refine wp_ret ?_
    obtain rfl := Option.some.inj h10
    exact leave s40 (.inl rfl) rfl (.cons (.tmp rfl) .nil)
   ·have h11 := ite_f hc3 h9; clear h9
    refine wp_skip ?_
    refine in_normal ?_
    refine then_normal (hK11 _ _ ?_)
    have s41 := s38.sub (u 0 rfl (u 3 rfl .nil)); clear s38
    refine wp_region_lit (qs s41 (.c1 rfl (mv rfl rfl) (.c1 rfl (ob_add rfl (.tmp rfl) (opd_int rfl)) (.c1 rfl (ob_assign rfl (.tmp rfl)) .cz))) fun _ _ s44 => ?_); clear s41
    refine wpList_nil ?_
    refine then_normal ?_
    exact hK8 (iadd .i64 y1 (1 : Int)) _ _ h11 (s44.sub (.cons rfl (.cons rfl .nil)))
  ·have h12 := ite_f hc2 h5; clear h5
   refine wp_exit ?_
   refine (then_exit (then_exit (in_here ?_)))
   refine then_normal ?_
   exact hj1 _ _ h12 (s21.sub .nil)
theorem c_cabalref11_Member (k : Nat) (p1 : Int) (r : Bool) (h0 : cabalref11_Member k p1 = some r) (ok : Ok) (w0 : World) (z0 : Value) (u0 : ((kint .i64).V p1).holds ok w0 z0) :
 Gives Try.prog 129 [z0] ok w0 (resFact [kbool.V r]) := by
 unfold cabalref11_Member at h0
 refine enter (N := 9) Try.func129 rfl rfl (of_decide_eq_true rfl) (.cons u0 .nil) fun a1 s1 => ?_
 refine wp_seq_k fun K1 hK1 => wp_region_lit (qs s1 (.c1 rfl (ob_assign rfl opd_bool) (.ce (u 0 rfl .nil))) fun _ _ s3 => wn hK1 ?_); clear s1
 obtain ⟨x1, e_x1, h1⟩ := bind_some h0; clear h0; replace e_x1 := Option.some.inj e_x1
 refine wp_seq_k fun K2 hK2 => wp_region_lit (qs s3 (.c1 rfl (mv rfl rfl) (.c1 rfl (ob_geq rfl (.tmp rfl) (opd_int rfl)) (.c1 rfl (mv rfl rfl) (.cg rfl rfl rfl rfl (fun hb => ob_move rfl (.tmp rfl)) (.cg rfl rfl rfl rfl (fun hb => (Ob.uncond (t := 6) hb rfl (ob_leq rfl (.tmp rfl) (opd_int rfl)))) (.c1 rfl ((ob_and2 rfl (.tmp rfl) (.tmp rfl) opd_bool).nm e_x1) (.c1 rfl (ob_assign rfl (.tmp rfl)) (.ce (u 2 rfl .nil))))))))) fun _ _ s11 => wn hK2 ?_); clear s3
 refine wp_ret ?_
 obtain rfl := Option.some.inj h1
 exact leave s11 (.inl rfl) rfl (.cons (.tmp rfl) .nil)
theorem c_cabalref11_Less (k : Nat) (p1 : (List Int)) (p2 : (List Int)) (r : Bool) (h0 : cabalref11_Less k p1 p2 = some r) (ok : Ok) (w0 : World) (z0 : Value) (z1 : Value) (u0 : ((karr 32 (kint .u8)).V p1).holds ok w0 z0) (u1 : ((karr 32 (kint .u8)).V p2).holds ok w0 z1) :
 Gives Try.prog 108 [z0, z1] ok w0 (resFact [kbool.V r]) := by
 unfold cabalref11_Less at h0
 refine enter (N := 24) Try.func108 rfl rfl (of_decide_eq_true rfl) (.cons u0 (.cons u1 .nil)) fun a1 s1 => ?_
 refine wp_seq_k fun K1 hK1 => wp_region_lit ?_
 refine qx (B' := (fun b1 : Nat => [BF b1 39 (karr 32 (kint .u8)) p1])) s1 rfl (ob_box rfl (.tmp rfl)) fun b1 _ _ s2 => ?_; clear s1
 refine qx (B' := (fun b2 : Nat => [BF b2 39 (karr 32 (kint .u8)) p2, BF b1 39 (karr 32 (kint .u8)) p1])) s2 rfl (ob_box rfl (.tmp rfl)) fun b2 _ _ s3 => ?_; clear s2
 refine qs s3 (.c1 rfl (ob_assign rfl opd_bool) (.ce (u 2 rfl (u 3 rfl .nil)))) fun _ _ s5 => wn hK1 ?_; clear s3
 refine wp_seq_k fun K2 hK2 => wp_seq_k fun K3 hK3 => ?_
 refine wp_region_lit (qs s5 (.c1 rfl (ob_assign rfl (opd_int rfl)) (.ce (u 2 rfl (u 3 rfl (u 5 rfl .nil))))) fun _ _ s7 => wn hK3 ?_); clear s5
 have hj1 : ∀ (a : Act) (w : World), (cabalref11_Less.j1 k) = some r → St ⟨24, w0, ok, []⟩ [] [] a w → K2 a w := by
  intro a8 w8 h1 s8
  unfold cabalref11_Less.j1 at h1
  refine hK2 _ _ ?_
  refine wp_seq_k fun K4 hK4 => wp_region_lit (qs s8 (.c1 rfl (ob_assign rfl opd_bool) (.ce (u 4 rfl .nil))) fun _ _ s10 => wn hK4 ?_); clear s8
  refine wp_ret ?_
  obtain rfl := Option.some.inj h1
  exact leave s10 (.inl rfl) rfl (.cons (.tmp rfl) .nil)
 refine wp_block ?_
 have s11 := s7.perm (toFront [_] (toFront [] (List.Perm.refl _))); clear s7
 refine wp_loop_fuel (fun m (q : Int) => cabalref11_Less.l1 k p1 p2 m q) r (fun _ => rfl) (fun q a w => St ⟨24, w0, ok, []⟩ [BF b1 39 (karr 32 (kint .u8)) p1, BF b2 39 (karr 32 (kint .u8)) p2] [(2, (ptrB b1 0)), (3, (ptrB b2 0)), (5, ((kint .i64).V q))] a w) ?_ k (0 : Int) _ _ h0 (s11.sub (.cons rfl (.cons rfl (.cons rfl .nil))))
 rintro n1 y1 a12 w12 h2 s12 K5 hK5
 replace h2 : cabalref11_Less.l1 k p1 p2 (n1 + 1) y1 = some r := h2; rw [cabalref11_Less.l1] at h2
 have h3 := h2; clear h2
 refine wp_seq_k fun K6 hK6 => wp_seq_k fun K7 hK7 => ?_
 refine wp_region_lit (qs s12 (.c1 rfl (mv rfl rfl) (.c1 rfl (ob_lss rfl (.tmp rfl) (opd_int rfl)) (.ce (u 2 rfl (u 3 rfl (u 5 rfl (u 7 rfl .nil))))))) fun _ _ s15 => wn hK7 ?_); clear s12
 refine cond_split s15 (.tmp rfl) (fun hc1 => ?_) (fun hc1 => ?_)
 ·have h4 := ite_t hc1 h3; clear h3
  refine wp_skip ?_
  refine then_normal (hK6 _ _ ?_)
  have s16 := s15.sub (u 2 rfl (u 3 rfl (u 5 rfl .nil))); clear s15
  refine wp_seq_k fun K8 hK8 => wp_block ?_
  refine wp_seq_k fun K9 hK9 => ?_
  obtain ⟨g1, h5⟩ := guard_some h4; clear h4
  obtain ⟨x1, e_x1, h6⟩ := bind_some h5; clear h5
  obtain ⟨g2, h7⟩ := guard_some h6; clear h6
  obtain ⟨x2, e_x2, h8⟩ := bind_some h7; clear h7
  refine wp_goes (Fs := [((kint .i64).V y1), (ptrB b1 (y1.toNat * 1)), ((kint .u8).V x1), ((kint .i64).V y1), (ptrB b2 (y1.toNat * 1)), ((kint .u8).V x2)]) (bits := [0, 1, 3, 0, 8, 24, 63]) (m := 6) (todo := 0) mx s16 ?_; clear s16
  refine goes_last (by kernel_rfl) rfl (oc (av 5 rfl rfl Av.nil) rfl rfl (mv rfl rfl) (oc (av 2 rfl rfl (an 0 rfl rfl rfl Av.nil)) rfl rfl (ob_indexAddr rfl Try.underlying39 sz5 (.tmp rfl) (.tmp rfl) g1.1 g1.2 (Nat.zero_add _)) (oc (an 1 rfl rfl rfl Av.nil) rfl rfl (ob_load rfl tk5 (.tmp rfl) (.head _) (LG.arrA e_x1)) (oc (av 5 rfl rfl Av.nil) rfl rfl (mv rfl rfl) (oc (av 3 rfl rfl (an 3 rfl rfl rfl Av.nil)) rfl rfl (ob_indexAddr rfl Try.underlying39 sz5 (.tmp rfl) (.tmp rfl) g2.1 g2.2 (Nat.zero_add _)) (oc (an 4 rfl rfl rfl Av.nil) rfl rfl (ob_load rfl tk5 (.tmp rfl) (.tail _ (.head _)) (LG.arrA e_x2)) opsS_nil)))))) (out_old (t := 2) rfl rfl (out_old (t := 3) rfl rfl (out_old (t := 5) rfl rfl (out_new (i := 2) (by decide) rfl rfl (out_new (i := 5) (by decide) rfl rfl out_nil))))) fun _ _ s17 => ?_
  refine qs s17 (.c1 rfl (ob_neq rfl (.tmp rfl) (.tmp rfl)) (.ce (u 2 rfl (u 3 rfl (u 5 rfl (u 16 rfl .nil)))))) fun _ _ s19 => wn hK9 ?_; clear s17
  refine cond_split s19 (.tmp rfl) (fun hc2 => ?_) (fun hc2 => ?_)
  ·have h9 := ite_t hc2 h8; clear h8
   refine wp_seq_k fun K10 hK10 => ?_
   obtain ⟨g3, h10⟩ := guard_some h9; clear h9
   obtain ⟨x3, e_x3, h11⟩ := bind_some h10; clear h10
   obtain ⟨g4, h12⟩ := guard_some h11; clear h11
   obtain ⟨x4, e_x4, h13⟩ := bind_some h12; clear h12
   refine wp_goes (Fs := [((kint .i64).V y1), (ptrB b1 (y1.toNat * 1)), ((kint .u8).V x3), ((kint .i64).V y1), (ptrB b2 (y1.toNat * 1)), ((kint .u8).V x4)]) (bits := [0, 1, 3, 0, 8, 24, 63, 127]) (m := 6) (todo := 0) mx s19 ?_; clear s19
   refine goes_last (by kernel_rfl) rfl (oc (av 5 rfl rfl Av.nil) rfl rfl (mv rfl rfl) (oc (av 2 rfl rfl (an 0 rfl rfl rfl Av.nil)) rfl rfl (ob_indexAddr rfl Try.underlying39 sz5 (.tmp rfl) (.tmp rfl) g3.1 g3.2 (Nat.zero_add _)) (oc (an 1 rfl rfl rfl Av.nil) rfl rfl (ob_load rfl tk5 (.tmp rfl) (.head _) (LG.arrA e_x3)) (oc (av 5 rfl rfl Av.nil) rfl rfl (mv rfl rfl) (oc (av 3 rfl rfl (an 3 rfl rfl rfl Av.nil)) rfl rfl (ob_indexAddr rfl Try.underlying39 sz5 (.tmp rfl) (.tmp rfl) g4.1 g4.2 (Nat.zero_add _)) (oc (an 4 rfl rfl rfl Av.nil) rfl rfl (ob_load rfl tk5 (.tmp rfl) (.tail _ (.head _)) (LG.arrA e_x4)) opsS_nil)))))) (out_new (i := 2) (by decide) rfl rfl (out_new (i := 5) (by decide) rfl rfl out_nil)) fun _ _ s20 => ?_
   refine qs s20 (.c1 rfl (ob_lss rfl (.tmp rfl) (.tmp rfl)) (.c1 rfl (ob_assign rfl (.tmp rfl)) (.ce (u 4 rfl .nil)))) fun _ _ s23 => wn hK10 ?_; clear s20
   have s24 := St.drop (A := []) s23; clear s23
   have s25 := St.drop (A := []) s24; clear s24
   refine wp_ret ?_
   obtain rfl := Option.some.inj h13
   exact leave s25 (.inl rfl) rfl (.cons (.tmp rfl) .nil)
  ·have h14 := ite_f hc2 h8; clear h8
   refine wp_skip ?_
   refine in_normal ?_
   refine then_normal (hK8 _ _ ?_)
   have s26 := s19.sub (u 2 rfl (u 3 rfl (u 5 rfl .nil))); clear s19
   refine wp_region_lit (qs s26 (.c1 rfl (mv rfl rfl) (.c1 rfl (ob_add rfl (.tmp rfl) (opd_int rfl)) (.c1 rfl (ob_assign rfl (.tmp rfl)) .cz))) fun _ _ s29 => ?_); clear s26
   refine wpList_nil ?_
   refine then_normal ?_
   exact hK5 (iadd .i64 y1 (1 : Int)) _ _ h14 (s29.sub (.cons rfl (.cons rfl (.cons rfl .nil))))
 ·have h15 := ite_f hc1 h3; clear h3
  refine wp_exit ?_
  refine (then_exit (then_exit (in_here ?_)))
  refine then_normal ?_
  have s30 := St.drop (A := []) s15; clear s15
  have s31 := St.drop (A := []) s30; clear s30
  exact hj1 _ _ h15 (s31.sub .nil)
theorem c_cabalref11_kind (k : Nat) (p1 : api_Op) (p2 : Bool) (r : Bool) (h0 : cabalref11_kind k p1 p2 = some r) (ok : Ok) (w0 : World) (z0 : Value) (z1 : Value) (u0 : (k_api_Op.V p1).holds ok w0 z0) (u1 : (kbool.V p2).holds ok w0 z1) :
 Gives Try.prog 130 [z0, z1] ok w0 (resFact [kbool.V r]) := by
 unfold cabalref11_kind at h0
 refine enter (N := 100) Try.func130 rfl rfl (of_decide_eq_true rfl) (.cons u0 (.cons u1 .nil)) fun a1 s1 => ?_
 refine wp_seq_k fun K1 hK1 => wp_region_lit ?_
 refine qx (B' := (fun b1 : Nat => [BF b1 44 k_api_Op p1])) s1 rfl (ob_box rfl (.tmp rfl)) fun b1 _ _ s2 => ?_; clear s1
 refine qs s2 (.c1 rfl (ob_assign rfl opd_bool) (.ce (u 1 rfl (u 2 rfl .nil)))) fun _ _ s4 => wn hK1 ?_; clear s2
 obtain ⟨x1, e_x1, h1⟩ := bind_some h0; clear h0; replace e_x1 := Option.some.inj e_x1
 refine wp_seq_k fun K2 hK2 => wp_region_lit (qs s4 (.c1 rfl (((ob_mkArr (k := (kint .u8)) rfl Try.underlying39 zz39 sz5 (Zr.arr 32 (Zr.int .u8)) (.nil _) : Ob _ _ _ _ _ ((karr 32 (kint .u8)).V ([(0 : Int), 0, 0, 0, 0, 0, 0, 0, 0, 0, 0, 0, 0, 0, 0, 0, 0, 0, 0, 0, 0, 0, 0, 0, 0, 0, 0, 0, 0, 0, 0, 0] : (List Int))))).nm e_x1) .cz) fun _ _ s5 => ?_); clear s4
 refine qx (B' := (fun b2 : Nat => [BF b2 39 (karr 32 (kint .u8)) (List.replicate 32 (0 : Int)), BF b1 44 k_api_Op p1])) s5 rfl (ob_new (k := (karr 32 (kint .u8))) rfl zz39 (Zr.arr 32 (Zr.int .u8))) fun b2 _ _ s6 => ?_; clear s5
 refine seq_opx0 (B' := (fun _ : Unit => [BF b2 39 (karr 32 (kint .u8)) x1, BF b1 44 k_api_Op p1])) s6 rfl rfl (ob_store (A := []) rfl tk39 (.tmp rfl) (.tmp rfl) rfl (LS.refl _ _ _) rfl) fun _ a7 w7 s7 => ?_; clear s6
 refine wn hK2 ?_
 have s8 := s7.sub (u 1 rfl (u 2 rfl (u 5 rfl .nil))); clear s7
 refine wp_seq_k fun K3 hK3 => wp_seq_k fun K4 hK4 => ?_
 refine wp_region_lit (qs s8 (.c1 rfl (ob_fieldAddr (off' := 3) rfl Try.underlying44 rfl sz3 (by decide) (.tmp rfl) rfl) (.c1 rfl (ob_load rfl tk3 (.tmp rfl) (.tail _ (.head _)) (lg_api_Op_Kind p1)) (.c1 rfl (ob_eql rfl (.tmp rfl) (opd_int rfl)) (.c1 rfl (mv rfl rfl) (.cg rfl rfl rfl rfl (fun hb => ob_move rfl (.tmp rfl)) (.cg rfl rfl rfl rfl (fun hb => (Ob.uncond (t := 11) hb rfl (ob_not rfl (.tmp rfl)))) (.cg rfl rfl rfl rfl (fun hb => (Ob.uncond (t := 12) hb rfl (mv rfl rfl))) .cz))))))) fun _ _ s15 => ?_); clear s8
 refine seq_opg2 s15 rfl rfl rfl rfl (of_decide_eq_true rfl) (fun hb => ob_fieldAddr (off' := 2) rfl Try.underlying44 rfl sz40 (by decide) (.tmp rfl) rfl) fun _ _ s16 => ?_; clear s15
 refine seq_opg2 s16 rfl rfl rfl rfl (of_decide_eq_true rfl) (fun hb => (Ob.uncond (t := 14) hb rfl (ob_load rfl tk40 (.tmp rfl) (.tail _ (.head _)) (lg_api_Op_Parents p1)))) fun _ _ s17 => ?_; clear s16
 refine seq_opg2 s17 rfl rfl rfl rfl (of_decide_eq_true rfl) (fun hb => (Ob.uncond (t := 15) hb rfl (ob_lens rfl Try.underlying40 (.tmp rfl)))) fun _ _ s18 => ?_; clear s17
 refine seq_opg2 s18 rfl rfl rfl rfl (of_decide_eq_true rfl) (fun hb => (Ob.uncond (t := 16) hb rfl (ob_gtr rfl (.tmp rfl) (opd_int rfl)))) fun _ _ s19 => ?_; clear s18
 obtain ⟨x2, e_x2, h2⟩ := bind_some h1; clear h1; replace e_x2 := Option.some.inj e_x2
 refine qs s19 (.cg rfl rfl rfl rfl (fun hb => (Ob.uncond (t := 13) hb rfl ((ob_or3 hb rfl (.tmp rfl) opd_bool (.tmp rfl)).nm e_x2))) (.cg rfl rfl rfl rfl (fun hb => (Ob.uncond (t := 18) hb rfl (mv rfl rfl))) .cz)) fun _ _ s21 => ?_; clear s19
 refine seq_opg2 s21 rfl rfl rfl rfl (of_decide_eq_true rfl) (fun hb => ob_fieldAddr (off' := 1) rfl Try.underlying44 rfl sz25 (by decide) (.tmp rfl) rfl) fun _ _ s22 => ?_; clear s21
 refine seq_opg2 s22 rfl rfl rfl rfl (of_decide_eq_true rfl) (fun hb => (Ob.uncond (t := 20) hb rfl (ob_load rfl tk25 (.tmp rfl) (.tail _ (.head _)) (lg_api_Op_Seq p1)))) fun _ _ s23 => ?_; clear s22
 refine seq_opg2 s23 rfl rfl rfl rfl (of_decide_eq_true rfl) (fun hb => (Ob.uncond (t := 21) hb rfl (ob_neq rfl (.tmp rfl) (opd_int rfl)))) fun _ _ s24 => ?_; clear s23
 obtain ⟨x3, e_x3, h3⟩ := bind_some h2; clear h2; replace e_x3 := Option.some.inj e_x3
 refine qs s24 (.cg rfl rfl rfl rfl (fun hb => (Ob.uncond (t := 19) hb rfl (ob_or3 hb rfl (.tmp rfl) opd_bool (.tmp rfl)))) (.c1 rfl ((ob_and2 rfl (.tmp rfl) (.tmp rfl) opd_bool).nm e_x3) (.c1 rfl (mv rfl rfl) (.cg rfl rfl rfl rfl (fun hb => ob_fieldAddr (off' := 3) rfl Try.underlying44 rfl sz3 (by decide) (.tmp rfl) rfl) (.cg rfl rfl rfl rfl (fun hb => (Ob.uncond (t := 26) hb rfl (ob_load rfl tk3 (.tmp rfl) (.tail _ (.head _)) (lg_api_Op_Kind p1)))) (.cg rfl rfl rfl rfl (fun hb => (Ob.uncond (t := 27) hb rfl (ob_neq rfl (.tmp rfl) (opd_int rfl)))) (.cg rfl rfl rfl rfl (fun hb => (Ob.uncond (t := 28) hb rfl (mv rfl rfl))) .cz))))))) fun _ _ s31 => ?_; clear s24
 refine seq_opg2 s31 rfl rfl rfl rfl (of_decide_eq_true rfl) (fun hb => ob_fieldAddr (off' := 2) rfl Try.underlying44 rfl sz40 (by decide) (.tmp rfl) rfl) fun _ _ s32 => ?_; clear s31
 refine seq_opg2 s32 rfl rfl rfl rfl (of_decide_eq_true rfl) (fun hb => (Ob.uncond (t := 30) hb rfl (ob_load rfl tk40 (.tmp rfl) (.tail _ (.head _)) (lg_api_Op_Parents p1)))) fun _ _ s33 => ?_; clear s32
 refine seq_opg2 s33 rfl rfl rfl rfl (of_decide_eq_true rfl) (fun hb => (Ob.uncond (t := 31) hb rfl (ob_lens rfl Try.underlying40 (.tmp rfl)))) fun _ _ s34 => ?_; clear s33
 refine seq_opg2 s34 rfl rfl rfl rfl (of_decide_eq_true rfl) (fun hb => (Ob.uncond (t := 32) hb rfl (ob_eql rfl (.tmp rfl) (opd_int rfl)))) fun _ _ s35 => ?_; clear s34
 obtain ⟨x4, e_x4, h4⟩ := bind_some h3; clear h3; replace e_x4 := Option.some.inj e_x4
 refine qs s35 (.cg rfl rfl rfl rfl (fun hb => (Ob.uncond (t := 29) hb rfl ((ob_and3 hb rfl (.tmp rfl) (.tmp rfl) opd_bool).nm e_x4))) (.c1 rfl (ob_or2 rfl (.tmp rfl) opd_bool (.tmp rfl)) (.ce (u 1 rfl (u 2 rfl (u 5 rfl (u 35 rfl .nil))))))) fun _ _ s38 => wn hK4 ?_; clear s35
 refine cond_split s38 (.tmp rfl) (fun hc1 => ?_) (fun hc1 => ?_)
 ·have h5 := ite_t hc1 h4; clear h4
  refine wp_seq_k fun K5 hK5 => wp_region_lit (qs s38 (.c1 rfl (ob_assign rfl opd_bool) (.ce (u 4 rfl .nil))) fun _ _ s40 => wn hK5 ?_); clear s38
  have s41 := St.drop (A := []) s40; clear s40
  have s42 := St.drop (A := []) s41; clear s41
  refine wp_ret ?_
  obtain rfl := Option.some.inj h5
  exact leave s42 (.inl rfl) rfl (.cons (.tmp rfl) .nil)
 ·have h6 := ite_f hc1 h4; clear h4
  refine wp_skip ?_
  refine then_normal (hK3 _ _ ?_)
  have s43 := s38.sub (u 1 rfl (u 2 rfl (u 5 rfl .nil))); clear s38
  refine wp_seq_k fun K6 hK6 => wp_seq_k fun K7 hK7 => ?_
  refine wp_region_lit (qs s43 (.c1 rfl (ob_fieldAddr (off' := 3) rfl Try.underlying44 rfl sz3 (by decide) (.tmp rfl) rfl) (.c1 rfl (ob_load rfl tk3 (.tmp rfl) (.tail _ (.head _)) (lg_api_Op_Kind p1)) (.c1 rfl (ob_eql rfl (.tmp rfl) (opd_int rfl)) (.c1 rfl (mv rfl rfl) (.cg rfl rfl rfl rfl (fun hb => ob_fieldAddr (off' := 3) rfl Try.underlying44 rfl sz3 (by decide) (.tmp rfl) rfl) (.cg rfl rfl rfl rfl (fun hb => (Ob.uncond (t := 40) hb rfl (ob_load rfl tk3 (.tmp rfl) (.tail _ (.head _)) (lg_api_Op_Kind p1)))) (.cg rfl rfl rfl rfl (fun hb => (Ob.uncond (t := 41) hb rfl (ob_eql rfl (.tmp rfl) (opd_int rfl)))) (.c1 rfl (ob_or2 rfl (.tmp rfl) opd_bool (.tmp rfl)) (.c1 rfl (mv rfl rfl) (.cg rfl rfl rfl rfl (fun hb => ob_move rfl (.tmp rfl)) (.cg rfl rfl rfl rfl (fun hb => (Ob.uncond (t := 45) hb rfl (mv rfl rfl))) .cz))))))))))) fun _ _ s54 => ?_); clear s43
  refine seq_opg2 s54 rfl rfl rfl rfl (of_decide_eq_true rfl) (fun hb => ob_fieldAddr (off' := 4) rfl Try.underlying44 rfl sz41 (by decide) (.tmp rfl) rfl) fun _ _ s55 => ?_; clear s54
  refine seq_opg2 s55 rfl rfl rfl rfl (of_decide_eq_true rfl) (fun hb => (Ob.uncond (t := 47) hb rfl (ob_load rfl tk41 (.tmp rfl) (.tail _ (.head _)) (lg_api_Op_Who p1)))) fun _ _ s56 => ?_; clear s55
  refine seq_opg2 s56 rfl rfl rfl rfl (of_decide_eq_true rfl) (fun hb => (Ob.uncond (t := 48) hb rfl (ob_lens rfl Try.underlying41 (.tmp rfl)))) fun _ _ s57 => ?_; clear s56
  refine seq_opg2 s57 rfl rfl rfl rfl (of_decide_eq_true rfl) (fun hb => (Ob.uncond (t := 49) hb rfl (ob_neq rfl (.tmp rfl) (opd_int rfl)))) fun _ _ s58 => ?_; clear s57
  obtain ⟨x5, e_x5, h7⟩ := bind_some h6; clear h6; replace e_x5 := Option.some.inj e_x5
  refine qs s58 (.cg rfl rfl rfl rfl (fun hb => (Ob.uncond (t := 46) hb rfl (ob_or3 hb rfl (.tmp rfl) opd_bool (.tmp rfl)))) (.c1 rfl ((ob_and2 rfl (.tmp rfl) (.tmp rfl) opd_bool).nm e_x5) (.c1 rfl (mv rfl rfl) (.cg rfl rfl rfl rfl (fun hb => ob_fieldAddr (off' := 3) rfl Try.underlying44 rfl sz3 (by decide) (.tmp rfl) rfl) (.cg rfl rfl rfl rfl (fun hb => (Ob.uncond (t := 54) hb rfl (ob_load rfl tk3 (.tmp rfl) (.tail _ (.head _)) (lg_api_Op_Kind p1)))) (.cg rfl rfl rfl rfl (fun hb => (Ob.uncond (t := 55) hb rfl (ob_gtr rfl (.tmp rfl) (opd_int rfl)))) (.cg rfl rfl rfl rfl (fun hb => (Ob.uncond (t := 56) hb rfl (mv rfl rfl))) .cz))))))) fun _ _ s65 => ?_; clear s58
  refine seq_opg2 s65 rfl rfl rfl rfl (of_decide_eq_true rfl) (fun hb => ob_fieldAddr (off' := 4) rfl Try.underlying44 rfl sz41 (by decide) (.tmp rfl) rfl) fun _ _ s66 => ?_; clear s65
  refine seq_opg2 s66 rfl rfl rfl rfl (of_decide_eq_true rfl) (fun hb => (Ob.uncond (t := 58) hb rfl (ob_load rfl tk41 (.tmp rfl) (.tail _ (.head _)) (lg_api_Op_Who p1)))) fun _ _ s67 => ?_; clear s66
  refine seq_opg2 s67 rfl rfl rfl rfl (of_decide_eq_true rfl) (fun hb => (Ob.uncond (t := 59) hb rfl (ob_lens rfl Try.underlying41 (.tmp rfl)))) fun _ _ s68 => ?_; clear s67
  refine seq_opg2 s68 rfl rfl rfl rfl (of_decide_eq_true rfl) (fun hb => (Ob.uncond (t := 60) hb rfl (ob_gtr rfl (.tmp rfl) (opd_int rfl)))) fun _ _ s69 => ?_; clear s68
  obtain ⟨x6, e_x6, h8⟩ := bind_some h7; clear h7; replace e_x6 := Option.some.inj e_x6
  refine qs s69 (.cg rfl rfl rfl rfl (fun hb => (Ob.uncond (t := 57) hb rfl ((ob_and3 hb rfl (.tmp rfl) (.tmp rfl) opd_bool).nm e_x6))) (.c1 rfl (ob_or2 rfl (.tmp rfl) opd_bool (.tmp rfl)) (.ce (u 2 rfl (u 5 rfl (u 63 rfl .nil)))))) fun _ _ s72 => wn hK7 ?_; clear s69
  refine cond_split s72 (.tmp rfl) (fun hc2 => ?_) (fun hc2 => ?_)
  ·have h9 := ite_t hc2 h8; clear h8
   refine wp_seq_k fun K8 hK8 => wp_region_lit (qs s72 (.c1 rfl (ob_assign rfl opd_bool) (.ce (u 4 rfl .nil))) fun _ _ s74 => wn hK8 ?_); clear s72
   have s75 := St.drop (A := []) s74; clear s74
   have s76 := St.drop (A := []) s75; clear s75
   refine wp_ret ?_
   obtain rfl := Option.some.inj h9
   exact leave s76 (.inl rfl) rfl (.cons (.tmp rfl) .nil)
  ·have h10 := ite_f hc2 h8; clear h8
   refine wp_skip ?_
   refine then_normal (hK6 _ _ ?_)
   have s77 := s72.sub (u 2 rfl (u 5 rfl .nil)); clear s72
   refine wp_seq_k fun K9 hK9 => wp_seq_k fun K10 hK10 => ?_
   refine wp_goes (Fs := [(ptrB b1 3), ((kint .i64).V p1.Kind), (kbool.V (p1.Kind == (5 : Int))), (kbool.V (p1.Kind == (5 : Int))), (Fact.when ((p1.Kind == (5 : Int)) == false) (ptrB b1 3)), (Fact.when ((p1.Kind == (5 : Int)) == false) ((kint .i64).V p1.Kind)), (Fact.when ((p1.Kind == (5 : Int)) == false) (kbool.V (p1.Kind == (6 : Int)))), (kbool.V (if (p1.Kind == (5 : Int)) then true else (p1.Kind == (6 : Int)))), (ptrB b1 5), ((karr 32 (kint .u8)).V p1.Of), ((karr 32 (kint .u8)).V x1), (kbool.V (decide (p1.Of = x1)))]) (bits := [0, 1, 3, 7, 15, 31, 63, 127, 0, 256, 0, 1792, 4095]) (m := 12) (todo := 0) mx s77 ?_; clear s77
   refine goes_last (by kernel_rfl) rfl (oc (av 2 rfl rfl Av.nil) rfl rfl (ob_fieldAddr (off' := 3) rfl Try.underlying44 rfl sz3 (by decide) (.tmp rfl) rfl) (oc (an 0 rfl rfl rfl Av.nil) rfl rfl (ob_load rfl tk3 (.tmp rfl) (.tail _ (.head _)) (lg_api_Op_Kind p1)) (oc (an 1 rfl rfl rfl Av.nil) rfl rfl (ob_eql rfl (.tmp rfl) (opd_int rfl)) (oc (an 2 rfl rfl rfl Av.nil) rfl rfl (mv rfl rfl) (opsS_cons (.guarded _ (av 2 rfl rfl (an 3 rfl rfl rfl Av.nil)) rfl rfl rfl rfl (fun hb => ob_fieldAddr (off' := 3) rfl Try.underlying44 rfl sz3 (by decide) (.tmp rfl) rfl)) (opsS_cons (.guarded _ (an 3 rfl rfl rfl (an 4 rfl rfl rfl Av.nil)) rfl rfl rfl rfl (fun hb => (Ob.uncond (t := 68) hb rfl (ob_load rfl tk3 (.tmp rfl) (.tail _ (.head _)) (lg_api_Op_Kind p1))))) (opsS_cons (.guarded _ (an 3 rfl rfl rfl (an 5 rfl rfl rfl Av.nil)) rfl rfl rfl rfl (fun hb => (Ob.uncond (t := 69) hb rfl (ob_eql rfl (.tmp rfl) (opd_int rfl))))) (oc (an 3 rfl rfl rfl (an 6 rfl rfl rfl Av.nil)) rfl rfl (ob_or2 rfl (.tmp rfl) opd_bool (.tmp rfl)) (oc (av 2 rfl rfl Av.nil) rfl rfl (ob_fieldAddr (off' := 5) rfl Try.underlying44 rfl sz39 (by decide) (.tmp rfl) rfl) (oc (an 8 rfl rfl rfl Av.nil) rfl rfl (ob_load rfl tk39 (.tmp rfl) (.tail _ (.head _)) (lg_api_Op_Of p1)) (oc (av 5 rfl rfl Av.nil) rfl rfl (ob_load rfl tk39 (.tmp rfl) (.head _) (LG.refl _ _)) (oc (an 9 rfl rfl rfl (an 10 rfl rfl rfl Av.nil)) rfl rfl (ob_eqAgg rfl rfl (by kernel_rfl) eq39 (by decide) (.tmp rfl) (.tmp rfl)) opsS_nil)))))))))))) (out_old (t := 2) rfl rfl (out_old (t := 5) rfl rfl (out_new (i := 7) (by decide) rfl rfl (out_new (i := 11) (by decide) rfl rfl out_nil)))) fun _ _ s78 => ?_
   obtain ⟨x7, e_x7, h11⟩ := bind_some h10; clear h10; replace e_x7 := Option.some.inj e_x7
   refine qs s78 (.c1 rfl ((ob_beql rfl Try.underlying4 (.tmp rfl) (.tmp rfl)).nm e_x7) (.ce (u 2 rfl (u 5 rfl (u 76 rfl .nil))))) fun _ _ s80 => wn hK10 ?_; clear s78
   refine cond_split s80 (.tmp rfl) (fun hc3 => ?_) (fun hc3 => ?_)
   ·have h12 := ite_t hc3 h11; clear h11
    refine wp_seq_k fun K11 hK11 => wp_region_lit (qs s80 (.c1 rfl (ob_assign rfl opd_bool) (.ce (u 4 rfl .nil))) fun _ _ s82 => wn hK11 ?_); clear s80
    have s83 := St.drop (A := []) s82; clear s82
    have s84 := St.drop (A := []) s83; clear s83
    refine wp_ret ?_
    obtain rfl := Option.some.inj h12
    exact leave s84 (.inl rfl) rfl (.cons (.tmp rfl) .nil)
   ·have h13 := ite_f hc3 h11; clear h11
    refine wp_skip ?_
    refine then_normal (hK9 _ _ ?_)
    have s85 := s80.sub (u 2 rfl (u 5 rfl .nil)); clear s80
    refine wp_seq_k fun K12 hK12 => wp_seq_k fun K13 hK13 => ?_
    refine wp_region_lit (qs s85 (.c1 rfl (ob_fieldAddr (off' := 3) rfl Try.underlying44 rfl sz3 (by decide) (.tmp rfl) rfl) (.c1 rfl (ob_load rfl tk3 (.tmp rfl) (.tail _ (.head _)) (lg_api_Op_Kind p1)) (.c1 rfl (ob_eql rfl (.tmp rfl) (opd_int rfl)) (.ce (u 2 rfl (u 5 rfl (u 79 rfl .nil))))))) fun _ _ s89 => wn hK13 ?_); clear s85
    refine cond_split s89 (.tmp rfl) (fun hc4 => ?_) (fun hc4 => ?_)
    ·have h14 := ite_t hc4 h13; clear h13
     obtain ⟨x8, e_x8, h15⟩ := bind_some h14; clear h14; replace e_x8 := Option.some.inj e_x8
     refine wp_seq_k fun K14 hK14 => wp_region_lit (qs s89 (.c1 rfl (ob_fieldAddr (off' := 37) rfl Try.underlying44 rfl sz39 (by decide) (.tmp rfl) rfl) (.c1 rfl (ob_load rfl tk39 (.tmp rfl) (.tail _ (.head _)) (lg_api_Op_Check p1)) (.c1 rfl (ob_load rfl tk39 (.tmp rfl) (.head _) (LG.refl _ _)) (.c1 rfl (ob_eqAgg rfl rfl (by kernel_rfl) eq39 (by decide) (.tmp rfl) (.tmp rfl)) (.c1 rfl (mv rfl rfl) (.cg rfl rfl rfl rfl (fun hb => ob_fieldAddr (off' := 69) rfl Try.underlying44 rfl sz9 (by decide) (.tmp rfl) rfl) (.cg rfl rfl rfl rfl (fun hb => (Ob.uncond (t := 85) hb rfl (ob_load rfl tk9 (.tmp rfl) (.tail _ (.head _)) (lg_api_Op_Text p1)))) (.cg rfl rfl rfl rfl (fun hb => (Ob.uncond (t := 86) hb rfl (ob_lenStr rfl Try.underlying9 (.tmp rfl)))) (.cg rfl rfl rfl rfl (fun hb => (Ob.uncond (t := 87) hb rfl (ob_gtr rfl (.tmp rfl) (opd_int rfl)))) (.c1 rfl ((ob_and2 rfl (.tmp rfl) (.tmp rfl) opd_bool).nm e_x8) (.c1 rfl (ob_assign rfl (.tmp rfl)) (.ce (u 4 rfl .nil))))))))))))) fun _ _ s101 => wn hK14 ?_); clear s89
     have s102 := St.drop (A := []) s101; clear s101
     have s103 := St.drop (A := []) s102; clear s102
     refine wp_ret ?_
     obtain rfl := Option.some.inj h15
     exact leave s103 (.inl rfl) rfl (.cons (.tmp rfl) .nil)
    ·have h16 := ite_f hc4 h13; clear h13
     refine wp_skip ?_
     refine then_normal (hK12 _ _ ?_)
     have s104 := s89.sub (u 2 rfl (u 5 rfl .nil)); clear s89
     obtain ⟨x9, e_x9, h17⟩ := bind_some h16; clear h16; replace e_x9 := Option.some.inj e_x9
     refine wp_seq_k fun K15 hK15 => wp_region_lit (qs s104 (.c1 rfl (ob_fieldAddr (off' := 37) rfl Try.underlying44 rfl sz39 (by decide) (.tmp rfl) rfl) (.c1 rfl (ob_load rfl tk39 (.tmp rfl) (.tail _ (.head _)) (lg_api_Op_Check p1)) (.c1 rfl (ob_load rfl tk39 (.tmp rfl) (.head _) (LG.refl _ _)) (.c1 rfl (ob_neqAgg rfl rfl (by kernel_rfl) eq39 (by decide) (.tmp rfl) (.tmp rfl)) (.c1 rfl (mv rfl rfl) (.cg rfl rfl rfl rfl (fun hb => ob_fieldAddr (off' := 69) rfl Try.underlying44 rfl sz9 (by decide) (.tmp rfl) rfl) (.cg rfl rfl rfl rfl (fun hb => (Ob.uncond (t := 95) hb rfl (ob_load rfl tk9 (.tmp rfl) (.tail _ (.head _)) (lg_api_Op_Text p1)))) (.cg rfl rfl rfl rfl (fun hb => (Ob.uncond (t := 96) hb rfl (ob_lenStr rfl Try.underlying9 (.tmp rfl)))) (.cg rfl rfl rfl rfl (fun hb => (Ob.uncond (t := 97) hb rfl (ob_eql rfl (.tmp rfl) (opd_int rfl)))) (.c1 rfl ((ob_and2 rfl (.tmp rfl) (.tmp rfl) opd_bool).nm e_x9) (.c1 rfl (ob_assign rfl (.tmp rfl)) (.ce (u 4 rfl .nil))))))))))))) fun _ _ s116 => wn hK15 ?_); clear s104
     have s117 := St.drop (A := []) s116; clear s116
     have s118 := St.drop (A := []) s117; clear s117
     refine wp_ret ?_
     obtain rfl := Option.some.inj h17
     exact leave s118 (.inl rfl) rfl (.cons (.tmp rfl) .nil)
theorem c_cabalref11_Right (k : Nat) (p1 : api_Op) (r : Bool) (h0 : cabalref11_Right k p1 = some r) (ok : Ok) (w0 : World) (z0 : Value) (u0 : (k_api_Op.V p1).holds ok w0 z0) :
 Gives Try.prog 85 [z0] ok w0 (resFact [kbool.V r]) := by
 unfold cabalref11_Right at h0
 refine enter (N := 156) Try.func85 rfl rfl (of_decide_eq_true rfl) (.cons u0 .nil) fun a1 s1 => ?_
 refine wp_seq_k fun K1 hK1 => wp_region_lit ?_
 refine qx (B' := (fun b1 : Nat => [BF b1 44 k_api_Op p1])) s1 rfl (ob_box rfl (.tmp rfl)) fun b1 _ _ s2 => ?_; clear s1
 refine qs s2 (.c1 rfl (ob_assign rfl opd_bool) (.ce (u 1 rfl .nil))) fun _ _ s4 => wn hK1 ?_; clear s2
 refine wp_seq_k fun K2 hK2 => wp_seq_k fun K3 hK3 => ?_
 obtain ⟨x1, e_x1, h1⟩ := bind_some h0; clear h0
 obtain ⟨x2, e_x2, h2⟩ := bind_some h1; clear h1; replace e_x2 := Option.some.inj e_x2
 obtain ⟨x3, e_x3, h3⟩ := bind_some h2; clear h2; replace e_x3 := Option.some.inj e_x3
 obtain ⟨x4, e_x4, h4⟩ := bind_some h3; clear h3; replace e_x4 := Option.some.inj e_x4
 refine wp_region_lit (qs s4 (.c1 rfl (ob_fieldAddr (off' := 0) rfl Try.underlying44 rfl sz3 (by decide) (.tmp rfl) rfl) (.c1 rfl (ob_load rfl tk3 (.tmp rfl) (.head _) (lg_api_Op_Author p1)) (.c1 rfl (ob_callD0 (args := [_]) rfl .direct hb129 (fun a w s => by exact c_cabalref11_Member k _ _ e_x1 _ _ _ (s.arg (.tmp rfl)))) (.c1 rfl (ob_not rfl (.tmp rfl)) (.c1 rfl (mv rfl rfl) (.cg rfl rfl rfl rfl (fun hb => ob_fieldAddr (off' := 1) rfl Try.underlying44 rfl sz25 (by decide) (.tmp rfl) rfl) (.cg rfl rfl rfl rfl (fun hb => (Ob.uncond (t := 13) hb rfl (ob_load rfl tk25 (.tmp rfl) (.head _) (lg_api_Op_Seq p1)))) (.cg rfl rfl rfl rfl (fun hb => (Ob.uncond (t := 14) hb rfl (ob_eql rfl (.tmp rfl) (opd_int rfl)))) (.c1 rfl (ob_or2 rfl (.tmp rfl) opd_bool (.tmp rfl)) (.c1 rfl (mv rfl rfl) (.cg rfl rfl rfl rfl (fun hb => ob_fieldAddr (off' := 3) rfl Try.underlying44 rfl sz3 (by decide) (.tmp rfl) rfl) (.cg rfl rfl rfl rfl (fun hb => (Ob.uncond (t := 18) hb rfl (ob_load rfl tk3 (.tmp rfl) (.head _) (lg_api_Op_Kind p1)))) (.cg rfl rfl rfl rfl (fun hb => (Ob.uncond (t := 19) hb rfl (ob_lss rfl (.tmp rfl) (opd_int rfl)))) (.c1 rfl ((ob_or2 rfl (.tmp rfl) opd_bool (.tmp rfl)).nm e_x2) (.c1 rfl (mv rfl rfl) (.cg rfl rfl rfl rfl (fun hb => ob_fieldAddr (off' := 3) rfl Try.underlying44 rfl sz3 (by decide) (.tmp rfl) rfl) (.cg rfl rfl rfl rfl (fun hb => (Ob.uncond (t := 23) hb rfl (ob_load rfl tk3 (.tmp rfl) (.head _) (lg_api_Op_Kind p1)))) (.cg rfl rfl rfl rfl (fun hb => (Ob.uncond (t := 24) hb rfl (ob_gtr rfl (.tmp rfl) (opd_int rfl)))) (.c1 rfl (ob_or2 rfl (.tmp rfl) opd_bool (.tmp rfl)) (.c1 rfl (mv rfl rfl) (.cg rfl rfl rfl rfl (fun hb => ob_fieldAddr (off' := 2) rfl Try.underlying44 rfl sz40 (by decide) (.tmp rfl) rfl) (.cg rfl rfl rfl rfl (fun hb => (Ob.uncond (t := 28) hb rfl (ob_load rfl tk40 (.tmp rfl) (.head _) (lg_api_Op_Parents p1)))) (.cg rfl rfl rfl rfl (fun hb => (Ob.uncond (t := 29) hb rfl (ob_lens rfl Try.underlying40 (.tmp rfl)))) (.cg rfl rfl rfl rfl (fun hb => (Ob.uncond (t := 30) hb rfl (ob_gtr rfl (.tmp rfl) (opd_int rfl)))) (.c1 rfl ((ob_or2 rfl (.tmp rfl) opd_bool (.tmp rfl)).nm e_x3) (.c1 rfl (mv rfl rfl) (.cg rfl rfl rfl rfl (fun hb => ob_fieldAddr (off' := 70) rfl Try.underlying44 rfl sz42 (by decide) (.tmp rfl) rfl) (.cg rfl rfl rfl rfl (fun hb => (Ob.uncond (t := 34) hb rfl (ob_load rfl tk42 (.tmp rfl) (.head _) (lg_api_Op_Boxes p1)))) (.cg rfl rfl rfl rfl (fun hb => (Ob.uncond (t := 35) hb rfl (ob_lens rfl Try.underlying42 (.tmp rfl)))) (.cg rfl rfl rfl rfl (fun hb => (Ob.uncond (t := 36) hb rfl (ob_gtr rfl (.tmp rfl) (opd_int rfl)))) (.c1 rfl (ob_or2 rfl (.tmp rfl) opd_bool (.tmp rfl)) (.c1 rfl (mv rfl rfl) (.cg rfl rfl rfl rfl (fun hb => ob_fieldAddr (off' := 69) rfl Try.underlying44 rfl sz9 (by decide) (.tmp rfl) rfl) (.cg rfl rfl rfl rfl (fun hb => (Ob.uncond (t := 40) hb rfl (ob_load rfl tk9 (.tmp rfl) (.head _) (lg_api_Op_Text p1)))) (.cg rfl rfl rfl rfl (fun hb => (Ob.uncond (t := 41) hb rfl (ob_lenStr rfl Try.underlying9 (.tmp rfl)))) (.cg rfl rfl rfl rfl (fun hb => (Ob.uncond (t := 42) hb rfl (ob_gtr rfl (.tmp rfl) (opd_int rfl)))) (.c1 rfl ((ob_or2 rfl (.tmp rfl) opd_bool (.tmp rfl)).nm e_x4) (.ce (u 1 rfl (u 44 rfl .nil)))))))))))))))))))))))))))))))))))))))) fun _ _ s42 => wn hK3 ?_); clear s4
 refine cond_split s42 (.tmp rfl) (fun hc1 => ?_) (fun hc1 => ?_)
 ·have h5 := ite_t hc1 h4; clear h4
  refine wp_seq_k fun K4 hK4 => wp_region_lit (qs s42 (.c1 rfl (ob_assign rfl opd_bool) (.ce (u 2 rfl .nil))) fun _ _ s44 => wn hK4 ?_); clear s42
  have s45 := St.drop (A := []) s44; clear s44
  refine wp_ret ?_
  obtain rfl := Option.some.inj h5
  exact leave s45 (.inl rfl) rfl (.cons (.tmp rfl) .nil)
 ·have h6 := ite_f hc1 h4; clear h4
  refine wp_skip ?_
  refine then_normal (hK2 _ _ ?_)
  have s46 := s42.sub (u 1 rfl .nil); clear s42
  refine wp_seq_k fun K5 hK5 => wp_seq_k fun K6 hK6 => ?_
  refine wp_region_lit (qs s46 (.c1 rfl (ob_assign rfl (opd_int rfl)) (.ce (u 1 rfl (u 3 rfl .nil)))) fun _ _ s48 => wn hK6 ?_); clear s46
  have hj1 : ∀ (a : Act) (w : World), (cabalref11_Right.j1 k p1) = some r → St ⟨156, w0, ok, []⟩ [BF b1 44 k_api_Op p1] [(1, (ptrB b1 0))] a w → K5 a w := by
   intro a49 w49 h7 s49
   unfold cabalref11_Right.j1 at h7
   refine hK5 _ _ ?_
   refine wp_seq_k fun K7 hK7 => wp_region_lit (qs s49 (.c1 rfl (ob_assign rfl opd_bool) (.ce (u 1 rfl (u 4 rfl .nil)))) fun _ _ s51 => wn hK7 ?_); clear s49
   refine wp_seq_k fun K8 hK8 => wp_seq_k fun K9 hK9 => ?_
   refine wp_region_lit (qs s51 (.c1 rfl (ob_assign rfl (opd_int rfl)) (.ce (u 1 rfl (u 4 rfl (u 5 rfl .nil))))) fun _ _ s53 => wn hK9 ?_); clear s51
   have hj2 : ∀ (y1 : Bool) (a : Act) (w : World), (cabalref11_Right.j2 k p1) y1 = some r → St ⟨156, w0, ok, []⟩ [BF b1 44 k_api_Op p1] [(1, (ptrB b1 0)), (4, (kbool.V y1))] a w → K8 a w := by
    intro y1 a54 w54 h8 s54
    unfold cabalref11_Right.j2 at h8
    refine hK8 _ _ ?_
    refine wp_seq_k fun K10 hK10 => wp_seq_k fun K11 hK11 => ?_
    refine wp_region_lit (qs s54 (.c1 rfl (ob_assign rfl (opd_int rfl)) (.ce (u 1 rfl (u 4 rfl (u 6 rfl .nil))))) fun _ _ s56 => wn hK11 ?_); clear s54
    have hj3 : ∀ (a : Act) (w : World), (cabalref11_Right.j3 k p1 y1) = some r → St ⟨156, w0, ok, []⟩ [BF b1 44 k_api_Op p1] [(1, (ptrB b1 0)), (4, (kbool.V y1))] a w → K10 a w := by
     intro a57 w57 h9 s57
     unfold cabalref11_Right.j3 at h9
     refine hK10 _ _ ?_
     obtain ⟨x5, e_x5, h10⟩ := bind_some h9; clear h9
     refine wp_seq_k fun K12 hK12 => wp_region_lit (qs s57 (.c1 rfl (ob_load rfl tk44 (.tmp rfl) (.head _) (LG.refl _ _)) (.c1 rfl (mv rfl rfl) (.c1 rfl (ob_callD0 (args := [_, _]) rfl .direct hb130 (fun a w s => by exact c_cabalref11_kind k _ _ _ e_x5 _ _ _ _ (s.arg (.tmp rfl)) (s.arg (.tmp rfl)))) (.c1 rfl (ob_assign rfl (.tmp rfl)) (.ce (u 2 rfl .nil)))))) fun _ _ s62 => wn hK12 ?_); clear s57
     have s63 := St.drop (A := []) s62; clear s62
     refine wp_ret ?_
     obtain rfl := Option.some.inj h10
     exact leave s63 (.inl rfl) rfl (.cons (.tmp rfl) .nil)
    refine wp_block ?_
    refine wp_loop_fuel (fun m (q : Int) => cabalref11_Right.l1 k p1 y1 m q) r (fun _ => rfl) (fun q a w => St ⟨156, w0, ok, []⟩ [BF b1 44 k_api_Op p1] [(1, (ptrB b1 0)), (4, (kbool.V y1)), (6, ((kint .i64).V q))] a w) ?_ k (0 : Int) _ _ h8 (s56.sub (.cons rfl (.cons rfl (.cons rfl .nil))))
    rintro n1 y2 a64 w64 h11 s64 K13 hK13
    replace h11 : cabalref11_Right.l1 k p1 y1 (n1 + 1) y2 = some r := h11; rw [cabalref11_Right.l1] at h11
    have h12 := h11; clear h11
    refine wp_seq_k fun K14 hK14 => wp_seq_k fun K15 hK15 => ?_
    refine wp_region_lit (qs s64 (.c1 rfl (mv rfl rfl) (.c1 rfl (ob_fieldAddr (off' := 70) rfl Try.underlying44 rfl sz42 (by decide) (.tmp rfl) rfl) (.c1 rfl (ob_load rfl tk42 (.tmp rfl) (.head _) (lg_api_Op_Boxes p1)) (.c1 rfl (ob_lens rfl Try.underlying42 (.tmp rfl)) (.c1 rfl (ob_lss rfl (.tmp rfl) (.tmp rfl)) (.ce (u 1 rfl (u 4 rfl (u 6 rfl (u 112 rfl .nil)))))))))) fun _ _ s70 => wn hK15 ?_); clear s64
    refine cond_split s70 (.tmp rfl) (fun hc2 => ?_) (fun hc2 => ?_)
    ·have h13 := ite_t hc2 h12; clear h12
     refine wp_skip ?_
     refine then_normal (hK14 _ _ ?_)
     have s71 := s70.sub (u 1 rfl (u 4 rfl (u 6 rfl .nil))); clear s70
     refine wp_seq_k fun K16 hK16 => wp_block ?_
     obtain ⟨x6, e_x6, h14⟩ := bind_some h13; clear h13
     refine wp_seq_k fun K17 hK17 => wp_region_lit (qs s71 (.c1 rfl (ob_fieldAddr (off' := 70) rfl Try.underlying44 rfl sz42 (by decide) (.tmp rfl) rfl) (.c1 rfl (ob_load rfl tk42 (.tmp rfl) (.head _) (lg_api_Op_Boxes p1)) (.c1 rfl (mv rfl rfl) (.c1 rfl (ob_indexAddrs rfl Try.underlying42 sz78 (.tmp rfl) (.tmp rfl) e_x6) (.c1 rfl (ob_loadr rfl tk78 (.tmp rfl)) .cz))))) fun _ _ s76 => ?_); clear s71
     refine qx (B' := (fun b2 : Nat => [BF b2 78 k_api_Box (⟨(0 : Int), (⟨(List.replicate 32 (0 : Int)), (0 : Int), (0 : Int)⟩ : api_Head), []⟩ : api_Box), BF b1 44 k_api_Op p1])) s76 rfl (ob_new (k := k_api_Box) rfl zz78 (Zr.iso (f := t_api_Box) (x := (⟨(0 : Int), (⟨(List.replicate 32 (0 : Int)), (0 : Int), (0 : Int)⟩ : api_Head), []⟩ : api_Box)) (Zr.pair (Zr.int .i64) (Zr.pair (Zr.iso (f := t_api_Head) (x := (⟨(List.replicate 32 (0 : Int)), (0 : Int), (0 : Int)⟩ : api_Head)) (Zr.pair (Zr.arr 32 (Zr.int .u8)) (Zr.pair (Zr.int .u32) (Zr.pair (Zr.int .u32) Zr.nil)))) (Zr.pair Zr.str Zr.nil))))) fun b2 _ _ s77 => ?_; clear s76
     refine seq_opx0 (B' := (fun _ : Unit => [BF b2 78 k_api_Box x6, BF b1 44 k_api_Op p1])) s77 rfl rfl (ob_store (A := []) rfl tk78 (.tmp rfl) (.tmp rfl) rfl (LS.refl _ _ _) rfl) fun _ a78 w78 s78 => ?_; clear s77
     refine wn hK17 ?_
     have s79 := s78.sub (u 1 rfl (u 4 rfl (u 6 rfl (u 7 rfl .nil)))); clear s78
     refine wp_seq_k fun K18 hK18 => ?_
     obtain ⟨x7, e_x7, h15⟩ := bind_some h14; clear h14
     obtain ⟨x8, e_x8, h16⟩ := bind_some h15; clear h15; replace e_x8 := Option.some.inj e_x8
     obtain ⟨x9, e_x9, h17⟩ := bind_some h16; clear h16
     refine wp_goes (Fs := [(ptrB b2 0), ((kint .i64).V x6.To), (kbool.V x7), (kbool.V (!x7)), (kbool.V (!x7)), (Fact.when ((!x7) == false) (ptrB b2 0)), (Fact.when ((!x7) == false) ((kint .i64).V x6.To)), (Fact.when ((!x7) == false) (ptrB b1 0)), (Fact.when ((!x7) == false) ((kint .i64).V p1.Author)), (Fact.when ((!x7) == false) (kbool.V (x6.To == p1.Author))), (kbool.V (if (!x7) then true else (x6.To == p1.Author))), (kbool.V (if (!x7) then true else (x6.To == p1.Author))), (Fact.when ((if (!x7) then true else (x6.To == p1.Author)) == false) (ptrB b2 35)), (Fact.when ((if (!x7) then true else (x6.To == p1.Author)) == false) (kstr.V x6.Body)), (Fact.when ((if (!x7) then true else (x6.To == p1.Author)) == false) ((kint .i64).V (x6.Body.length : Int))), (Fact.when ((if (!x7) then true else (x6.To == p1.Author)) == false) (kbool.V (decide ((x6.Body.length : Int) > (256 : Int))))), (kbool.V x8), (kbool.V x8), (Fact.when (x8 == false) ((kint .i64).V y2)), (Fact.when (x8 == false) (kbool.V (decide (y2 > (0 : Int))))), (Fact.when (x8 == false) (kbool.V (decide (y2 > (0 : Int))))), (Fact.when ((x8 == false) && ((decide (y2 > (0 : Int))) == true)) (ptrB b1 70)), (Fact.when ((x8 == false) && ((decide (y2 > (0 : Int))) == true)) ((ksl k_api_Box).V p1.Boxes)), (Fact.when ((x8 == false) && ((decide (y2 > (0 : Int))) == true)) ((kint .i64).V y2)), (Fact.when ((x8 == false) && ((decide (y2 > (0 : Int))) == true)) ((kint .i64).V (isub .i64 y2 (1 : Int)))), (Fact.when ((x8 == false) && ((decide (y2 > (0 : Int))) == true)) (ptrTo k_api_Box x9)), (Fact.when ((x8 == false) && ((decide (y2 > (0 : Int))) == true)) (ptrTo (kint .i64) x9.To)), (Fact.when ((x8 == false) && ((decide (y2 > (0 : Int))) == true)) ((kint .i64).V x9.To)), (Fact.when ((x8 == false) && ((decide (y2 > (0 : Int))) == true)) (ptrB b2 0)), (Fact.when ((x8 == false) && ((decide (y2 > (0 : Int))) == true)) ((kint .i64).V x6.To))]) (bits := [0, 1, 3, 7, 15, 31, 63, 31, 159, 511, 1023, 2047, 4095, 8191, 16383, 32767, 65535, 131071, 262143, 524287, 1048575, 2097151, 4194303, 2097151, 10485759, 33554431, 67108863, 134217727, 2097151, 270532607, 1073741823, 2147483647, 4294967295]) (m := 30) (todo := 0) mx s79 ?_; clear s79
     refine goes_last (by kernel_rfl) rfl (oc (av 7 rfl rfl Av.nil) rfl rfl (ob_fieldAddr (off' := 0) rfl Try.underlying78 rfl sz3 (by decide) (.tmp rfl) rfl) (oc (an 0 rfl rfl rfl Av.nil) rfl rfl (ob_load rfl tk3 (.tmp rfl) (.head _) (lg_api_Box_To x6)) (oc (an 1 rfl rfl rfl Av.nil) rfl rfl (ob_callD0 (args := [_]) rfl .direct hb129 (fun a w s => by exact c_cabalref11_Member k _ _ e_x7 _ _ _ (s.arg (.tmp rfl)))) (oc (an 2 rfl rfl rfl Av.nil) rfl rfl (ob_not rfl (.tmp rfl)) (oc (an 3 rfl rfl rfl Av.nil) rfl rfl (mv rfl rfl) (opsS_cons (.guarded _ (av 7 rfl rfl (an 4 rfl rfl rfl Av.nil)) rfl rfl rfl rfl (fun hb => ob_fieldAddr (off' := 0) rfl Try.underlying78 rfl sz3 (by decide) (.tmp rfl) rfl)) (opsS_cons (.guarded _ (an 4 rfl rfl rfl (an 5 rfl rfl rfl Av.nil)) rfl rfl rfl rfl (fun hb => (Ob.uncond (t := 125) hb rfl (ob_load rfl tk3 (.tmp rfl) (.head _) (lg_api_Box_To x6))))) (opsS_cons (.guarded _ (av 1 rfl rfl (an 4 rfl rfl rfl Av.nil)) rfl rfl rfl rfl (fun hb => ob_fieldAddr (off' := 0) rfl Try.underlying44 rfl sz3 (by decide) (.tmp rfl) rfl)) (opsS_cons (.guarded _ (an 4 rfl rfl rfl (an 7 rfl rfl rfl Av.nil)) rfl rfl rfl rfl (fun hb => (Ob.uncond (t := 127) hb rfl (ob_load rfl tk3 (.tmp rfl) (.tail _ (.head _)) (lg_api_Op_Author p1))))) (opsS_cons (.guarded _ (an 4 rfl rfl rfl (an 6 rfl rfl rfl (an 8 rfl rfl rfl Av.nil))) rfl rfl rfl rfl (fun hb => (Ob.uncond (t := 128) hb rfl ((Ob.uncond (t := 126) hb rfl (ob_eql rfl (.tmp rfl) (.tmp rfl))))))) (oc (an 4 rfl rfl rfl (an 9 rfl rfl rfl Av.nil)) rfl rfl (ob_or2 rfl (.tmp rfl) opd_bool (.tmp rfl)) (oc (an 10 rfl rfl rfl Av.nil) rfl rfl (mv rfl rfl) (opsS_cons (.guarded _ (av 7 rfl rfl (an 11 rfl rfl rfl Av.nil)) rfl rfl rfl rfl (fun hb => ob_fieldAddr (off' := 35) rfl Try.underlying78 rfl sz9 (by decide) (.tmp rfl) rfl)) (opsS_cons (.guarded _ (an 11 rfl rfl rfl (an 12 rfl rfl rfl Av.nil)) rfl rfl rfl rfl (fun hb => (Ob.uncond (t := 132) hb rfl (ob_load rfl tk9 (.tmp rfl) (.head _) (lg_api_Box_Body x6))))) (opsS_cons (.guarded _ (an 11 rfl rfl rfl (an 13 rfl rfl rfl Av.nil)) rfl rfl rfl rfl (fun hb => (Ob.uncond (t := 133) hb rfl (ob_lenStr rfl Try.underlying9 (.tmp rfl))))) (opsS_cons (.guarded _ (an 11 rfl rfl rfl (an 14 rfl rfl rfl Av.nil)) rfl rfl rfl rfl (fun hb => (Ob.uncond (t := 134) hb rfl (ob_gtr rfl (.tmp rfl) (opd_int rfl))))) (oc (an 11 rfl rfl rfl (an 15 rfl rfl rfl Av.nil)) rfl rfl ((ob_or2 rfl (.tmp rfl) opd_bool (.tmp rfl)).nm e_x8) (oc (an 16 rfl rfl rfl Av.nil) rfl rfl (mv rfl rfl) (opsS_cons (.guarded _ (av 6 rfl rfl (an 17 rfl rfl rfl Av.nil)) rfl rfl rfl rfl (fun hb => ob_move rfl (.tmp rfl))) (opsS_cons (.guarded _ (an 17 rfl rfl rfl (an 18 rfl rfl rfl Av.nil)) rfl rfl rfl rfl (fun hb => (Ob.uncond (t := 138) hb rfl (ob_gtr rfl (.tmp rfl) (opd_int rfl))))) (opsS_cons (.guarded _ (an 17 rfl rfl rfl (an 19 rfl rfl rfl Av.nil)) rfl rfl rfl rfl (fun hb => (Ob.uncond (t := 139) hb rfl (mv rfl rfl)))) (opsS_cons (.guarded2 _ (av 1 rfl rfl (an 20 rfl rfl rfl Av.nil)) rfl rfl rfl rfl (fun hb => ob_fieldAddr (off' := 70) rfl Try.underlying44 rfl sz42 (by decide) (.tmp rfl) rfl)) (opsS_cons (.guarded2 _ (an 20 rfl rfl rfl (an 21 rfl rfl rfl Av.nil)) rfl rfl rfl rfl (fun hb => (Ob.uncond (t := 141) hb rfl (ob_load rfl tk42 (.tmp rfl) (.tail _ (.head _)) (lg_api_Op_Boxes p1))))) (opsS_cons (.guarded2 _ (av 6 rfl rfl (an 20 rfl rfl rfl Av.nil)) rfl rfl rfl rfl (fun hb => ob_move rfl (.tmp rfl))) (opsS_cons (.guarded2 _ (an 20 rfl rfl rfl (an 23 rfl rfl rfl Av.nil)) rfl rfl rfl rfl (fun hb => (Ob.uncond (t := 143) hb rfl (ob_sub rfl (.tmp rfl) (opd_int rfl))))) (opsS_cons (.guarded2 _ (an 20 rfl rfl rfl (an 22 rfl rfl rfl (an 24 rfl rfl rfl Av.nil))) rfl rfl rfl rfl (fun hb => (Ob.uncond (t := 144) hb rfl ((Ob.uncond (t := 142) hb rfl (ob_indexAddrs rfl Try.underlying42 sz78 (.tmp rfl) (.tmp rfl) (ite_t hb e_x9))))))) (opsS_cons (.guarded2 _ (an 20 rfl rfl rfl (an 25 rfl rfl rfl Av.nil)) rfl rfl rfl rfl (fun hb => (Ob.uncond (t := 145) hb rfl (ob_fieldAddrr rfl Try.underlying78 rfl sz3 (by decide) (.tmp rfl) (lg_api_Box_To x9))))) (opsS_cons (.guarded2 _ (an 20 rfl rfl rfl (an 26 rfl rfl rfl Av.nil)) rfl rfl rfl rfl (fun hb => (Ob.uncond (t := 146) hb rfl (ob_loadr rfl tk3 (.tmp rfl))))) (opsS_cons (.guarded2 _ (av 7 rfl rfl (an 20 rfl rfl rfl Av.nil)) rfl rfl rfl rfl (fun hb => ob_fieldAddr (off' := 0) rfl Try.underlying78 rfl sz3 (by decide) (.tmp rfl) rfl)) (opsS_cons (.guarded2 _ (an 20 rfl rfl rfl (an 28 rfl rfl rfl Av.nil)) rfl rfl rfl rfl (fun hb => (Ob.uncond (t := 148) hb rfl (ob_load rfl tk3 (.tmp rfl) (.head _) (lg_api_Box_To x6))))) opsS_nil)))))))))))))))))))))))))))))) (out_old (t := 1) rfl rfl (out_old (t := 4) rfl rfl (out_old (t := 6) rfl rfl (out_new (i := 17) (by decide) rfl rfl (out_new (i := 20) (by decide) rfl rfl (out_new (i := 27) (by decide) rfl rfl (out_new (i := 29) (by decide) rfl rfl out_nil))))))) fun _ _ s80 => ?_
     refine seq_opg2 s80 rfl rfl rfl rfl (of_decide_eq_true rfl) (fun hb => (Ob.uncond (t := 149) hb rfl ((Ob.uncond (t := 147) hb rfl (ob_geq rfl (.tmp rfl) (.tmp rfl)))))) fun _ _ s81 => ?_; clear s80
     obtain ⟨x10, e_x10, h18⟩ := bind_some h17; clear h17; replace e_x10 := Option.some.inj e_x10
     refine qs s81 (.cg rfl rfl rfl rfl (fun hb => (Ob.uncond (t := 140) hb rfl ((ob_and3 hb rfl (.tmp rfl) (.tmp rfl) opd_bool).nm e_x10))) (.c1 rfl (ob_or2 rfl (.tmp rfl) opd_bool (.tmp rfl)) (.ce (u 1 rfl (u 4 rfl (u 6 rfl (u 152 rfl .nil))))))) fun _ _ s84 => wn hK18 ?_; clear s81
     have s85 := St.drop (A := []) s84; clear s84
     refine cond_split s85 (.tmp rfl) (fun hc3 => ?_) (fun hc3 => ?_)
     ·have h19 := ite_t hc3 h18; clear h18
      refine wp_seq_k fun K19 hK19 => wp_region_lit (qs s85 (.c1 rfl (ob_assign rfl opd_bool) (.ce (u 2 rfl .nil))) fun _ _ s87 => wn hK19 ?_); clear s85
      have s88 := St.drop (A := []) s87; clear s87
      refine wp_ret ?_
      obtain rfl := Option.some.inj h19
      exact leave s88 (.inl rfl) rfl (.cons (.tmp rfl) .nil)
     ·have h20 := ite_f hc3 h18; clear h18
      refine wp_skip ?_
      refine in_normal ?_
      refine then_normal (hK16 _ _ ?_)
      have s89 := s85.sub (u 1 rfl (u 4 rfl (u 6 rfl .nil))); clear s85
      refine wp_region_lit (qs s89 (.c1 rfl (mv rfl rfl) (.c1 rfl (ob_add rfl (.tmp rfl) (opd_int rfl)) (.c1 rfl (ob_assign rfl (.tmp rfl)) .cz))) fun _ _ s92 => ?_); clear s89
      refine wpList_nil ?_
      refine then_normal ?_
      exact hK13 (iadd .i64 y2 (1 : Int)) _ _ h20 (s92.sub (.cons rfl (.cons rfl (.cons rfl .nil))))
    ·have h21 := ite_f hc2 h12; clear h12
     refine wp_exit ?_
     refine (then_exit (then_exit (in_here ?_)))
     refine then_normal ?_
     exact hj3 _ _ h21 (s70.sub (.cons rfl (.cons rfl .nil)))
   refine wp_block ?_
   refine wp_loop_fuel (fun m (q : Bool × Int) => cabalref11_Right.l2 k p1 m q.1 q.2) r (fun _ => rfl) (fun q a w => St ⟨156, w0, ok, []⟩ [BF b1 44 k_api_Op p1] [(1, (ptrB b1 0)), (4, (kbool.V q.1)), (5, ((kint .i64).V q.2))] a w) ?_ k (false, (0 : Int)) _ _ h7 (s53.sub (.cons rfl (.cons rfl (.cons rfl .nil))))
   rintro n2 ⟨y3, y4⟩ a93 w93 h22 s93 K20 hK20
   replace h22 : cabalref11_Right.l2 k p1 (n2 + 1) y3 y4 = some r := h22; rw [cabalref11_Right.l2] at h22
   have h23 := h22; clear h22
   refine wp_seq_k fun K21 hK21 => wp_seq_k fun K22 hK22 => ?_
   refine wp_region_lit (qs s93 (.c1 rfl (mv rfl rfl) (.c1 rfl (ob_fieldAddr (off' := 4) rfl Try.underlying44 rfl sz41 (by decide) (.tmp rfl) rfl) (.c1 rfl (ob_load rfl tk41 (.tmp rfl) (.head _) (lg_api_Op_Who p1)) (.c1 rfl (ob_lens rfl Try.underlying41 (.tmp rfl)) (.c1 rfl (ob_lss rfl (.tmp rfl) (.tmp rfl)) (.ce (u 1 rfl (u 4 rfl (u 5 rfl (u 69 rfl .nil)))))))))) fun _ _ s99 => wn hK22 ?_); clear s93
   refine cond_split s99 (.tmp rfl) (fun hc4 => ?_) (fun hc4 => ?_)
   ·have h24 := ite_t hc4 h23; clear h23
    refine wp_skip ?_
    refine then_normal (hK21 _ _ ?_)
    have s100 := s99.sub (u 1 rfl (u 4 rfl (u 5 rfl .nil))); clear s99
    refine wp_seq_k fun K23 hK23 => wp_block ?_
    refine wp_seq_k fun K24 hK24 => wp_seq_k fun K25 hK25 => ?_
    obtain ⟨x11, e_x11, h25⟩ := bind_some h24; clear h24
    obtain ⟨x12, e_x12, h26⟩ := bind_some h25; clear h25
    obtain ⟨x13, e_x13, h27⟩ := bind_some h26; clear h26
    obtain ⟨x14, e_x14, h28⟩ := bind_some h27; clear h27
    refine wp_goes (Fs := [(ptrB b1 4), ((ksl (kint .i64)).V p1.Who), ((kint .i64).V y4), (ptrTo (kint .i64) x11), ((kint .i64).V x11), (kbool.V x12), (kbool.V (!x12)), (kbool.V (!x12)), (Fact.when ((!x12) == false) ((kint .i64).V y4)), (Fact.when ((!x12) == false) (kbool.V (decide (y4 > (0 : Int))))), (Fact.when ((!x12) == false) (kbool.V (decide (y4 > (0 : Int))))), (Fact.when (((!x12) == false) && ((decide (y4 > (0 : Int))) == true)) (ptrB b1 4)), (Fact.when (((!x12) == false) && ((decide (y4 > (0 : Int))) == true)) ((ksl (kint .i64)).V p1.Who)), (Fact.when (((!x12) == false) && ((decide (y4 > (0 : Int))) == true)) ((kint .i64).V y4)), (Fact.when (((!x12) == false) && ((decide (y4 > (0 : Int))) == true)) ((kint .i64).V (isub .i64 y4 (1 : Int)))), (Fact.when (((!x12) == false) && ((decide (y4 > (0 : Int))) == true)) (ptrTo (kint .i64) x13)), (Fact.when (((!x12) == false) && ((decide (y4 > (0 : Int))) == true)) ((kint .i64).V x13)), (Fact.when (((!x12) == false) && ((decide (y4 > (0 : Int))) == true)) (ptrB b1 4)), (Fact.when (((!x12) == false) && ((decide (y4 > (0 : Int))) == true)) ((ksl (kint .i64)).V p1.Who)), (Fact.when (((!x12) == false) && ((decide (y4 > (0 : Int))) == true)) ((kint .i64).V y4)), (Fact.when (((!x12) == false) && ((decide (y4 > (0 : Int))) == true)) (ptrTo (kint .i64) x14)), (Fact.when (((!x12) == false) && ((decide (y4 > (0 : Int))) == true)) ((kint .i64).V x14))]) (bits := [0, 1, 0, 7, 15, 31, 63, 127, 255, 511, 1023, 2047, 4095, 2047, 10239, 32767, 65535, 2047, 133119, 2047, 919551, 1968127, 4194303, 8388607, 16777215]) (m := 22) (todo := 0) mx s100 ?_; clear s100
    refine goes_last (by kernel_rfl) rfl (oc (av 1 rfl rfl Av.nil) rfl rfl (ob_fieldAddr (off' := 4) rfl Try.underlying44 rfl sz41 (by decide) (.tmp rfl) rfl) (oc (an 0 rfl rfl rfl Av.nil) rfl rfl (ob_load rfl tk41 (.tmp rfl) (.head _) (lg_api_Op_Who p1)) (oc (av 5 rfl rfl Av.nil) rfl rfl (mv rfl rfl) (oc (an 1 rfl rfl rfl (an 2 rfl rfl rfl Av.nil)) rfl rfl (ob_indexAddrs rfl Try.underlying41 sz3 (.tmp rfl) (.tmp rfl) e_x11) (oc (an 3 rfl rfl rfl Av.nil) rfl rfl (ob_loadr rfl tk3 (.tmp rfl)) (oc (an 4 rfl rfl rfl Av.nil) rfl rfl (ob_callD0 (args := [_]) rfl .direct hb129 (fun a w s => by exact c_cabalref11_Member k _ _ e_x12 _ _ _ (s.arg (.tmp rfl)))) (oc (an 5 rfl rfl rfl Av.nil) rfl rfl (ob_not rfl (.tmp rfl)) (oc (an 6 rfl rfl rfl Av.nil) rfl rfl (mv rfl rfl) (opsS_cons (.guarded _ (av 5 rfl rfl (an 7 rfl rfl rfl Av.nil)) rfl rfl rfl rfl (fun hb => ob_move rfl (.tmp rfl))) (opsS_cons (.guarded _ (an 7 rfl rfl rfl (an 8 rfl rfl rfl Av.nil)) rfl rfl rfl rfl (fun hb => (Ob.uncond (t := 80) hb rfl (ob_gtr rfl (.tmp rfl) (opd_int rfl))))) (opsS_cons (.guarded _ (an 7 rfl rfl rfl (an 9 rfl rfl rfl Av.nil)) rfl rfl rfl rfl (fun hb => (Ob.uncond (t := 81) hb rfl (mv rfl rfl)))) (opsS_cons (.guarded2 _ (av 1 rfl rfl (an 10 rfl rfl rfl Av.nil)) rfl rfl rfl rfl (fun hb => ob_fieldAddr (off' := 4) rfl Try.underlying44 rfl sz41 (by decide) (.tmp rfl) rfl)) (opsS_cons (.guarded2 _ (an 10 rfl rfl rfl (an 11 rfl rfl rfl Av.nil)) rfl rfl rfl rfl (fun hb => (Ob.uncond (t := 83) hb rfl (ob_load rfl tk41 (.tmp rfl) (.head _) (lg_api_Op_Who p1))))) (opsS_cons (.guarded2 _ (av 5 rfl rfl (an 10 rfl rfl rfl Av.nil)) rfl rfl rfl rfl (fun hb => ob_move rfl (.tmp rfl))) (opsS_cons (.guarded2 _ (an 10 rfl rfl rfl (an 13 rfl rfl rfl Av.nil)) rfl rfl rfl rfl (fun hb => (Ob.uncond (t := 85) hb rfl (ob_sub rfl (.tmp rfl) (opd_int rfl))))) (opsS_cons (.guarded2 _ (an 10 rfl rfl rfl (an 12 rfl rfl rfl (an 14 rfl rfl rfl Av.nil))) rfl rfl rfl rfl (fun hb => (Ob.uncond (t := 86) hb rfl ((Ob.uncond (t := 84) hb rfl (ob_indexAddrs rfl Try.underlying41 sz3 (.tmp rfl) (.tmp rfl) (ite_t hb e_x13))))))) (opsS_cons (.guarded2 _ (an 10 rfl rfl rfl (an 15 rfl rfl rfl Av.nil)) rfl rfl rfl rfl (fun hb => (Ob.uncond (t := 87) hb rfl (ob_loadr rfl tk3 (.tmp rfl))))) (opsS_cons (.guarded2 _ (av 1 rfl rfl (an 10 rfl rfl rfl Av.nil)) rfl rfl rfl rfl (fun hb => ob_fieldAddr (off' := 4) rfl Try.underlying44 rfl sz41 (by decide) (.tmp rfl) rfl)) (opsS_cons (.guarded2 _ (an 10 rfl rfl rfl (an 17 rfl rfl rfl Av.nil)) rfl rfl rfl rfl (fun hb => (Ob.uncond (t := 89) hb rfl (ob_load rfl tk41 (.tmp rfl) (.head _) (lg_api_Op_Who p1))))) (opsS_cons (.guarded2 _ (av 5 rfl rfl (an 10 rfl rfl rfl Av.nil)) rfl rfl rfl rfl (fun hb => ob_move rfl (.tmp rfl))) (opsS_cons (.guarded2 _ (an 10 rfl rfl rfl (an 18 rfl rfl rfl (an 19 rfl rfl rfl Av.nil))) rfl rfl rfl rfl (fun hb => (Ob.uncond (t := 91) hb rfl ((Ob.uncond (t := 90) hb rfl (ob_indexAddrs rfl Try.underlying41 sz3 (.tmp rfl) (.tmp rfl) (ite_t hb e_x14))))))) (opsS_cons (.guarded2 _ (an 10 rfl rfl rfl (an 20 rfl rfl rfl Av.nil)) rfl rfl rfl rfl (fun hb => (Ob.uncond (t := 92) hb rfl (ob_loadr rfl tk3 (.tmp rfl))))) opsS_nil)))))))))))))))))))))) (out_old (t := 1) rfl rfl (out_old (t := 4) rfl rfl (out_old (t := 5) rfl rfl (out_new (i := 7) (by decide) rfl rfl (out_new (i := 10) (by decide) rfl rfl (out_new (i := 16) (by decide) rfl rfl (out_new (i := 21) (by decide) rfl rfl out_nil))))))) fun _ _ s101 => ?_
    refine seq_opg2 s101 rfl rfl rfl rfl (of_decide_eq_true rfl) (fun hb => (Ob.uncond (t := 93) hb rfl ((Ob.uncond (t := 88) hb rfl (ob_geq rfl (.tmp rfl) (.tmp rfl)))))) fun _ _ s102 => ?_; clear s101
    obtain ⟨x15, e_x15, h29⟩ := bind_some h28; clear h28; replace e_x15 := Option.some.inj e_x15
    refine qs s102 (.cg rfl rfl rfl rfl (fun hb => (Ob.uncond (t := 82) hb rfl (ob_and3 hb rfl (.tmp rfl) (.tmp rfl) opd_bool))) (.c1 rfl ((ob_or2 rfl (.tmp rfl) opd_bool (.tmp rfl)).nm e_x15) (.ce (u 1 rfl (u 4 rfl (u 5 rfl (u 96 rfl .nil))))))) fun _ _ s105 => wn hK25 ?_; clear s102
    refine cond_split s105 (.tmp rfl) (fun hc5 => ?_) (fun hc5 => ?_)
    ·have h30 := ite_t hc5 h29; clear h29
     refine wp_seq_k fun K26 hK26 => wp_region_lit (qs s105 (.c1 rfl (ob_assign rfl opd_bool) (.ce (u 2 rfl .nil))) fun _ _ s107 => wn hK26 ?_); clear s105
     have s108 := St.drop (A := []) s107; clear s107
     refine wp_ret ?_
     obtain rfl := Option.some.inj h30
     exact leave s108 (.inl rfl) rfl (.cons (.tmp rfl) .nil)
    ·have h31 := ite_f hc5 h29; clear h29
     refine wp_skip ?_
     refine then_normal (hK24 _ _ ?_)
     have s109 := s105.sub (u 1 rfl (u 4 rfl (u 5 rfl .nil))); clear s105
     obtain ⟨x16, e_x16, h32⟩ := bind_some h31; clear h31
     refine wp_goes (Fs := [(kbool.V y3), (kbool.V y3), (Fact.when (y3 == false) (ptrB b1 4)), (Fact.when (y3 == false) ((ksl (kint .i64)).V p1.Who)), (Fact.when (y3 == false) ((kint .i64).V y4)), (Fact.when (y3 == false) (ptrTo (kint .i64) x16)), (Fact.when (y3 == false) ((kint .i64).V x16)), (Fact.when (y3 == false) (ptrB b1 0)), (Fact.when (y3 == false) ((kint .i64).V p1.Author))]) (bits := [0, 1, 3, 7, 3, 31, 63, 3, 131, 511, 1023, 2047]) (m := 9) (todo := 0) mx s109 ?_; clear s109
     refine goes_last (by kernel_rfl) rfl (oc (av 4 rfl rfl Av.nil) rfl rfl (mv rfl rfl) (oc (an 0 rfl rfl rfl Av.nil) rfl rfl (mv rfl rfl) (opsS_cons (.guarded _ (av 1 rfl rfl (an 1 rfl rfl rfl Av.nil)) rfl rfl rfl rfl (fun hb => ob_fieldAddr (off' := 4) rfl Try.underlying44 rfl sz41 (by decide) (.tmp rfl) rfl)) (opsS_cons (.guarded _ (an 1 rfl rfl rfl (an 2 rfl rfl rfl Av.nil)) rfl rfl rfl rfl (fun hb => (Ob.uncond (t := 99) hb rfl (ob_load rfl tk41 (.tmp rfl) (.head _) (lg_api_Op_Who p1))))) (opsS_cons (.guarded _ (av 5 rfl rfl (an 1 rfl rfl rfl Av.nil)) rfl rfl rfl rfl (fun hb => ob_move rfl (.tmp rfl))) (opsS_cons (.guarded _ (an 1 rfl rfl rfl (an 3 rfl rfl rfl (an 4 rfl rfl rfl Av.nil))) rfl rfl rfl rfl (fun hb => (Ob.uncond (t := 101) hb rfl ((Ob.uncond (t := 100) hb rfl (ob_indexAddrs rfl Try.underlying41 sz3 (.tmp rfl) (.tmp rfl) (ite_t hb e_x16))))))) (opsS_cons (.guarded _ (an 1 rfl rfl rfl (an 5 rfl rfl rfl Av.nil)) rfl rfl rfl rfl (fun hb => (Ob.uncond (t := 102) hb rfl (ob_loadr rfl tk3 (.tmp rfl))))) (opsS_cons (.guarded _ (av 1 rfl rfl (an 1 rfl rfl rfl Av.nil)) rfl rfl rfl rfl (fun hb => ob_fieldAddr (off' := 0) rfl Try.underlying44 rfl sz3 (by decide) (.tmp rfl) rfl)) (opsS_cons (.guarded _ (an 1 rfl rfl rfl (an 7 rfl rfl rfl Av.nil)) rfl rfl rfl rfl (fun hb => (Ob.uncond (t := 104) hb rfl (ob_load rfl tk3 (.tmp rfl) (.head _) (lg_api_Op_Author p1))))) opsS_nil))))))))) (out_old (t := 1) rfl rfl (out_old (t := 4) rfl rfl (out_old (t := 5) rfl rfl (out_new (i := 1) (by decide) rfl rfl (out_new (i := 6) (by decide) rfl rfl (out_new (i := 8) (by decide) rfl rfl out_nil)))))) fun _ _ s110 => ?_
     refine qs s110 (.cg rfl rfl rfl rfl (fun hb => (Ob.uncond (t := 105) hb rfl ((Ob.uncond (t := 103) hb rfl (ob_eql rfl (.tmp rfl) (.tmp rfl)))))) (.c1 rfl (ob_or2 rfl (.tmp rfl) opd_bool (.tmp rfl)) (.c1 rfl (ob_assign rfl (.tmp rfl)) .cz))) fun _ _ s113 => ?_; clear s110
     refine wpList_nil ?_
     refine in_normal ?_
     refine then_normal (hK23 _ _ ?_)
     have s114 := s113.sub (u 1 rfl (u 4 rfl (u 5 rfl .nil))); clear s113
     refine wp_region_lit (qs s114 (.c1 rfl (mv rfl rfl) (.c1 rfl (ob_add rfl (.tmp rfl) (opd_int rfl)) (.c1 rfl (ob_assign rfl (.tmp rfl)) .cz))) fun _ _ s117 => ?_); clear s114
     refine wpList_nil ?_
     refine then_normal ?_
     exact hK20 ((if y3 then true else (x16 == p1.Author)), (iadd .i64 y4 (1 : Int))) _ _ h32 (s117.sub (.cons rfl (.cons rfl (.cons rfl .nil))))
   ·have h33 := ite_f hc4 h23; clear h23
    refine wp_exit ?_
    refine (then_exit (then_exit (in_here ?_)))
    refine then_normal ?_
    exact hj2 y3 _ _ h33 (s99.sub (.cons rfl (.cons rfl .nil)))
  refine wp_block ?_
  refine wp_loop_fuel (fun m (q : Int) => cabalref11_Right.l3 k p1 m q) r (fun _ => rfl) (fun q a w => St ⟨156, w0, ok, []⟩ [BF b1 44 k_api_Op p1] [(1, (ptrB b1 0)), (3, ((kint .i64).V q))] a w) ?_ k (1 : Int) _ _ h6 (s48.sub (.cons rfl (.cons rfl .nil)))
  rintro n3 y5 a118 w118 h34 s118 K27 hK27
  replace h34 : cabalref11_Right.l3 k p1 (n3 + 1) y5 = some r := h34; rw [cabalref11_Right.l3] at h34
  have h35 := h34; clear h34
  refine wp_seq_k fun K28 hK28 => wp_seq_k fun K29 hK29 => ?_
  refine wp_region_lit (qs s118 (.c1 rfl (mv rfl rfl) (.c1 rfl (ob_fieldAddr (off' := 2) rfl Try.underlying44 rfl sz40 (by decide) (.tmp rfl) rfl) (.c1 rfl (ob_load rfl tk40 (.tmp rfl) (.head _) (lg_api_Op_Parents p1)) (.c1 rfl (ob_lens rfl Try.underlying40 (.tmp rfl)) (.c1 rfl (ob_lss rfl (.tmp rfl) (.tmp rfl)) (.ce (u 1 rfl (u 3 rfl (u 49 rfl .nil))))))))) fun _ _ s124 => wn hK29 ?_); clear s118
  refine cond_split s124 (.tmp rfl) (fun hc6 => ?_) (fun hc6 => ?_)
  ·have h36 := ite_t hc6 h35; clear h35
   refine wp_skip ?_
   refine then_normal (hK28 _ _ ?_)
   have s125 := s124.sub (u 1 rfl (u 3 rfl .nil)); clear s124
   refine wp_seq_k fun K30 hK30 => wp_block ?_
   refine wp_seq_k fun K31 hK31 => ?_
   obtain ⟨x17, e_x17, h37⟩ := bind_some h36; clear h36
   obtain ⟨x18, e_x18, h38⟩ := bind_some h37; clear h37
   refine wp_goes (Fs := [(ptrB b1 2), ((ksl (karr 32 (kint .u8))).V p1.Parents), ((kint .i64).V y5), ((kint .i64).V (isub .i64 y5 (1 : Int))), (ptrTo (karr 32 (kint .u8)) x17), ((karr 32 (kint .u8)).V x17), (ptrB b1 2), ((ksl (karr 32 (kint .u8))).V p1.Parents), ((kint .i64).V y5), (ptrTo (karr 32 (kint .u8)) x18), ((karr 32 (kint .u8)).V x18)]) (bits := [0, 1, 0, 4, 15, 31, 0, 64, 0, 448, 960, 2047, 4095]) (m := 11) (todo := 0) mx s125 ?_; clear s125
   refine goes_last (by kernel_rfl) rfl (oc (av 1 rfl rfl Av.nil) rfl rfl (ob_fieldAddr (off' := 2) rfl Try.underlying44 rfl sz40 (by decide) (.tmp rfl) rfl) (oc (an 0 rfl rfl rfl Av.nil) rfl rfl (ob_load rfl tk40 (.tmp rfl) (.head _) (lg_api_Op_Parents p1)) (oc (av 3 rfl rfl Av.nil) rfl rfl (mv rfl rfl) (oc (an 2 rfl rfl rfl Av.nil) rfl rfl (ob_sub rfl (.tmp rfl) (opd_int rfl)) (oc (an 1 rfl rfl rfl (an 3 rfl rfl rfl Av.nil)) rfl rfl (ob_indexAddrs rfl Try.underlying40 sz39 (.tmp rfl) (.tmp rfl) e_x17) (oc (an 4 rfl rfl rfl Av.nil) rfl rfl (ob_loadr rfl tk39 (.tmp rfl)) (oc (av 1 rfl rfl Av.nil) rfl rfl (ob_fieldAddr (off' := 2) rfl Try.underlying44 rfl sz40 (by decide) (.tmp rfl) rfl) (oc (an 6 rfl rfl rfl Av.nil) rfl rfl (ob_load rfl tk40 (.tmp rfl) (.head _) (lg_api_Op_Parents p1)) (oc (av 3 rfl rfl Av.nil) rfl rfl (mv rfl rfl) (oc (an 7 rfl rfl rfl (an 8 rfl rfl rfl Av.nil)) rfl rfl (ob_indexAddrs rfl Try.underlying40 sz39 (.tmp rfl) (.tmp rfl) e_x18) (oc (an 9 rfl rfl rfl Av.nil) rfl rfl (ob_loadr rfl tk39 (.tmp rfl)) opsS_nil))))))))))) (out_old (t := 1) rfl rfl (out_old (t := 3) rfl rfl (out_new (i := 5) (by decide) rfl rfl (out_new (i := 10) (by decide) rfl rfl out_nil)))) fun _ _ s126 => ?_
   obtain ⟨x19, e_x19, h39⟩ := bind_some h38; clear h38
   refine qs s126 (.c1 rfl (ob_callD0 (args := [_, _]) rfl .direct hb108 (fun a w s => by exact c_cabalref11_Less k _ _ _ e_x19 _ _ _ _ (s.arg (.tmp rfl)) (s.arg (.tmp rfl)))) (.c1 rfl (ob_not rfl (.tmp rfl)) (.ce (u 1 rfl (u 3 rfl (u 64 rfl .nil)))))) fun _ _ s129 => wn hK31 ?_; clear s126
   refine cond_split s129 (.tmp rfl) (fun hc7 => ?_) (fun hc7 => ?_)
   ·have h40 := ite_t hc7 h39; clear h39
    refine wp_seq_k fun K32 hK32 => wp_region_lit (qs s129 (.c1 rfl (ob_assign rfl opd_bool) (.ce (u 2 rfl .nil))) fun _ _ s131 => wn hK32 ?_); clear s129
    have s132 := St.drop (A := []) s131; clear s131
    refine wp_ret ?_
    obtain rfl := Option.some.inj h40
    exact leave s132 (.inl rfl) rfl (.cons (.tmp rfl) .nil)
   ·have h41 := ite_f hc7 h39; clear h39
    refine wp_skip ?_
    refine in_normal ?_
    refine then_normal (hK30 _ _ ?_)
    have s133 := s129.sub (u 1 rfl (u 3 rfl .nil)); clear s129
    refine wp_region_lit (qs s133 (.c1 rfl (mv rfl rfl) (.c1 rfl (ob_add rfl (.tmp rfl) (opd_int rfl)) (.c1 rfl (ob_assign rfl (.tmp rfl)) .cz))) fun _ _ s136 => ?_); clear s133
    refine wpList_nil ?_
    refine then_normal ?_
    exact hK27 (iadd .i64 y5 (1 : Int)) _ _ h41 (s136.sub (.cons rfl (.cons rfl .nil)))
  ·have h42 := ite_f hc6 h35; clear h35
   refine wp_exit ?_
   refine (then_exit (then_exit (in_here ?_)))
   refine then_normal ?_
   exact hj1 _ _ h42 (s124.sub (.cons rfl .nil))
theorem c_cabalref19_Find (k : Nat) (p1 : (List api_Held)) (p2 : (List Int)) (r : Int) (h0 : cabalref19_Find k p1 p2 = some r) (ok : Ok) (w0 : World) (z0 : Value) (z1 : Value) (u0 : ((ksl k_api_Held).V p1).holds ok w0 z0) (u1 : ((karr 32 (kint .u8)).V p2).holds ok w0 z1) :
 Gives Try.prog 73 [z0, z1] ok w0 (resFact [(kint .i64).V r]) := by
 unfold cabalref19_Find at h0
 refine enter (N := 20) Try.func73 rfl rfl (of_decide_eq_true rfl) (.cons u0 (.cons u1 .nil)) fun a1 s1 => ?_
 refine wp_seq_k fun K1 hK1 => wp_region_lit ?_
 refine qx (B' := (fun b1 : Nat => [BF b1 39 (karr 32 (kint .u8)) p2])) s1 rfl (ob_box rfl (.tmp rfl)) fun b1 _ _ s2 => ?_; clear s1
 refine qs s2 (.c1 rfl (ob_assign rfl (opd_int rfl)) (.ce (u 0 rfl (u 3 rfl .nil)))) fun _ _ s4 => wn hK1 ?_; clear s2
 refine wp_seq_k fun K2 hK2 => wp_seq_k fun K3 hK3 => ?_
 refine wp_region_lit (qs s4 (.c1 rfl (ob_assign rfl (opd_int rfl)) (.ce (u 0 rfl (u 3 rfl (u 5 rfl .nil))))) fun _ _ s6 => wn hK3 ?_); clear s4
 have hj1 : ∀ (a : Act) (w : World), (cabalref19_Find.j1 k) = some r → St ⟨20, w0, ok, []⟩ [] [] a w → K2 a w := by
  intro a7 w7 h1 s7
  unfold cabalref19_Find.j1 at h1
  refine hK2 _ _ ?_
  refine wp_seq_k fun K4 hK4 => wp_region_lit (qs s7 (.c1 rfl (ob_assign rfl (opd_int rfl)) (.ce (u 4 rfl .nil))) fun _ _ s9 => wn hK4 ?_); clear s7
  refine wp_ret ?_
  obtain rfl := Option.some.inj h1
  exact leave s9 (.inl rfl) rfl (.cons (.tmp rfl) .nil)
 refine wp_block ?_
 refine wp_loop_fuel (fun m (q : Int) => cabalref19_Find.l1 k p1 p2 m q) r (fun _ => rfl) (fun q a w => St ⟨20, w0, ok, []⟩ [BF b1 39 (karr 32 (kint .u8)) p2] [(0, ((ksl k_api_Held).V p1)), (3, (ptrB b1 0)), (5, ((kint .i64).V q))] a w) ?_ k (0 : Int) _ _ h0 (s6.sub (.cons rfl (.cons rfl (.cons rfl .nil))))
 rintro n1 y1 a10 w10 h2 s10 K5 hK5
 replace h2 : cabalref19_Find.l1 k p1 p2 (n1 + 1) y1 = some r := h2; rw [cabalref19_Find.l1] at h2
 have h3 := h2; clear h2
 refine wp_seq_k fun K6 hK6 => wp_seq_k fun K7 hK7 => ?_
 refine wp_region_lit (qs s10 (.c1 rfl (mv rfl rfl) (.c1 rfl (mv rfl rfl) (.c1 rfl (ob_lens rfl Try.underlying85 (.tmp rfl)) (.c1 rfl (ob_lss rfl (.tmp rfl) (.tmp rfl)) (.ce (u 0 rfl (u 3 rfl (u 5 rfl (u 9 rfl .nil))))))))) fun _ _ s15 => wn hK7 ?_); clear s10
 refine cond_split s15 (.tmp rfl) (fun hc1 => ?_) (fun hc1 => ?_)
 ·have h4 := ite_t hc1 h3; clear h3
  refine wp_skip ?_
  refine then_normal (hK6 _ _ ?_)
  have s16 := s15.sub (u 0 rfl (u 3 rfl (u 5 rfl .nil))); clear s15
  refine wp_seq_k fun K8 hK8 => wp_block ?_
  refine wp_seq_k fun K9 hK9 => ?_
  obtain ⟨x1, e_x1, h5⟩ := bind_some h4; clear h4
  refine wp_goes (Fs := [((ksl k_api_Held).V p1), ((kint .i64).V y1), (ptrTo k_api_Held x1), (ptrTo (karr 32 (kint .u8)) x1.Id), ((karr 32 (kint .u8)).V x1.Id), ((karr 32 (kint .u8)).V p2)]) (bits := [0, 0, 3, 7, 15, 0, 63]) (m := 6) (todo := 0) mx s16 ?_; clear s16
  refine goes_last (by kernel_rfl) rfl (oc (av 0 rfl rfl Av.nil) rfl rfl (mv rfl rfl) (oc (av 5 rfl rfl Av.nil) rfl rfl (mv rfl rfl) (oc (an 0 rfl rfl rfl (an 1 rfl rfl rfl Av.nil)) rfl rfl (ob_indexAddrs rfl Try.underlying85 sz91 (.tmp rfl) (.tmp rfl) e_x1) (oc (an 2 rfl rfl rfl Av.nil) rfl rfl (ob_fieldAddrr rfl Try.underlying91 rfl sz39 (by decide) (.tmp rfl) (lg_api_Held_Id x1)) (oc (an 3 rfl rfl rfl Av.nil) rfl rfl (ob_loadr rfl tk39 (.tmp rfl)) (oc (av 3 rfl rfl Av.nil) rfl rfl (ob_load rfl tk39 (.tmp rfl) (.head _) (LG.refl _ _)) opsS_nil)))))) (out_old (t := 0) rfl rfl (out_old (t := 3) rfl rfl (out_old (t := 5) rfl rfl (out_new (i := 4) (by decide) rfl rfl (out_new (i := 5) (by decide) rfl rfl out_nil))))) fun _ _ s17 => ?_
  refine qs s17 (.c1 rfl (ob_eqAgg rfl rfl (by kernel_rfl) eq39 (by decide) (.tmp rfl) (.tmp rfl)) (.ce (u 0 rfl (u 3 rfl (u 5 rfl (u 18 rfl .nil)))))) fun _ _ s19 => wn hK9 ?_; clear s17
  refine cond_split s19 (.tmp rfl) (fun hc2 => ?_) (fun hc2 => ?_)
  ·have h6 := ite_t hc2 h5; clear h5
   refine wp_seq_k fun K10 hK10 => wp_region_lit (qs s19 (.c1 rfl (mv rfl rfl) (.c1 rfl (ob_assign rfl (.tmp rfl)) (.ce (u 4 rfl .nil)))) fun _ _ s22 => wn hK10 ?_); clear s19
   have s23 := St.drop (A := []) s22; clear s22
   refine wp_ret ?_
   obtain rfl := Option.some.inj h6
   exact leave s23 (.inl rfl) rfl (.cons (.tmp rfl) .nil)
  ·have h7 := ite_f hc2 h5; clear h5
   refine wp_skip ?_
   refine in_normal ?_
   refine then_normal (hK8 _ _ ?_)
   have s24 := s19.sub (u 0 rfl (u 3 rfl (u 5 rfl .nil))); clear s19
   refine wp_region_lit (qs s24 (.c1 rfl (mv rfl rfl) (.c1 rfl (ob_add rfl (.tmp rfl) (opd_int rfl)) (.c1 rfl (ob_assign rfl (.tmp rfl)) .cz))) fun _ _ s27 => ?_); clear s24
   refine wpList_nil ?_
   refine then_normal ?_
   exact hK5 (iadd .i64 y1 (1 : Int)) _ _ h7 (s27.sub (.cons rfl (.cons rfl (.cons rfl .nil))))
 ·have h8 := ite_f hc1 h3; clear h3
  refine wp_exit ?_
  refine (then_exit (then_exit (in_here ?_)))
  refine then_normal ?_
  have s28 := St.drop (A := []) s15; clear s15
  exact hj1 _ _ h8 (s28.sub .nil)
theorem c_cabalref19_Right (k : Nat) (p1 : (List api_Held)) (r : Bool) (h0 : cabalref19_Right k p1 = some r) (ok : Ok) (w0 : World) (z0 : Value) (u0 : ((ksl k_api_Held).V p1).holds ok w0 z0) :
 Gives Try.prog 63 [z0] ok w0 (resFact [kbool.V r]) := by
 unfold cabalref19_Right at h0
 refine enter (N := 31) Try.func63 rfl rfl (of_decide_eq_true rfl) (.cons u0 .nil) fun a1 s1 => ?_
 refine wp_seq_k fun K1 hK1 => wp_region_lit (qs s1 (.c1 rfl (ob_assign rfl opd_bool) (.ce (u 0 rfl .nil))) fun _ _ s3 => wn hK1 ?_); clear s1
 refine wp_seq_k fun K2 hK2 => wp_seq_k fun K3 hK3 => ?_
 refine wp_region_lit (qs s3 (.c1 rfl (ob_assign rfl (opd_int rfl)) (.ce (u 0 rfl (u 3 rfl .nil)))) fun _ _ s5 => wn hK3 ?_); clear s3
 have hj1 : ∀ (a : Act) (w : World), (cabalref19_Right.j1 k p1) = some r → St ⟨31, w0, ok, []⟩ [] [(0, ((ksl k_api_Held).V p1))] a w → K2 a w := by
  intro a6 w6 h1 s6
  unfold cabalref19_Right.j1 at h1
  refine hK2 _ _ ?_
  refine wp_seq_k fun K4 hK4 => wp_region_lit (qs s6 (.c1 rfl (mv rfl rfl) (.c1 rfl (ob_lens rfl Try.underlying85 (.tmp rfl)) (.c1 rfl (ob_leq rfl (.tmp rfl) (opd_int rfl)) (.c1 rfl (ob_assign rfl (.tmp rfl)) (.ce (u 2 rfl .nil)))))) fun _ _ s11 => wn hK4 ?_); clear s6
  refine wp_ret ?_
  obtain rfl := Option.some.inj h1
  exact leave s11 (.inl rfl) rfl (.cons (.tmp rfl) .nil)
 refine wp_block ?_
 refine wp_loop_fuel (fun m (q : Int) => cabalref19_Right.l1 k p1 m q) r (fun _ => rfl) (fun q a w => St ⟨31, w0, ok, []⟩ [] [(0, ((ksl k_api_Held).V p1)), (3, ((kint .i64).V q))] a w) ?_ k (0 : Int) _ _ h0 (s5.sub (.cons rfl (.cons rfl .nil)))
 rintro n1 y1 a12 w12 h2 s12 K5 hK5
 replace h2 : cabalref19_Right.l1 k p1 (n1 + 1) y1 = some r := h2; rw [cabalref19_Right.l1] at h2
 have h3 := h2; clear h2
 refine wp_seq_k fun K6 hK6 => wp_seq_k fun K7 hK7 => ?_
 refine wp_region_lit (qs s12 (.c1 rfl (mv rfl rfl) (.c1 rfl (mv rfl rfl) (.c1 rfl (ob_lens rfl Try.underlying85 (.tmp rfl)) (.c1 rfl (ob_lss rfl (.tmp rfl) (.tmp rfl)) (.ce (u 0 rfl (u 3 rfl (u 7 rfl .nil)))))))) fun _ _ s17 => wn hK7 ?_); clear s12
 refine cond_split s17 (.tmp rfl) (fun hc1 => ?_) (fun hc1 => ?_)
 ·have h4 := ite_t hc1 h3; clear h3
  refine wp_skip ?_
  refine then_normal (hK6 _ _ ?_)
  have s18 := s17.sub (u 0 rfl (u 3 rfl .nil)); clear s17
  refine wp_seq_k fun K8 hK8 => wp_block ?_
  obtain ⟨x1, e_x1, h5⟩ := bind_some h4; clear h4
  obtain ⟨x2, e_x2, h6⟩ := bind_some h5; clear h5
  obtain ⟨x3, e_x3, h7⟩ := bind_some h6; clear h6
  obtain ⟨x4, e_x4, h8⟩ := bind_some h7; clear h7
  refine wp_seq_k fun K9 hK9 => wp_region_lit (qs s18 (.c1 rfl (mv rfl rfl) (.c1 rfl (mv rfl rfl) (.c1 rfl (ob_indexAddrs rfl Try.underlying85 sz91 (.tmp rfl) (.tmp rfl) e_x1) (.c1 rfl (ob_fieldAddrr rfl Try.underlying91 rfl sz44 (by decide) (.tmp rfl) (lg_api_Held_Op x1)) (.c1 rfl (ob_loadr rfl tk44 (.tmp rfl)) (.c1 rfl (ob_callD0 (args := [_]) rfl .direct hb85 (fun a w s => by exact c_cabalref11_Right k _ _ e_x2 _ _ _ (s.arg (.tmp rfl)))) (.c1 rfl (ob_not rfl (.tmp rfl)) (.c1 rfl (mv rfl rfl) (.cg rfl rfl rfl rfl (fun hb => ob_move rfl (.tmp rfl)) (.cg rfl rfl rfl rfl (fun hb => ob_move rfl (.tmp rfl)) (.cg rfl rfl rfl rfl (fun hb => ob_move rfl (.tmp rfl)) (.cg rfl rfl rfl rfl (fun hb => (Ob.uncond (t := 20) hb rfl ((Ob.uncond (t := 19) hb rfl (ob_indexAddrs rfl Try.underlying85 sz91 (.tmp rfl) (.tmp rfl) (ite_t hb e_x3)))))) (.cg rfl rfl rfl rfl (fun hb => (Ob.uncond (t := 21) hb rfl (ob_fieldAddrr rfl Try.underlying91 rfl sz39 (by decide) (.tmp rfl) (lg_api_Held_Id x3)))) (.cg rfl rfl rfl rfl (fun hb => (Ob.uncond (t := 22) hb rfl (ob_loadr rfl tk39 (.tmp rfl)))) (.cg rfl rfl rfl rfl (fun hb => (Ob.uncond (t := 23) hb rfl ((Ob.uncond (t := 18) hb rfl (ob_callD0 (args := [_, _]) rfl .direct hb73 (fun a w s => by exact c_cabalref19_Find k _ _ _ (ite_t hb e_x4) _ _ _ _ (s.arg (.tmp rfl)) (s.arg (.tmp rfl)))))))) (.cg rfl rfl rfl rfl (fun hb => ob_move rfl (.tmp rfl)) (.cg rfl rfl rfl rfl (fun hb => (Ob.uncond (t := 25) hb rfl ((Ob.uncond (t := 24) hb rfl (ob_neq rfl (.tmp rfl) (.tmp rfl)))))) (.c1 rfl (ob_or2 rfl (.tmp rfl) opd_bool (.tmp rfl)) (.ce (u 0 rfl (u 3 rfl (u 27 rfl .nil)))))))))))))))))))))) fun _ _ s37 => wn hK9 ?_); clear s18
  refine cond_split s37 (.tmp rfl) (fun hc2 => ?_) (fun hc2 => ?_)
  ·have h9 := ite_t hc2 h8; clear h8
   refine wp_seq_k fun K10 hK10 => wp_region_lit (qs s37 (.c1 rfl (ob_assign rfl opd_bool) (.ce (u 2 rfl .nil))) fun _ _ s39 => wn hK10 ?_); clear s37
   refine wp_ret ?_
   obtain rfl := Option.some.inj h9
   exact leave s39 (.inl rfl) rfl (.cons (.tmp rfl) .nil)
  ·have h10 := ite_f hc2 h8; clear h8
   refine wp_skip ?_
   refine in_normal ?_
   refine then_normal (hK8 _ _ ?_)
   have s40 := s37.sub (u 0 rfl (u 3 rfl .nil)); clear s37
   refine wp_region_lit (qs s40 (.c1 rfl (mv rfl rfl) (.c1 rfl (ob_add rfl (.tmp rfl) (opd_int rfl)) (.c1 rfl (ob_assign rfl (.tmp rfl)) .cz))) fun _ _ s43 => ?_); clear s40
   refine wpList_nil ?_
   refine then_normal ?_
   exact hK5 (iadd .i64 y1 (1 : Int)) _ _ h10 (s43.sub (.cons rfl (.cons rfl .nil)))
 ·have h11 := ite_f hc1 h3; clear h3
  refine wp_exit ?_
  refine (then_exit (then_exit (in_here ?_)))
  refine then_normal ?_
  exact hj1 _ _ h11 (s17.sub (.cons rfl .nil))
theorem c_cabalref19_Put (k : Nat) (p1 : (List api_Held)) (p2 : api_Held) (r : ((List api_Held) × Int)) (h0 : cabalref19_Put k p1 p2 = some r) (ok : Ok) (w0 : World) (z0 : Value) (z1 : Value) (u0 : ((ksl k_api_Held).V p1).holds ok w0 z0) (u1 : (k_api_Held.V p2).holds ok w0 z1) :
 GivesX Try.prog 67 [z0, z1] ok w0 [] (fun g : Value => resFact [is g, (kint .i64).V r.2]) (fun g : Value => [RowF (g) 91 k_api_Held r.1]) := by
 unfold cabalref19_Put at h0
 refine enterX (N := 31) Try.func67 rfl rfl (of_decide_eq_true rfl) (.cons u0 (.cons u1 .nil)) List.nodup_nil (fun _ h => by cases h) (fun _ h => by cases h) fun a1 s1 => ?_
 refine wp_seq_k fun K1 hK1 => wp_region_lit ?_
 refine qx (B' := (fun b1 : Nat => [BF b1 91 k_api_Held p2])) s1 rfl (ob_box rfl (.tmp rfl)) fun b1 _ _ s2 => ?_; clear s1
 refine qs s2 (.c1 rfl (ob_assign rfl opd_is) .cz) fun _ _ s3 => ?_; clear s2
 have s4 := St.adopt s3 (G := RowF (nilRow 24) 91 k_api_Held []) rfl (rowNilN _ _ _ _ _); clear s3
 refine qs s4 (.c1 rfl (ob_assign rfl (opd_int rfl)) (.ce (u 0 rfl (u 3 rfl .nil)))) fun _ _ s6 => wn hK1 ?_; clear s4
 have s7 := St.drop (A := []) s6; clear s6
 refine wp_seq_k fun K2 hK2 => wp_seq_k fun K3 hK3 => ?_
 obtain ⟨x1, e_x1, h1⟩ := bind_some h0; clear h0
 obtain ⟨x2, e_x2, h2⟩ := bind_some h1; clear h1
 refine wp_region_lit (qs s7 (.c1 rfl (mv rfl rfl) (.c1 rfl (ob_callD0 (args := [_]) rfl .direct hb63 (fun a w s => by exact c_cabalref19_Right k _ _ e_x1 _ _ _ (s.arg (.tmp rfl)))) (.c1 rfl (ob_not rfl (.tmp rfl)) (.c1 rfl (mv rfl rfl) (.cg rfl rfl rfl rfl (fun hb => ob_fieldAddr (off' := 32) rfl Try.underlying91 rfl sz44 (by decide) (.tmp rfl) rfl) (.cg rfl rfl rfl rfl (fun hb => (Ob.uncond (t := 11) hb rfl (ob_load rfl tk44 (.tmp rfl) (.head _) (lg_api_Held_Op p2)))) (.cg rfl rfl rfl rfl (fun hb => (Ob.uncond (t := 12) hb rfl (ob_callD0 (args := [_]) rfl .direct hb85 (fun a w s => by exact c_cabalref11_Right k _ _ (ite_t hb e_x2) _ _ _ (s.arg (.tmp rfl)))))) (.cg rfl rfl rfl rfl (fun hb => (Ob.uncond (t := 13) hb rfl (ob_not rfl (.tmp rfl)))) (.c1 rfl (ob_or2 rfl (.tmp rfl) opd_bool (.tmp rfl)) (.ce (u 0 rfl (u 3 rfl (u 15 rfl .nil))))))))))))) fun _ _ s17 => wn hK3 ?_); clear s7
 refine cond_split s17 (.tmp rfl) (fun hc1 => ?_) (fun hc1 => ?_)
 ·have h3 := ite_t hc1 h2; clear h2
  refine wp_seq_k fun K4 hK4 => wp_region_lit (qs s17 (.c1 rfl (ob_assign rfl opd_is) .cz) fun _ _ s18 => ?_); clear s17
  have s19 := St.adopt s18 (G := RowF (nilRow 25) 91 k_api_Held []) rfl (rowNilN _ _ _ _ _); clear s18
  refine qs s19 (.c1 rfl (ob_assign rfl (opd_int rfl)) (.ce (u 4 rfl (u 5 rfl .nil)))) fun _ _ s21 => wn hK4 ?_; clear s19
  have s22 := St.drop (A := [_]) s21; clear s21
  refine wp_ret ?_
  obtain rfl := Option.some.inj h3
  exact leaveXD (D := []) (nilRow 25) s22 rfl (.inl rfl) rfl (.cons (.tmp rfl) (.cons (.tmp rfl) .nil)) rfl
 ·have h4 := ite_f hc1 h2; clear h2
  refine wp_skip ?_
  refine then_normal (hK2 _ _ ?_)
  have s23 := s17.sub (u 0 rfl (u 3 rfl .nil)); clear s17
  refine wp_seq_k fun K5 hK5 => wp_seq_k fun K6 hK6 => ?_
  obtain ⟨x3, e_x3, h5⟩ := bind_some h4; clear h4
  refine wp_region_lit (qs s23 (.c1 rfl (mv rfl rfl) (.c1 rfl (ob_fieldAddr (off' := 0) rfl Try.underlying91 rfl sz39 (by decide) (.tmp rfl) rfl) (.c1 rfl (ob_load rfl tk39 (.tmp rfl) (.head _) (lg_api_Held_Id p2)) (.c1 rfl (ob_callD0 (args := [_, _]) rfl .direct hb73 (fun a w s => by exact c_cabalref19_Find k _ _ _ e_x3 _ _ _ _ (s.arg (.tmp rfl)) (s.arg (.tmp rfl)))) (.c1 rfl (ob_geq rfl (.tmp rfl) (opd_int rfl)) (.ce (u 0 rfl (u 3 rfl (u 20 rfl .nil))))))))) fun _ _ s29 => wn hK6 ?_); clear s23
  refine cond_split s29 (.tmp rfl) (fun hc2 => ?_) (fun hc2 => ?_)
  ·have h6 := ite_t hc2 h5; clear h5
   refine wp_seq_k fun K7 hK7 => wp_region_lit (qs s29 (.c1 rfl (ob_assign rfl opd_is) .cz) fun _ _ s30 => ?_); clear s29
   have s31 := St.adopt s30 (G := RowF (nilRow 26) 91 k_api_Held []) rfl (rowNilN _ _ _ _ _); clear s30
   refine qs s31 (.c1 rfl (ob_assign rfl (opd_int rfl)) (.ce (u 4 rfl (u 5 rfl .nil)))) fun _ _ s33 => wn hK7 ?_; clear s31
   have s34 := St.drop (A := [_]) s33; clear s33
   refine wp_ret ?_
   obtain rfl := Option.some.inj h6
   exact leaveXD (D := []) (nilRow 26) s34 rfl (.inl rfl) rfl (.cons (.tmp rfl) (.cons (.tmp rfl) .nil)) rfl
  ·have h7 := ite_f hc2 h5; clear h5
   refine wp_skip ?_
   refine then_normal (hK5 _ _ ?_)
   have s35 := s29.sub (u 0 rfl (u 3 rfl .nil)); clear s29
   refine wp_seq_k fun K8 hK8 => wp_seq_k fun K9 hK9 => ?_
   refine wp_region_lit (qs s35 (.c1 rfl (mv rfl rfl) (.c1 rfl (ob_lens rfl Try.underlying85 (.tmp rfl)) (.c1 rfl (ob_eql rfl (.tmp rfl) (opd_int rfl)) (.ce (u 0 rfl (u 3 rfl (u 23 rfl .nil))))))) fun _ _ s39 => wn hK9 ?_); clear s35
   refine cond_split s39 (.tmp rfl) (fun hc3 => ?_) (fun hc3 => ?_)
   ·have h8 := ite_t hc3 h7; clear h7
    refine wp_seq_k fun K10 hK10 => wp_region_lit (qs s39 (.c1 rfl (ob_assign rfl opd_is) .cz) fun _ _ s40 => ?_); clear s39
    have s41 := St.adopt s40 (G := RowF (nilRow 27) 91 k_api_Held []) rfl (rowNilN _ _ _ _ _); clear s40
    refine qs s41 (.c1 rfl (ob_assign rfl (opd_int rfl)) (.ce (u 4 rfl (u 5 rfl .nil)))) fun _ _ s43 => wn hK10 ?_; clear s41
    have s44 := St.drop (A := [_]) s43; clear s43
    refine wp_ret ?_
    obtain rfl := Option.some.inj h8
    exact leaveXD (D := []) (nilRow 27) s44 rfl (.inl rfl) rfl (.cons (.tmp rfl) (.cons (.tmp rfl) .nil)) rfl
   ·have h9 := ite_f hc3 h7; clear h7
    refine wp_skip ?_
    refine then_normal (hK8 _ _ ?_)
    have s45 := s39.sub (u 0 rfl (u 3 rfl .nil)); clear s39
    refine wp_seq_k fun K11 hK11 => wp_region_lit (qs s45 (.c1 rfl (ob_assign rfl opd_is) .cz) fun _ _ s46 => ?_); clear s45
    have s47 := St.adopt s46 (G := RowF (nilRow 28) 91 k_api_Held []) rfl (rowNilN _ _ _ _ _); clear s46
    refine wn hK11 ?_
    have s48 := s47.sub (u 0 rfl (u 3 rfl (u 6 rfl .nil))); clear s47
    obtain ⟨g1, h10⟩ := guard_some h9; clear h9
    refine wp_seq_k fun K12 hK12 => wp_region_lit (qs s48 (.c1 rfl (mv rfl rfl) (.c1 rfl (mv rfl rfl) .cz)) fun _ _ s50 => ?_); clear s48
    refine qx (B' := (fun v1 : Value => [RowF v1 91 k_api_Held (([] : (List api_Held)) ++ p1), BF b1 91 k_api_Held p2])) s50 rfl (ob_appendL2 (A := []) rfl Try.underlying85 ap91 (Zr.iso (f := t_api_Held) (x := (⟨(List.replicate 32 (0 : Int)), (⟨(0 : Int), (0 : Int), [], (0 : Int), [], (List.replicate 32 (0 : Int)), (List.replicate 32 (0 : Int)), [], []⟩ : api_Op), []⟩ : api_Held)) (Zr.pair (Zr.arr 32 (Zr.int .u8)) (Zr.pair (Zr.iso (f := t_api_Op) (x := (⟨(0 : Int), (0 : Int), [], (0 : Int), [], (List.replicate 32 (0 : Int)), (List.replicate 32 (0 : Int)), [], []⟩ : api_Op)) (Zr.pair (Zr.int .i64) (Zr.pair (Zr.int .u32) (Zr.pair (Zr.sl _) (Zr.pair (Zr.int .i64) (Zr.pair (Zr.sl _) (Zr.pair (Zr.arr 32 (Zr.int .u8)) (Zr.pair (Zr.arr 32 (Zr.int .u8)) (Zr.pair Zr.str (Zr.pair (Zr.sl _) Zr.nil)))))))))) (Zr.pair (Zr.sl _) Zr.nil)))) (by decide) (.tmp rfl) (.tmp rfl) rfl g1) fun v1 _ _ s51 => ?_; clear s50
    refine qs s51 (.c1 rfl (ob_assign rfl (.tmp rfl)) (.ce (u 3 rfl (u 6 rfl .nil)))) fun _ _ s53 => wn hK12 ?_; clear s51
    obtain ⟨g2, h11⟩ := guard_some h10; clear h10
    refine wp_seq_k fun K13 hK13 => wp_region_lit (qs s53 (.c1 rfl (mv rfl rfl) (.c1 rfl (ob_load rfl tk91 (.tmp rfl) (.tail _ (.head _)) (LG.refl _ _)) (.c1 rfl (ob_mkSlice (k := k_api_Held) (xs := ([p2] : (List api_Held))) rfl Try.underlying85 zz91 sz91 (Zr.iso (f := t_api_Held) (x := (⟨(List.replicate 32 (0 : Int)), (⟨(0 : Int), (0 : Int), [], (0 : Int), [], (List.replicate 32 (0 : Int)), (List.replicate 32 (0 : Int)), [], []⟩ : api_Op), []⟩ : api_Held)) (Zr.pair (Zr.arr 32 (Zr.int .u8)) (Zr.pair (Zr.iso (f := t_api_Op) (x := (⟨(0 : Int), (0 : Int), [], (0 : Int), [], (List.replicate 32 (0 : Int)), (List.replicate 32 (0 : Int)), [], []⟩ : api_Op)) (Zr.pair (Zr.int .i64) (Zr.pair (Zr.int .u32) (Zr.pair (Zr.sl _) (Zr.pair (Zr.int .i64) (Zr.pair (Zr.sl _) (Zr.pair (Zr.arr 32 (Zr.int .u8)) (Zr.pair (Zr.arr 32 (Zr.int .u8)) (Zr.pair Zr.str (Zr.pair (Zr.sl _) Zr.nil)))))))))) (Zr.pair (Zr.sl _) Zr.nil)))) (by decide) (by decide) (.cons (.tmp rfl) rfl (LS.arr' (i := 0) (ys := ([p2] : (List api_Held))) (by simp) (by rfl)) (.nil _))) .cz))) fun _ _ s56 => ?_); clear s53
    refine qx (B' := (fun v2 : Value => [RowF v2 91 k_api_Held ((([] : (List api_Held)) ++ p1) ++ ([p2] : (List api_Held))), BF b1 91 k_api_Held p2])) s56 rfl (ob_appendL2 (A := []) rfl Try.underlying85 ap91 (Zr.iso (f := t_api_Held) (x := (⟨(List.replicate 32 (0 : Int)), (⟨(0 : Int), (0 : Int), [], (0 : Int), [], (List.replicate 32 (0 : Int)), (List.replicate 32 (0 : Int)), [], []⟩ : api_Op), []⟩ : api_Held)) (Zr.pair (Zr.arr 32 (Zr.int .u8)) (Zr.pair (Zr.iso (f := t_api_Op) (x := (⟨(0 : Int), (0 : Int), [], (0 : Int), [], (List.replicate 32 (0 : Int)), (List.replicate 32 (0 : Int)), [], []⟩ : api_Op)) (Zr.pair (Zr.int .i64) (Zr.pair (Zr.int .u32) (Zr.pair (Zr.sl _) (Zr.pair (Zr.int .i64) (Zr.pair (Zr.sl _) (Zr.pair (Zr.arr 32 (Zr.int .u8)) (Zr.pair (Zr.arr 32 (Zr.int .u8)) (Zr.pair Zr.str (Zr.pair (Zr.sl _) Zr.nil)))))))))) (Zr.pair (Zr.sl _) Zr.nil)))) (by decide) (.tmp rfl) (.tmp rfl) rfl g2) fun v2 _ _ s57 => ?_; clear s56
    refine qs s57 (.c1 rfl (ob_assign rfl (.tmp rfl)) (.c1 rfl (ob_assign rfl (opd_int rfl)) (.ce (u 4 rfl (u 5 rfl .nil))))) fun _ _ s60 => wn hK13 ?_; clear s57
    have s61 := St.drop (A := [_]) s60; clear s60
    refine wp_ret ?_
    obtain rfl := Option.some.inj h11
    exact leaveXD (D := []) v2 s61 rfl (.inl rfl) rfl (.cons (.tmp rfl) (.cons (.tmp rfl) .nil)) rfl
theorem c_cabalref19_Without (k : Nat) (p1 : (List api_Held)) (p2 : Int) (r : ((List api_Held) × Int)) (h0 : cabalref19_Without k p1 p2 = some r) (ok : Ok) (w0 : World) (z0 : Value) (z1 : Value) (u0 : ((ksl k_api_Held).V p1).holds ok w0 z0) (u1 : ((kint .i64).V p2).holds ok w0 z1) :
 GivesX Try.prog 70 [z0, z1] ok w0 [] (fun g : Value => resFact [is g, (kint .i64).V r.2]) (fun g : Value => [RowF (g) 91 k_api_Held r.1]) := by
 unfold cabalref19_Without at h0
 refine enterX (N := 29) Try.func70 rfl rfl (of_decide_eq_true rfl) (.cons u0 (.cons u1 .nil)) List.nodup_nil (fun _ h => by cases h) (fun _ h => by cases h) fun a1 s1 => ?_
 refine wp_seq_k fun K1 hK1 => wp_region_lit (qs s1 (.c1 rfl (ob_assign rfl opd_is) .cz) fun _ _ s2 => ?_); clear s1
 have s3 := St.adopt s2 (G := RowF (nilRow 29) 91 k_api_Held []) rfl (rowNilN _ _ _ _ _); clear s2
 refine qs s3 (.c1 rfl (ob_assign rfl (opd_int rfl)) (.ce (u 0 rfl (u 1 rfl .nil)))) fun _ _ s5 => wn hK1 ?_; clear s3
 have s6 := St.drop (A := []) s5; clear s5
 refine wp_seq_k fun K2 hK2 => wp_seq_k fun K3 hK3 => ?_
 obtain ⟨x1, e_x1, h1⟩ := bind_some h0; clear h0
 refine wp_region_lit (qs s6 (.c1 rfl (mv rfl rfl) (.c1 rfl (ob_callD0 (args := [_]) rfl .direct hb63 (fun a w s => by exact c_cabalref19_Right k _ _ e_x1 _ _ _ (s.arg (.tmp rfl)))) (.c1 rfl (ob_not rfl (.tmp rfl)) (.ce (u 0 rfl (u 1 rfl (u 9 rfl .nil))))))) fun _ _ s10 => wn hK3 ?_); clear s6
 refine cond_split s10 (.tmp rfl) (fun hc1 => ?_) (fun hc1 => ?_)
 ·have h2 := ite_t hc1 h1; clear h1
  refine wp_seq_k fun K4 hK4 => wp_region_lit (qs s10 (.c1 rfl (ob_assign rfl opd_is) .cz) fun _ _ s11 => ?_); clear s10
  have s12 := St.adopt s11 (G := RowF (nilRow 30) 91 k_api_Held []) rfl (rowNilN _ _ _ _ _); clear s11
  refine qs s12 (.c1 rfl (ob_assign rfl (opd_int rfl)) (.ce (u 4 rfl (u 5 rfl .nil)))) fun _ _ s14 => wn hK4 ?_; clear s12
  refine wp_ret ?_
  obtain rfl := Option.some.inj h2
  exact leaveXD (D := []) (nilRow 30) s14 rfl (.inl rfl) rfl (.cons (.tmp rfl) (.cons (.tmp rfl) .nil)) rfl
 ·have h3 := ite_f hc1 h1; clear h1
  refine wp_skip ?_
  refine then_normal (hK2 _ _ ?_)
  have s15 := s10.sub (u 0 rfl (u 1 rfl .nil)); clear s10
  refine wp_seq_k fun K5 hK5 => wp_seq_k fun K6 hK6 => ?_
  obtain ⟨x2, e_x2, h4⟩ := bind_some h3; clear h3; replace e_x2 := Option.some.inj e_x2
  refine wp_region_lit (qs s15 (.c1 rfl (mv rfl rfl) (.c1 rfl (ob_lss rfl (.tmp rfl) (opd_int rfl)) (.c1 rfl (mv rfl rfl) (.cg rfl rfl rfl rfl (fun hb => ob_move rfl (.tmp rfl)) (.cg rfl rfl rfl rfl (fun hb => ob_move rfl (.tmp rfl)) (.cg rfl rfl rfl rfl (fun hb => (Ob.uncond (t := 14) hb rfl (ob_lens rfl Try.underlying85 (.tmp rfl)))) (.cg rfl rfl rfl rfl (fun hb => (Ob.uncond (t := 15) hb rfl ((Ob.uncond (t := 13) hb rfl (ob_geq rfl (.tmp rfl) (.tmp rfl)))))) (.c1 rfl ((ob_or2 rfl (.tmp rfl) opd_bool (.tmp rfl)).nm e_x2) (.ce (u 0 rfl (u 1 rfl (u 17 rfl .nil)))))))))))) fun _ _ s24 => wn hK6 ?_); clear s15
  refine cond_split s24 (.tmp rfl) (fun hc2 => ?_) (fun hc2 => ?_)
  ·have h5 := ite_t hc2 h4; clear h4
   refine wp_seq_k fun K7 hK7 => wp_region_lit (qs s24 (.c1 rfl (ob_assign rfl opd_is) .cz) fun _ _ s25 => ?_); clear s24
   have s26 := St.adopt s25 (G := RowF (nilRow 31) 91 k_api_Held []) rfl (rowNilN _ _ _ _ _); clear s25
   refine qs s26 (.c1 rfl (ob_assign rfl (opd_int rfl)) (.ce (u 4 rfl (u 5 rfl .nil)))) fun _ _ s28 => wn hK7 ?_; clear s26
   refine wp_ret ?_
   obtain rfl := Option.some.inj h5
   exact leaveXD (D := []) (nilRow 31) s28 rfl (.inl rfl) rfl (.cons (.tmp rfl) (.cons (.tmp rfl) .nil)) rfl
  ·have h6 := ite_f hc2 h4; clear h4
   refine wp_skip ?_
   refine then_normal (hK5 _ _ ?_)
   have s29 := s24.sub (u 0 rfl (u 1 rfl .nil)); clear s24
   refine wp_seq_k fun K8 hK8 => wp_region_lit (qs s29 (.c1 rfl (ob_assign rfl opd_is) .cz) fun _ _ s30 => ?_); clear s29
   have s31 := St.adopt s30 (G := RowF (nilRow 32) 91 k_api_Held []) rfl (rowNilN _ _ _ _ _); clear s30
   refine wn hK8 ?_
   have s32 := s31.sub (u 0 rfl (u 1 rfl (u 6 rfl .nil))); clear s31
   obtain ⟨x3, e_x3, h7⟩ := bind_some h6; clear h6
   obtain ⟨g1, h8⟩ := guard_some h7; clear h7
   refine wp_seq_k fun K9 hK9 => wp_region_lit (qs s32 (.c1 rfl (mv rfl rfl) (.c1 rfl (mv rfl rfl) (.c1 rfl (mv rfl rfl) (.c1 rfl (ob_cuts rfl Try.underlying85 sz91 (.tmp rfl) .none (.some (.tmp rfl)) e_x3) .cz)))) fun _ _ s36 => ?_); clear s32
   refine qx (B' := (fun v1 : Value => [RowF v1 91 k_api_Held (([] : (List api_Held)) ++ x3)])) s36 rfl (ob_appendL2 (A := []) rfl Try.underlying85 ap91 (Zr.iso (f := t_api_Held) (x := (⟨(List.replicate 32 (0 : Int)), (⟨(0 : Int), (0 : Int), [], (0 : Int), [], (List.replicate 32 (0 : Int)), (List.replicate 32 (0 : Int)), [], []⟩ : api_Op), []⟩ : api_Held)) (Zr.pair (Zr.arr 32 (Zr.int .u8)) (Zr.pair (Zr.iso (f := t_api_Op) (x := (⟨(0 : Int), (0 : Int), [], (0 : Int), [], (List.replicate 32 (0 : Int)), (List.replicate 32 (0 : Int)), [], []⟩ : api_Op)) (Zr.pair (Zr.int .i64) (Zr.pair (Zr.int .u32) (Zr.pair (Zr.sl _) (Zr.pair (Zr.int .i64) (Zr.pair (Zr.sl _) (Zr.pair (Zr.arr 32 (Zr.int .u8)) (Zr.pair (Zr.arr 32 (Zr.int .u8)) (Zr.pair Zr.str (Zr.pair (Zr.sl _) Zr.nil)))))))))) (Zr.pair (Zr.sl _) Zr.nil)))) (by decide) (.tmp rfl) (.tmp rfl) rfl g1) fun v1 _ _ s37 => ?_; clear s36
   refine qs s37 (.c1 rfl (ob_assign rfl (.tmp rfl)) (.ce (u 0 rfl (u 1 rfl (u 6 rfl .nil))))) fun _ _ s39 => wn hK9 ?_; clear s37
   obtain ⟨x4, e_x4, h9⟩ := bind_some h8; clear h8
   obtain ⟨g2, h10⟩ := guard_some h9; clear h9
   refine wp_seq_k fun K10 hK10 => wp_region_lit (qs s39 (.c1 rfl (mv rfl rfl) (.c1 rfl (mv rfl rfl) (.c1 rfl (mv rfl rfl) (.c1 rfl (ob_add rfl (.tmp rfl) (opd_int rfl)) (.c1 rfl (ob_cuts rfl Try.underlying85 sz91 (.tmp rfl) (.some (.tmp rfl)) .none e_x4) .cz))))) fun _ _ s44 => ?_); clear s39
   refine qx (B' := (fun v2 : Value => [RowF v2 91 k_api_Held ((([] : (List api_Held)) ++ x3) ++ x4)])) s44 rfl (ob_appendL2 (A := []) rfl Try.underlying85 ap91 (Zr.iso (f := t_api_Held) (x := (⟨(List.replicate 32 (0 : Int)), (⟨(0 : Int), (0 : Int), [], (0 : Int), [], (List.replicate 32 (0 : Int)), (List.replicate 32 (0 : Int)), [], []⟩ : api_Op), []⟩ : api_Held)) (Zr.pair (Zr.arr 32 (Zr.int .u8)) (Zr.pair (Zr.iso (f := t_api_Op) (x := (⟨(0 : Int), (0 : Int), [], (0 : Int), [], (List.replicate 32 (0 : Int)), (List.replicate 32 (0 : Int)), [], []⟩ : api_Op)) (Zr.pair (Zr.int .i64) (Zr.pair (Zr.int .u32) (Zr.pair (Zr.sl _) (Zr.pair (Zr.int .i64) (Zr.pair (Zr.sl _) (Zr.pair (Zr.arr 32 (Zr.int .u8)) (Zr.pair (Zr.arr 32 (Zr.int .u8)) (Zr.pair Zr.str (Zr.pair (Zr.sl _) Zr.nil)))))))))) (Zr.pair (Zr.sl _) Zr.nil)))) (by decide) (.tmp rfl) (.tmp rfl) rfl g2) fun v2 _ _ s45 => ?_; clear s44
   refine qs s45 (.c1 rfl (ob_assign rfl (.tmp rfl)) (.c1 rfl (ob_assign rfl (opd_int rfl)) (.ce (u 4 rfl (u 5 rfl .nil))))) fun _ _ s48 => wn hK10 ?_; clear s45
   refine wp_ret ?_
   obtain rfl := Option.some.inj h10
   exact leaveXD (D := []) v2 s48 rfl (.inl rfl) rfl (.cons (.tmp rfl) (.cons (.tmp rfl) .nil)) rfl
end Go.Proofs.Ytdlnfgpcnfbjiaa
