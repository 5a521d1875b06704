/- Several parts of this proof in one file. No condition. -/
import Derived.Test.YtdlnfgpcnfbjiaaGyWalk
import Derived.Test.YtdlnfgpcnfbjiaaKyB
namespace Go.Proofs.Ytdlnfgpcnfbjiaa
open Go Go.RowKit Go.Proofs.Kit Go.Proofs.Pure
set_option linter.unusedVariables false
set_option linter.unusedSimpArgs false
set_option maxRecDepth 100000
set_option maxHeartbeats 2000000
abbrev kP : Kd (List (List Int)) := ksl (karr 32 (kint .u8))
abbrev kW : Kd (List Int) := ksl (kint .i64)
abbrev kB : Kd (List api_Box) := ksl k_api_Box
def kopO {a b c : Type} (k2 : Kd a) (f2 : api_Op → a) (k4 : Kd b) (f4 : api_Op → b) (k8 : Kd c) (f8 : api_Op → c) : Kd api_Op :=
  kiso (kpair (kint .i64) (kpair (kint .u32) (kpair k2 (kpair (kint .i64) (kpair k4 (kpair (karr 32 (kint .u8)) (kpair (karr 32 (kint .u8)) (kpair kstr (kpair k8 knil)))))))))
    (fun x => (x.Author, x.Seq, f2 x, x.Kind, f4 x, x.Of, x.Check, x.Text, f8 x, ()))
abbrev kF1 (S : Nat) : Kd api_Op := kopO (kfr S kP) (·.Parents) kW (·.Who) kB (·.Boxes)
abbrev kF2 (S : Nat) : Kd api_Op := kopO (kfr S kP) (·.Parents) (kfr S kW) (·.Who) kB (·.Boxes)
abbrev kF3 (S : Nat) : Kd api_Op := kopO (kfr S kP) (·.Parents) (kfr S kW) (·.Who) (kfr S kB) (·.Boxes)
theorem lsF1 (S : Nat) (x : api_Op) (y : List (List Int)) : LSK k_api_Op (kfr S kP) (kF1 S) 2 x y { x with Parents := y } := LSK.iso (LSK.snd _ (LSK.snd _ (LSK.fst (k := kP) (k' := kfr S kP) _ rfl _ _)))
theorem lsF2 (S : Nat) (x : api_Op) (y : List Int) : LSK (kF1 S) (kfr S kW) (kF2 S) 4 x y { x with Who := y } := LSK.iso (LSK.snd _ (LSK.snd _ (LSK.snd _ (LSK.snd _ (LSK.fst (k := kW) (k' := kfr S kW) _ rfl _ _)))))
theorem lsF3 (S : Nat) (x : api_Op) (y : List api_Box) : LSK (kF2 S) (kfr S kB) (kF3 S) 70 x y { x with Boxes := y } := LSK.iso (LSK.snd _ (LSK.snd _ (LSK.snd _ (LSK.snd _ (LSK.snd _ (LSK.snd _ (LSK.snd _ (LSK.snd _ (LSK.fst (k := kB) (k' := kfr S kB) _ rfl _ _)))))))))
theorem kF3_fr (S : Nat) (x : api_Op) {ok : Ok} {w : World} {v : Value} (h : ((kF3 S).V x).holds ok w v) : ((kfr S k_api_Op).V x).holds ok w v := by
  obtain ⟨cs, h, e⟩ := h
  refine ⟨cs, ?_, e⟩
  obtain ⟨c1, d1, e1, h1, c2, d2, e2, h2, c3, d3, e3, h3, c4, d4, e4, h4, c5, d5, e5, h5, c6, d6, e6, h6, c7, d7, e7, h7, c8, d8, e8, h8, c9, d9, e9, h9, h10⟩ := h
  exact ⟨c1, d1, e1, h1, c2, d2, e2, h2, c3, d3, e3, h3, c4, d4, e4, h4, c5, d5, e5, h5, c6, d6, e6, KFlat.arr (KFlat.int _) _ _ _ _ _ _ h6, c7, d7, e7, KFlat.arr (KFlat.int _) _ _ _ _ _ _ h7, c8, d8, e8, h8, c9, d9, e9, h9, h10⟩
theorem tkF (S : Nat) {P : Program} {T : TypeId} (h : TK P T k_api_Op) : TK P T (kF3 S) := ⟨h.size, h.agg⟩
theorem cF_graph_clone (k : Nat) (p1 : api_Op) (r : api_Op) (h0 : graph_clone k p1 = some r) (ok : Ok) (w0 : World) (z0 : Value) (u0 : (k_api_Op.V p1).holds ok w0 z0) :
 Gives Try.prog 94 [z0] ok w0 ((kfr w0.heap.size k_api_Op).V r) := by
 unfold graph_clone at h0
 refine enter (N := 16) Try.func94 rfl rfl (of_decide_eq_true rfl) (.cons u0 .nil) fun a1 s1 => ?_
 refine wp_seq_k fun K1 hK1 => wp_region_lit ?_
 refine qx (B' := (fun b1 : Nat => [BF b1 44 k_api_Op p1])) s1 rfl (ob_box rfl (.tmp rfl)) fun b1 _ _ s2 => ?_; clear s1
 refine qx (B' := (fun b2 : Nat => [BF b2 44 k_api_Op (⟨(0 : Int), (0 : Int), [], (0 : Int), [], (List.replicate 32 (0 : Int)), (List.replicate 32 (0 : Int)), [], []⟩ : api_Op), BF b1 44 k_api_Op p1])) s2 rfl (ob_new (k := k_api_Op) rfl zz44 (Zr.iso (f := t_api_Op) (x := (⟨(0 : Int), (0 : Int), [], (0 : Int), [], (List.replicate 32 (0 : Int)), (List.replicate 32 (0 : Int)), [], []⟩ : api_Op)) (Zr.pair (Zr.int .i64) (Zr.pair (Zr.int .u32) (Zr.pair (Zr.sl _) (Zr.pair (Zr.int .i64) (Zr.pair (Zr.sl _) (Zr.pair (Zr.arr 32 (Zr.int .u8)) (Zr.pair (Zr.arr 32 (Zr.int .u8)) (Zr.pair Zr.str (Zr.pair (Zr.sl _) Zr.nil))))))))))) fun b2 _ _ s3 => ?_; clear s2
 refine wn hK1 ?_
 have s4 := s3.sub (u 1 rfl (u 2 rfl .nil)); clear s3
 refine wp_seq_k fun K2 hK2 => ?_
 obtain ⟨x1, e_x1, h1⟩ := bind_some h0; clear h0
 obtain ⟨x2, e_x2, h2⟩ := bind_some h1; clear h1
 obtain ⟨x3, e_x3, h3⟩ := bind_some h2; clear h2
 refine wp_goes (Fs := [(ptrB b1 2), ((ksl (karr 32 (kint .u8))).V p1.Parents), ((kfr w0.heap.size (ksl (karr 32 (kint .u8)))).V x1), (ptrB b1 4), ((ksl (kint .i64)).V p1.Who), ((kfr w0.heap.size (ksl (kint .i64))).V x2), (ptrB b1 70), ((ksl k_api_Box).V p1.Boxes), ((kfr w0.heap.size (ksl k_api_Box)).V x3), (ptrB b1 2)]) (bits := [0, 1, 3, 0, 8, 31, 0, 64, 255, 223, 1023, 2047, 4095, 8191, 16383]) (m := 10) (todo := 0) mx s4 ?_; clear s4
 refine goes_last (by kernel_rfl) rfl (oc (av 1 rfl rfl Av.nil) rfl rfl (ob_fieldAddr (off' := 2) rfl Try.underlying44 rfl sz40 (by decide) (.tmp rfl) rfl) (oc (an 0 rfl rfl rfl Av.nil) rfl rfl (ob_load rfl tk40 (.tmp rfl) (.tail _ (.head _)) (lg_api_Op_Parents p1)) (oc (an 1 rfl rfl rfl Av.nil) rfl rfl ((ObF.fr (k := (ksl (karr 32 (kint .u8)))) (X := x1) (ob_callF (F := resFact [((ksl (karr 32 (kint .u8))).V x1)]) (args := [_]) rfl .direct hb142 (fun a w s fs gs hf hg => by obtain rfl := hf.unnil; obtain rfl := hg.unnil; exact c_slices_Clone_api_Key_api_Key k _ _ e_x1 _ _ _ (s.arg (.tmp rfl))) (by exact fun g => ResF.all (.row (.head _) (KFlat.arr (KFlat.int _)) .nil))))) (oc (av 1 rfl rfl Av.nil) rfl rfl (ob_fieldAddr (off' := 4) rfl Try.underlying44 rfl sz41 (by decide) (.tmp rfl) rfl) (oc (an 3 rfl rfl rfl Av.nil) rfl rfl (ob_load rfl tk41 (.tmp rfl) (.tail _ (.head _)) (lg_api_Op_Who p1)) (oc (an 4 rfl rfl rfl Av.nil) rfl rfl ((ObF.fr (k := (ksl (kint .i64))) (X := x2) (ob_callF (F := resFact [((ksl (kint .i64)).V x2)]) (args := [_]) rfl .direct hb80 (fun a w s fs gs hf hg => by obtain rfl := hf.unnil; obtain rfl := hg.unnil; exact c_slices_Clone_int_int k _ _ e_x2 _ _ _ (s.arg (.tmp rfl))) (by exact fun g => ResF.all (.row (.head _) (KFlat.int _) .nil))))) (oc (av 1 rfl rfl Av.nil) rfl rfl (ob_fieldAddr (off' := 70) rfl Try.underlying44 rfl sz42 (by decide) (.tmp rfl) rfl) (oc (an 6 rfl rfl rfl Av.nil) rfl rfl (ob_load rfl tk42 (.tmp rfl) (.tail _ (.head _)) (lg_api_Op_Boxes p1)) (oc (an 7 rfl rfl rfl Av.nil) rfl rfl ((ObF.fr (k := (ksl k_api_Box)) (X := x3) (ob_callF (F := resFact [((ksl k_api_Box).V x3)]) (args := [_]) rfl .direct hb143 (fun a w s fs gs hf hg => by obtain rfl := hf.unnil; obtain rfl := hg.unnil; exact c_slices_Clone_api_Box_api_Box k _ _ e_x3 _ _ _ (s.arg (.tmp rfl))) (by exact fun g => ResF.all (.row (.head _) kf_api_Box .nil))))) (oc (av 1 rfl rfl Av.nil) rfl rfl (ob_fieldAddr (off' := 2) rfl Try.underlying44 rfl sz40 (by decide) (.tmp rfl) rfl) opsS_nil)))))))))) (out_old (t := 1) rfl rfl (out_old (t := 2) rfl rfl (out_new (i := 2) (by decide) rfl rfl (out_new (i := 5) (by decide) rfl rfl (out_new (i := 8) (by decide) rfl rfl (out_new (i := 9) (by decide) rfl rfl out_nil)))))) fun _ _ s5 => ?_
 refine seq_opx0 (B' := (fun _ : Unit => [BF b2 44 k_api_Op (⟨(0 : Int), (0 : Int), [], (0 : Int), [], (List.replicate 32 (0 : Int)), (List.replicate 32 (0 : Int)), [], []⟩ : api_Op), BF b1 44 (kF1 w0.heap.size) ({ p1 with Parents := x1 })])) s5 rfl rfl (ob_storeK (A := [_]) rfl (TK.fr tk40) (.tmp rfl) (.tmp rfl) rfl (lsF1 w0.heap.size p1 x1) rfl) fun _ a6 w6 s6 => ?_; clear s5
 refine qs s6 (.c1 rfl (ob_fieldAddr (off' := 4) rfl Try.underlying44 rfl sz41 (by decide) (.tmp rfl) rfl) .cz) fun _ _ s7 => ?_; clear s6
 refine seq_opx0 (B' := (fun _ : Unit => [BF b2 44 k_api_Op (⟨(0 : Int), (0 : Int), [], (0 : Int), [], (List.replicate 32 (0 : Int)), (List.replicate 32 (0 : Int)), [], []⟩ : api_Op), BF b1 44 (kF2 w0.heap.size) ({ { p1 with Parents := x1 } with Who := x2 })])) s7 rfl rfl (ob_storeK (A := [_]) rfl (TK.fr tk41) (.tmp rfl) (.tmp rfl) rfl (lsF2 w0.heap.size ({ p1 with Parents := x1 }) x2) rfl) fun _ a8 w8 s8 => ?_; clear s7
 obtain ⟨x4, e_x4, h4⟩ := bind_some h3; clear h3; replace e_x4 := Option.some.inj e_x4
 refine qs s8 (.c1 rfl (ob_fieldAddr (off' := 70) rfl Try.underlying44 rfl sz42 (by decide) (.tmp rfl) rfl) .cz) fun _ _ s9 => ?_; clear s8
 refine seq_opx0 (B' := (fun _ : Unit => [BF b2 44 k_api_Op (⟨(0 : Int), (0 : Int), [], (0 : Int), [], (List.replicate 32 (0 : Int)), (List.replicate 32 (0 : Int)), [], []⟩ : api_Op), BF b1 44 (kF3 w0.heap.size) x4])) s9 rfl rfl (ob_storeK (A := [_]) rfl (TK.fr tk42) (.tmp rfl) (.tmp rfl) rfl (e_x4 ▸ lsF3 w0.heap.size ({ { p1 with Parents := x1 } with Who := x2 }) x3) rfl) fun _ a10 w10 s10 => ?_; clear s9
 refine wn hK2 ?_
 have s11 := s10.sub (u 1 rfl (u 2 rfl .nil)); clear s10
 refine wp_seq_k fun K3 hK3 => wp_region_lit (qs s11 (.c1 rfl (ob_load rfl (tkF w0.heap.size tk44) (.tmp rfl) (.tail _ (.head _)) (LG.refl _ _)) .cz) fun _ _ s12 => ?_); clear s11
 refine seq_opx0 (B' := (fun _ : Unit => [BF b2 44 (kfr w0.heap.size k_api_Op) x4, BF b1 44 (kF3 w0.heap.size) x4])) s12 rfl rfl (ob_storeK (A := []) rfl (TK.fr tk44) (.tmp rfl) (.conv (.tmp rfl) (fun ok w v h => kF3_fr w0.heap.size x4 h)) rfl (LSK.whole rfl) rfl) fun _ a13 w13 s13 => ?_; clear s12
 refine wn hK3 ?_
 have s14 := s13.sub (u 2 rfl .nil); clear s13
 have s15 := St.drop (A := [_]) s14; clear s14
 refine wp_ret ?_
 obtain rfl := Option.some.inj h4
 exact leave (m := [(kfr w0.heap.size k_api_Op).V x4]) s15 (.inl rfl) rfl (.cons (.cell rfl (TK.fr tk44) (.head _) (LG.refl _ _)) .nil)
theorem cF_graph_Add (k : Nat) (p1 : (List api_Node)) (p2 : (List Int)) (p3 : api_Op) (r : ((List api_Node) × Int)) (h0 : graph_Add k p1 p2 p3 = some r) (ok : Ok) (w0 : World) (z0 : Value) (z1 : Value) (z2 : Value) (u0 : ((ksl k_api_Node).V p1).holds ok w0 z0) (u1 : ((karr 32 (kint .u8)).V p2).holds ok w0 z1) (u2 : (k_api_Op.V p3).holds ok w0 z2) :
 GivesX Try.prog 43 [z0, z1, z2] ok w0 [] (fun g : Value => resFact [is g, (kint .i64).V r.2]) (fun g : Value => [RowF (g) 46 (kfr w0.heap.size k_api_Node) r.1]) := by
 unfold graph_Add at h0
 refine enterX (N := 74) Try.func43 rfl rfl (of_decide_eq_true rfl) (.cons u0 (.cons u1 (.cons u2 .nil))) List.nodup_nil (fun _ h => by cases h) (fun _ h => by cases h) fun a1 s1 => ?_
 refine wp_seq_k fun K1 hK1 => wp_region_lit ?_
 refine qx (B' := (fun b1 : Nat => [BF b1 39 (karr 32 (kint .u8)) p2])) s1 rfl (ob_box rfl (.tmp rfl)) fun b1 _ _ s2 => ?_; clear s1
 refine qx (B' := (fun b2 : Nat => [BF b2 44 k_api_Op p3, BF b1 39 (karr 32 (kint .u8)) p2])) s2 rfl (ob_box rfl (.tmp rfl)) fun b2 _ _ s3 => ?_; clear s2
 refine qs s3 (.c1 rfl (ob_assign rfl opd_is) .cz) fun _ _ s4 => ?_; clear s3
 have s5 := St.adopt s4 (G := RowF (nilRow 1) 46 (kfr w0.heap.size k_api_Node) []) rfl (rowNilN _ _ _ _ _); clear s4
 refine qs s5 (.c1 rfl (ob_assign rfl (opd_int rfl)) (.ce (u 0 rfl (u 4 rfl (u 5 rfl .nil))))) fun _ _ s7 => wn hK1 ?_; clear s5
 have s8 := St.drop (A := []) s7; clear s7
 refine wp_seq_k fun K2 hK2 => wp_seq_k fun K3 hK3 => ?_
 obtain ⟨x1, e_x1, h1⟩ := bind_some h0; clear h0
 obtain ⟨x2, e_x2, h2⟩ := bind_some h1; clear h1
 refine wp_region_lit (qs s8 (.c1 rfl (mv rfl rfl) (.c1 rfl (ob_callD0 (args := [_]) rfl .direct hb24 (fun a w s => by exact c_graph_Right k _ _ e_x1 _ _ _ (s.arg (.tmp rfl)))) (.c1 rfl (ob_not rfl (.tmp rfl)) (.c1 rfl (mv rfl rfl) (.cg rfl rfl rfl rfl (fun hb => ob_load rfl tk44 (.tmp rfl) (.head _) (LG.refl _ _)) (.cg rfl rfl rfl rfl (fun hb => (Ob.uncond (t := 17) hb rfl (ob_callD0 (args := [_]) rfl .direct hb91 (fun a w s => by exact c_frame_Right k _ _ (ite_t hb e_x2) _ _ _ (s.arg (.tmp rfl)))))) (.cg rfl rfl rfl rfl (fun hb => (Ob.uncond (t := 18) hb rfl (ob_not rfl (.tmp rfl)))) (.c1 rfl (ob_or2 rfl (.tmp rfl) opd_bool (.tmp rfl)) (.ce (u 0 rfl (u 4 rfl (u 5 rfl (u 20 rfl .nil))))))))))))) fun _ _ s17 => wn hK3 ?_); clear s8
 refine cond_split s17 (.tmp rfl) (fun hc1 => ?_) (fun hc1 => ?_)
 ·have h3 := ite_t hc1 h2; clear h2
  refine wp_seq_k fun K4 hK4 => wp_region_lit (qs s17 (.c1 rfl (ob_assign rfl opd_is) .cz) fun _ _ s18 => ?_); clear s17
  have s19 := St.adopt s18 (G := RowF (nilRow 5) 46 (kfr w0.heap.size k_api_Node) []) rfl (rowNilN _ _ _ _ _); clear s18
  refine qs s19 (.c1 rfl (ob_assign rfl (opd_int rfl)) (.ce (u 6 rfl (u 7 rfl .nil)))) fun _ _ s21 => wn hK4 ?_; clear s19
  have s22 := St.drop (A := [_]) s21; clear s21
  have s23 := St.drop (A := [_]) s22; clear s22
  refine wp_ret ?_
  obtain rfl := Option.some.inj h3
  exact leaveXD (D := []) (nilRow 5) s23 rfl (.inl rfl) rfl (.cons (.tmp rfl) (.cons (.tmp rfl) .nil)) rfl
 ·have h4 := ite_f hc1 h2; clear h2
  refine wp_skip ?_
  refine then_normal (hK2 _ _ ?_)
  have s24 := s17.sub (u 0 rfl (u 4 rfl (u 5 rfl .nil))); clear s17
  refine wp_seq_k fun K5 hK5 => wp_block ?_
  obtain ⟨x3, e_x3, h5⟩ := bind_some h4; clear h4
  refine wp_seq_k fun K6 hK6 => wp_region_lit (qs s24 (.c1 rfl (mv rfl rfl) (.c1 rfl (ob_load rfl tk39 (.tmp rfl) (.tail _ (.head _)) (LG.refl _ _)) (.c1 rfl (ob_callD0 (args := [_, _]) rfl .direct hb48 (fun a w s => by exact c_graph_Find k _ _ _ e_x3 _ _ _ _ (s.arg (.tmp rfl)) (s.arg (.tmp rfl)))) (.c1 rfl (ob_geq rfl (.tmp rfl) (opd_int rfl)) (.c1 rfl (ob_assign rfl (.tmp rfl)) (.ce (u 0 rfl (u 4 rfl (u 5 rfl (u 21 rfl .nil)))))))))) fun _ _ s30 => wn hK6 ?_); clear s24
  refine cond_split s30 (.tmp rfl) (fun hc2 => ?_) (fun hc2 => ?_)
  ·have h6 := ite_t hc2 h5; clear h5
   refine wp_seq_k fun K7 hK7 => wp_region_lit (qs s30 (.c1 rfl (ob_assign rfl opd_is) .cz) fun _ _ s31 => ?_); clear s30
   have s32 := St.adopt s31 (G := RowF (nilRow 6) 46 (kfr w0.heap.size k_api_Node) []) rfl (rowNilN _ _ _ _ _); clear s31
   refine qs s32 (.c1 rfl (ob_assign rfl (opd_int rfl)) (.ce (u 6 rfl (u 7 rfl .nil)))) fun _ _ s34 => wn hK7 ?_; clear s32
   have s35 := St.drop (A := [_]) s34; clear s34
   have s36 := St.drop (A := [_]) s35; clear s35
   refine wp_ret ?_
   obtain rfl := Option.some.inj h6
   exact leaveXD (D := []) (nilRow 6) s36 rfl (.inl rfl) rfl (.cons (.tmp rfl) (.cons (.tmp rfl) .nil)) rfl
  ·have h7 := ite_f hc2 h5; clear h5
   refine wp_seq_k fun K8 hK8 => wp_region_lit (qs s30 (.c1 rfl (mv rfl rfl) (.c1 rfl (ob_lens rfl Try.underlying22 (.tmp rfl)) (.c1 rfl (ob_eql rfl (.tmp rfl) (opd_int rfl)) (.c1 rfl (ob_assign rfl (.tmp rfl)) (.ce (u 0 rfl (u 4 rfl (u 5 rfl (u 26 rfl .nil))))))))) fun _ _ s41 => wn hK8 ?_); clear s30
   refine cond_split s41 (.tmp rfl) (fun hc3 => ?_) (fun hc3 => ?_)
   ·have h8 := ite_t hc3 h7; clear h7
    refine wp_seq_k fun K9 hK9 => wp_region_lit (qs s41 (.c1 rfl (ob_assign rfl opd_is) .cz) fun _ _ s42 => ?_); clear s41
    have s43 := St.adopt s42 (G := RowF (nilRow 7) 46 (kfr w0.heap.size k_api_Node) []) rfl (rowNilN _ _ _ _ _); clear s42
    refine qs s43 (.c1 rfl (ob_assign rfl (opd_int rfl)) (.ce (u 6 rfl (u 7 rfl .nil)))) fun _ _ s45 => wn hK9 ?_; clear s43
    have s46 := St.drop (A := [_]) s45; clear s45
    have s47 := St.drop (A := [_]) s46; clear s46
    refine wp_ret ?_
    obtain rfl := Option.some.inj h8
    exact leaveXD (D := []) (nilRow 7) s47 rfl (.inl rfl) rfl (.cons (.tmp rfl) (.cons (.tmp rfl) .nil)) rfl
   ·have h9 := ite_f hc3 h7; clear h7
    refine wp_skip ?_
    refine in_normal ?_
    refine then_normal (hK5 _ _ ?_)
    have s48 := s41.sub (u 0 rfl (u 4 rfl (u 5 rfl .nil))); clear s41
    obtain ⟨x4, e_x4, h10⟩ := bind_some h9; clear h9
    refine wp_seq_k fun K10 hK10 => wp_region_lit (qs s48 (.c1 rfl (mv rfl rfl) (.c1 rfl (ob_fieldAddr (off' := 2) rfl Try.underlying44 rfl sz40 (by decide) (.tmp rfl) rfl) (.c1 rfl (ob_load rfl tk40 (.tmp rfl) (.head _) (lg_api_Op_Parents p3)) .cz))) fun _ _ s51 => ?_); clear s48
    refine qx (B' := (fun v1 : Value => [RowF v1 3 (kint .i64) x4.1, BF b2 44 k_api_Op p3, BF b1 39 (karr 32 (kint .u8)) p2])) s51 rfl (ob_callL0 (args := [_, _]) (L := []) rfl .direct hb92 (List.Perm.refl _) (fun a w s => by exact c_graph_past k _ _ _ e_x4 _ _ _ _ (s.arg (.tmp rfl)) (s.arg (.tmp rfl))) (by exact fun _ => rfl)) fun v1 _ _ s52 => ?_; clear s51
    refine qs s52 (.c1 rfl (mv rfl rfl) (.c1 rfl (ob_extract rfl (.tmp rfl) rfl) (.c1 rfl (ob_extract rfl (.tmp rfl) rfl) (.c1 rfl (ob_assign rfl (.tmp rfl)) (.c1 rfl (ob_assign rfl (.tmp rfl)) (.ce (u 0 rfl (u 4 rfl (u 5 rfl (u 8 rfl (u 9 rfl .nil))))))))))) fun _ _ s58 => wn hK10 ?_; clear s52
    refine wp_seq_k fun K11 hK11 => wp_block ?_
    refine wp_seq_k fun K12 hK12 => wp_region_lit (qs s58 (.c1 rfl (mv rfl rfl) (.c1 rfl (ob_neq rfl (.tmp rfl) (opd_int rfl)) (.c1 rfl (ob_assign rfl (.tmp rfl)) (.ce (u 0 rfl (u 4 rfl (u 5 rfl (u 8 rfl (u 9 rfl (u 37 rfl .nil)))))))))) fun _ _ s62 => wn hK12 ?_); clear s58
    refine cond_split s62 (.tmp rfl) (fun hc4 => ?_) (fun hc4 => ?_)
    ·have h11 := ite_t hc4 h10; clear h10
     refine wp_seq_k fun K13 hK13 => wp_region_lit (qs s62 (.c1 rfl (mv rfl rfl) (.c1 rfl (ob_assign rfl opd_is) .cz)) fun _ _ s64 => ?_); clear s62
     have s65 := St.adopt s64 (G := RowF (nilRow 8) 46 (kfr w0.heap.size k_api_Node) []) rfl (rowNilN _ _ _ _ _); clear s64
     refine qs s65 (.c1 rfl (ob_assign rfl (.tmp rfl)) (.ce (u 6 rfl (u 7 rfl .nil)))) fun _ _ s67 => wn hK13 ?_; clear s65
     have s68 := St.drop (A := [_]) s67; clear s67
     have s69 := St.drop (A := [_]) s68; clear s68
     have s70 := St.drop (A := [_]) s69; clear s69
     refine wp_ret ?_
     obtain rfl := Option.some.inj h11
     exact leaveXD (D := []) (nilRow 8) s70 rfl (.inl rfl) rfl (.cons (.tmp rfl) (.cons (.tmp rfl) .nil)) rfl
    ·have h12 := ite_f hc4 h10; clear h10
     obtain ⟨x5, e_x5, h13⟩ := bind_some h12; clear h12
     refine wp_seq_k fun K14 hK14 => wp_region_lit (qs s62 (.c1 rfl (mv rfl rfl) (.c1 rfl (ob_load rfl tk44 (.tmp rfl) (.tail _ (.head _)) (LG.refl _ _)) (.c1 rfl (mv rfl rfl) (.c1 rfl ((ob_lendG (L := [_]) (List.Perm.refl _) (.cons (t := 44) rfl (lendRow (.head _)) .nil) (Flat.res1 (Flat.V KFlat.bool)) (fun _ => ob_callD0 (args := [_, _, _]) rfl .direct hb93 (fun a w s => by exact c_graph_turn k _ _ _ _ e_x5 _ _ _ _ _ (s.arg (.tmp rfl)) (s.arg (.tmp rfl)) (s.arg (.tmp rfl)))))) (.c1 rfl (ob_not rfl (.tmp rfl)) (.c1 rfl (ob_assign rfl (.tmp rfl)) (.ce (u 0 rfl (u 4 rfl (u 5 rfl (u 8 rfl (u 41 rfl .nil)))))))))))) fun _ _ s77 => wn hK14 ?_); clear s62
     refine cond_split s77 (.tmp rfl) (fun hc5 => ?_) (fun hc5 => ?_)
     ·have h14 := ite_t hc5 h13; clear h13
      refine wp_seq_k fun K15 hK15 => wp_region_lit (qs s77 (.c1 rfl (ob_assign rfl opd_is) .cz) fun _ _ s78 => ?_); clear s77
      have s79 := St.adopt s78 (G := RowF (nilRow 9) 46 (kfr w0.heap.size k_api_Node) []) rfl (rowNilN _ _ _ _ _); clear s78
      refine qs s79 (.c1 rfl (ob_assign rfl (opd_int rfl)) (.ce (u 6 rfl (u 7 rfl .nil)))) fun _ _ s81 => wn hK15 ?_; clear s79
      have s82 := St.drop (A := [_]) s81; clear s81
      have s83 := St.drop (A := [_]) s82; clear s82
      have s84 := St.drop (A := [_]) s83; clear s83
      refine wp_ret ?_
      obtain rfl := Option.some.inj h14
      exact leaveXD (D := []) (nilRow 9) s84 rfl (.inl rfl) rfl (.cons (.tmp rfl) (.cons (.tmp rfl) .nil)) rfl
     ·have h15 := ite_f hc5 h13; clear h13
      refine wp_skip ?_
      refine in_normal ?_
      refine then_normal (hK11 _ _ ?_)
      have s85 := s77.sub (u 0 rfl (u 4 rfl (u 5 rfl (u 8 rfl .nil)))); clear s77
      refine wp_seq_k fun K16 hK16 => wp_region_lit (qs s85 (.c1 rfl (ob_assign rfl opd_is) .cz) fun _ _ s86 => ?_); clear s85
      have s87 := St.adopt s86 (G := RowF (nilRow 10) 46 (kfr w0.heap.size k_api_Node) []) rfl (rowNilN _ _ _ _ _); clear s86
      refine wn hK16 ?_
      have s88 := s87.sub (u 0 rfl (u 4 rfl (u 5 rfl (u 8 rfl (u 10 rfl .nil))))); clear s87
      refine wp_seq_k fun K17 hK17 => wp_seq_k fun K18 hK18 => ?_
      refine wp_region_lit (qs s88 (.c1 rfl (mv rfl rfl) (.c1 rfl (ob_lens rfl Try.underlying22 (.tmp rfl)) (.c1 rfl (ob_move rfl (opd_int rfl)) (.ce (u 4 rfl (u 5 rfl (u 8 rfl (u 10 rfl (u 47 rfl (u 48 rfl (u 49 rfl .nil))))))))))) fun _ _ s92 => wn hK18 ?_); clear s88
      have hj1 : ∀ (y1 : (List api_Node)) (v2 : Value) (a : Act) (w : World), (graph_Add.j1 k p3 p2 x4) y1 = some r → St ⟨74, w0, ok, (idsOf [])⟩ [BF b1 39 (karr 32 (kint .u8)) p2, BF b2 44 k_api_Op p3, RowF v1 3 (kint .i64) x4.1, RowF v2 46 (kfr w0.heap.size k_api_Node) y1] [(4, (ptrB b1 0)), (5, (ptrB b2 0)), (8, (is v1)), (10, (is v2))] a w → K17 a w := by
       intro y1 v2 a93 w93 h16 s93
       unfold graph_Add.j1 at h16
       refine hK17 _ _ ?_
       refine wp_seq_k fun K19 hK19 => ?_
       have s94 := St.freezeFr (A := [_, _]) (ts := [8]) s93 rfl (KFlat.int _) (.cons rfl .nil); clear s93
       obtain ⟨x6, e_x6, h17⟩ := bind_some h16; clear h16
       refine wp_goes (Fs := [(is v2), ((karr 32 (kint .u8)).V p2), (k_api_Op.V p3), ((kfr w0.heap.size k_api_Op).V x6), ((kfr w0.heap.size (ksl (kint .i64))).V x4.1), ((kfr w0.heap.size k_api_Node).V (⟨p2, x6, x4.1⟩ : api_Node)), ((ksl (kfr w0.heap.size k_api_Node)).V ([(⟨p2, x6, x4.1⟩ : api_Node)] : (List api_Node)))]) (bits := [0, 0, 0, 4, 0, 30, 62, 127, 255, 511]) (m := 7) (todo := 0) mx s94 ?_; clear s94
       refine goes_last (by kernel_rfl) rfl (oc (av 10 rfl rfl Av.nil) rfl rfl (mv rfl rfl) (oc (av 4 rfl rfl Av.nil) rfl rfl (ob_load rfl tk39 (.tmp rfl) (.head _) (LG.refl _ _)) (oc (av 5 rfl rfl Av.nil) rfl rfl (ob_load rfl tk44 (.tmp rfl) (.tail _ (.head _)) (LG.refl _ _)) (oc (an 2 rfl rfl rfl Av.nil) rfl rfl (ObF.fr (k := k_api_Op) (X := x6) (ob_callFr (args := [_]) rfl .direct hb94 (fun a w s => by exact cF_graph_clone k _ _ e_x6 _ _ _ (s.arg (.tmp rfl))))) (oc (av 8 rfl rfl Av.nil) rfl rfl (mv rfl rfl) (oc (an 1 rfl rfl rfl (an 3 rfl rfl rfl (an 4 rfl rfl rfl Av.nil))) rfl rfl (ob_mkStruct (K := kfr w0.heap.size k_api_Node) (X0 := (⟨(List.replicate 32 (0 : Int)), (⟨(0 : Int), (0 : Int), [], (0 : Int), [], (List.replicate 32 (0 : Int)), (List.replicate 32 (0 : Int)), [], []⟩ : api_Op), []⟩ : api_Node)) rfl Try.underlying46 zz46 rfl pl46 (Zr.fr (Zr.iso (f := t_api_Node) (x := (⟨(List.replicate 32 (0 : Int)), (⟨(0 : Int), (0 : Int), [], (0 : Int), [], (List.replicate 32 (0 : Int)), (List.replicate 32 (0 : Int)), [], []⟩ : api_Op), []⟩ : api_Node)) (Zr.pair (Zr.arr 32 (Zr.int .u8)) (Zr.pair (Zr.iso (f := t_api_Op) (x := (⟨(0 : Int), (0 : Int), [], (0 : Int), [], (List.replicate 32 (0 : Int)), (List.replicate 32 (0 : Int)), [], []⟩ : api_Op)) (Zr.pair (Zr.int .i64) (Zr.pair (Zr.int .u32) (Zr.pair (Zr.sl _) (Zr.pair (Zr.int .i64) (Zr.pair (Zr.sl _) (Zr.pair (Zr.arr 32 (Zr.int .u8)) (Zr.pair (Zr.arr 32 (Zr.int .u8)) (Zr.pair Zr.str (Zr.pair (Zr.sl _) Zr.nil)))))))))) (Zr.pair (Zr.sl _) Zr.nil))))) (.cons (Opd.fr (KFlat.arr (KFlat.int _)) (.tmp rfl)) rfl (LS.fr (ls_api_Node_Id (⟨(List.replicate 32 (0 : Int)), (⟨(0 : Int), (0 : Int), [], (0 : Int), [], (List.replicate 32 (0 : Int)), (List.replicate 32 (0 : Int)), [], []⟩ : api_Op), []⟩ : api_Node) p2)) (.cons (.tmp rfl) rfl (LS.fr (ls_api_Node_Op (⟨p2, (⟨(0 : Int), (0 : Int), [], (0 : Int), [], (List.replicate 32 (0 : Int)), (List.replicate 32 (0 : Int)), [], []⟩ : api_Op), []⟩ : api_Node) x6)) (.cons (.tmp rfl) rfl (LS.fr (ls_api_Node_Past (⟨p2, x6, []⟩ : api_Node) x4.1)) (.nil _))))) (oc (an 5 rfl rfl rfl Av.nil) rfl rfl (ob_mkSlice (k := kfr w0.heap.size k_api_Node) (xs := ([(⟨p2, x6, x4.1⟩ : api_Node)] : (List api_Node))) rfl Try.underlying22 zz46 sz46 (Zr.fr (Zr.iso (f := t_api_Node) (x := (⟨(List.replicate 32 (0 : Int)), (⟨(0 : Int), (0 : Int), [], (0 : Int), [], (List.replicate 32 (0 : Int)), (List.replicate 32 (0 : Int)), [], []⟩ : api_Op), []⟩ : api_Node)) (Zr.pair (Zr.arr 32 (Zr.int .u8)) (Zr.pair (Zr.iso (f := t_api_Op) (x := (⟨(0 : Int), (0 : Int), [], (0 : Int), [], (List.replicate 32 (0 : Int)), (List.replicate 32 (0 : Int)), [], []⟩ : api_Op)) (Zr.pair (Zr.int .i64) (Zr.pair (Zr.int .u32) (Zr.pair (Zr.sl _) (Zr.pair (Zr.int .i64) (Zr.pair (Zr.sl _) (Zr.pair (Zr.arr 32 (Zr.int .u8)) (Zr.pair (Zr.arr 32 (Zr.int .u8)) (Zr.pair Zr.str (Zr.pair (Zr.sl _) Zr.nil)))))))))) (Zr.pair (Zr.sl _) Zr.nil))))) (show 1 * k_api_Node.sz ≤ 16777216 by decide) (show 0 < k_api_Node.sz by decide) (.cons (.tmp rfl) rfl (LS.arr' (i := 0) (ys := ([(⟨p2, x6, x4.1⟩ : api_Node)] : (List api_Node))) (by simp) (by rfl)) (.nil _))) opsS_nil))))))) (out_new (i := 0) (by decide) rfl rfl (out_new (i := 6) (by decide) rfl rfl out_nil)) fun _ _ s95 => ?_
       obtain ⟨g1, h18⟩ := guard_some h17; clear h17
       refine qx (B' := (fun v3 : Value => [BF b1 39 (karr 32 (kint .u8)) p2, BF b2 44 k_api_Op p3, RowF v3 46 (kfr w0.heap.size k_api_Node) (y1 ++ ([(⟨p2, x6, x4.1⟩ : api_Node)] : (List api_Node)))])) s95 rfl (ob_appendL2 (A := [_, _]) rfl Try.underlying22 (ApOk.fr ap46) (Zr.fr (Zr.iso (f := t_api_Node) (x := (⟨(List.replicate 32 (0 : Int)), (⟨(0 : Int), (0 : Int), [], (0 : Int), [], (List.replicate 32 (0 : Int)), (List.replicate 32 (0 : Int)), [], []⟩ : api_Op), []⟩ : api_Node)) (Zr.pair (Zr.arr 32 (Zr.int .u8)) (Zr.pair (Zr.iso (f := t_api_Op) (x := (⟨(0 : Int), (0 : Int), [], (0 : Int), [], (List.replicate 32 (0 : Int)), (List.replicate 32 (0 : Int)), [], []⟩ : api_Op)) (Zr.pair (Zr.int .i64) (Zr.pair (Zr.int .u32) (Zr.pair (Zr.sl _) (Zr.pair (Zr.int .i64) (Zr.pair (Zr.sl _) (Zr.pair (Zr.arr 32 (Zr.int .u8)) (Zr.pair (Zr.arr 32 (Zr.int .u8)) (Zr.pair Zr.str (Zr.pair (Zr.sl _) Zr.nil)))))))))) (Zr.pair (Zr.sl _) Zr.nil))))) (show 0 < k_api_Node.sz by decide) (.tmp rfl) (.tmp rfl) rfl g1) fun v3 _ _ s96 => ?_; clear s95
       refine qs s96 (.c1 rfl (ob_assign rfl (.tmp rfl)) (.c1 rfl (ob_assign rfl (opd_int rfl)) (.ce (u 6 rfl (u 7 rfl .nil))))) fun _ _ s99 => wn hK19 ?_; clear s96
       have s100 := St.drop (A := []) s99; clear s99
       have s101 := St.drop (A := []) s100; clear s100
       refine wp_ret ?_
       obtain rfl := Option.some.inj h18
       exact leaveXD (D := []) v3 s101 rfl (.inl rfl) rfl (.cons (.tmp rfl) (.cons (.tmp rfl) .nil)) rfl
      refine wp_block ?_
      have s102 := s92.perm (toFront [_, _, _] (toFront [_, _] (toFront [_] (toFront [] (List.Perm.refl _))))); clear s92
      refine wp_loop_fuel (fun m (q : Int × (List api_Node)) => graph_Add.l1 k p1 p3 p2 x4 m q.1 q.2) r (fun _ => rfl) (fun q a w => ∃ (v4 : Value), St ⟨74, w0, ok, (idsOf [])⟩ [BF b1 39 (karr 32 (kint .u8)) p2, BF b2 44 k_api_Op p3, RowF v1 3 (kint .i64) x4.1, RowF v4 46 (kfr w0.heap.size k_api_Node) q.2] [(4, (ptrB b1 0)), (5, (ptrB b2 0)), (8, (is v1)), (10, (is v4)), (47, ((ksl k_api_Node).V p1)), (48, ((kint .i64).V (p1.length : Int))), (49, ((kint .i64).V q.1))] a w) ?_ k ((0 : Int), ([] : (List api_Node))) _ _ h15 ⟨(nilRow 10), (s102.sub (.cons rfl (.cons rfl (.cons rfl (.cons rfl (.cons rfl (.cons rfl (.cons rfl .nil))))))))⟩
      rintro n1 ⟨y2, y3⟩ a103 w103 h19 ⟨v4, s103⟩ K20 hK20
      replace h19 : graph_Add.l1 k p1 p3 p2 x4 (n1 + 1) y2 y3 = some r := h19; rw [graph_Add.l1] at h19
      have h20 := h19; clear h19
      refine wp_seq_k fun K21 hK21 => wp_region_lit (qs s103 (.c1 rfl (ob_lss rfl (.tmp rfl) (.tmp rfl)) (.ce (u 4 rfl (u 5 rfl (u 8 rfl (u 10 rfl (u 47 rfl (u 48 rfl (u 49 rfl (u 50 rfl .nil)))))))))) fun _ _ s105 => wn hK21 ?_); clear s103
      refine wp_seq_k fun K22 hK22 => ?_
      refine cond_split s105 (.tmp rfl) (fun hc6 => ?_) (fun hc6 => ?_)
      ·have h21 := ite_t hc6 h20; clear h20
       refine wp_skip ?_
       refine then_normal (hK22 _ _ ?_)
       have s106 := s105.sub (u 4 rfl (u 5 rfl (u 8 rfl (u 10 rfl (u 47 rfl (u 48 rfl (u 49 rfl .nil))))))); clear s105
       refine wp_seq_k fun K23 hK23 => wp_block ?_
       obtain ⟨x7, e_x7, h22⟩ := bind_some h21; clear h21
       refine wp_seq_k fun K24 hK24 => wp_region_lit (qs s106 (.c1 rfl (ob_indexAddrs rfl Try.underlying22 sz46 (.tmp rfl) (.tmp rfl) e_x7) (.c1 rfl (ob_loadr rfl tk46 (.tmp rfl)) .cz)) fun _ _ s108 => ?_); clear s106
       refine qx (B' := (fun b3 : Nat => [BF b3 46 k_api_Node (⟨(List.replicate 32 (0 : Int)), (⟨(0 : Int), (0 : Int), [], (0 : Int), [], (List.replicate 32 (0 : Int)), (List.replicate 32 (0 : Int)), [], []⟩ : api_Op), []⟩ : api_Node), BF b1 39 (karr 32 (kint .u8)) p2, BF b2 44 k_api_Op p3, RowF v1 3 (kint .i64) x4.1, RowF v4 46 (kfr w0.heap.size k_api_Node) y3])) s108 rfl (ob_new (k := k_api_Node) rfl zz46 (Zr.iso (f := t_api_Node) (x := (⟨(List.replicate 32 (0 : Int)), (⟨(0 : Int), (0 : Int), [], (0 : Int), [], (List.replicate 32 (0 : Int)), (List.replicate 32 (0 : Int)), [], []⟩ : api_Op), []⟩ : api_Node)) (Zr.pair (Zr.arr 32 (Zr.int .u8)) (Zr.pair (Zr.iso (f := t_api_Op) (x := (⟨(0 : Int), (0 : Int), [], (0 : Int), [], (List.replicate 32 (0 : Int)), (List.replicate 32 (0 : Int)), [], []⟩ : api_Op)) (Zr.pair (Zr.int .i64) (Zr.pair (Zr.int .u32) (Zr.pair (Zr.sl _) (Zr.pair (Zr.int .i64) (Zr.pair (Zr.sl _) (Zr.pair (Zr.arr 32 (Zr.int .u8)) (Zr.pair (Zr.arr 32 (Zr.int .u8)) (Zr.pair Zr.str (Zr.pair (Zr.sl _) Zr.nil)))))))))) (Zr.pair (Zr.sl _) Zr.nil))))) fun b3 _ _ s109 => ?_; clear s108
       refine seq_opx0 (B' := (fun _ : Unit => [BF b3 46 k_api_Node x7, BF b1 39 (karr 32 (kint .u8)) p2, BF b2 44 k_api_Op p3, RowF v1 3 (kint .i64) x4.1, RowF v4 46 (kfr w0.heap.size k_api_Node) y3])) s109 rfl rfl (ob_store (A := []) rfl tk46 (.tmp rfl) (.tmp rfl) rfl (LS.refl _ _ _) rfl) fun _ a110 w110 s110 => ?_; clear s109
       refine wn hK24 ?_
       have s111 := s110.sub (u 4 rfl (u 5 rfl (u 8 rfl (u 10 rfl (u 12 rfl (u 47 rfl (u 48 rfl (u 49 rfl .nil)))))))); clear s110
       obtain ⟨x8, e_x8, h23⟩ := bind_some h22; clear h22
       obtain ⟨x9, e_x9, h24⟩ := bind_some h23; clear h23
       refine wp_goes (Fs := [(is v4), (ptrB b3 0), ((karr 32 (kint .u8)).V x7.Id), (ptrB b3 32), (k_api_Op.V x7.Op), ((kfr w0.heap.size k_api_Op).V x8), (ptrB b3 103), ((ksl (kint .i64)).V x7.Past), ((kfr w0.heap.size (ksl (kint .i64))).V x9), ((kfr w0.heap.size k_api_Node).V (⟨x7.Id, x8, x9⟩ : api_Node)), ((ksl (kfr w0.heap.size k_api_Node)).V ([(⟨x7.Id, x8, x9⟩ : api_Node)] : (List api_Node)))]) (bits := [0, 0, 2, 0, 8, 24, 0, 64, 248, 510, 1022, 2047, 4095]) (m := 11) (todo := 0) mx s111 ?_; clear s111
       refine goes_last (by kernel_rfl) rfl (oc (av 10 rfl rfl Av.nil) rfl rfl (mv rfl rfl) (oc (av 12 rfl rfl Av.nil) rfl rfl (ob_fieldAddr (off' := 0) rfl Try.underlying46 rfl sz39 (by decide) (.tmp rfl) rfl) (oc (an 1 rfl rfl rfl Av.nil) rfl rfl (ob_load rfl tk39 (.tmp rfl) (.head _) (lg_api_Node_Id x7)) (oc (av 12 rfl rfl Av.nil) rfl rfl (ob_fieldAddr (off' := 32) rfl Try.underlying46 rfl sz44 (by decide) (.tmp rfl) rfl) (oc (an 3 rfl rfl rfl Av.nil) rfl rfl (ob_load rfl tk44 (.tmp rfl) (.head _) (lg_api_Node_Op x7)) (oc (an 4 rfl rfl rfl Av.nil) rfl rfl (ObF.fr (k := k_api_Op) (X := x8) (ob_callFr (args := [_]) rfl .direct hb94 (fun a w s => by exact cF_graph_clone k _ _ e_x8 _ _ _ (s.arg (.tmp rfl))))) (oc (av 12 rfl rfl Av.nil) rfl rfl (ob_fieldAddr (off' := 103) rfl Try.underlying46 rfl sz41 (by decide) (.tmp rfl) rfl) (oc (an 6 rfl rfl rfl Av.nil) rfl rfl (ob_load rfl tk41 (.tmp rfl) (.head _) (lg_api_Node_Past x7)) (oc (an 7 rfl rfl rfl Av.nil) rfl rfl ((ObF.fr (k := ksl (kint .i64)) (X := x9) (ob_callF (F := resFact [((ksl (kint .i64)).V x9)]) (args := [_]) rfl .direct hb80 (fun a w s fs gs hf hg => by obtain rfl := hf.unnil; obtain rfl := hg.unnil; exact c_slices_Clone_int_int k _ _ e_x9 _ _ _ (s.arg (.tmp rfl))) (by exact fun g => ResF.all (.row (.head _) (KFlat.int _) .nil))))) (oc (an 2 rfl rfl rfl (an 5 rfl rfl rfl (an 8 rfl rfl rfl Av.nil))) rfl rfl (ob_mkStruct (K := kfr w0.heap.size k_api_Node) (X0 := (⟨(List.replicate 32 (0 : Int)), (⟨(0 : Int), (0 : Int), [], (0 : Int), [], (List.replicate 32 (0 : Int)), (List.replicate 32 (0 : Int)), [], []⟩ : api_Op), []⟩ : api_Node)) rfl Try.underlying46 zz46 rfl pl46 (Zr.fr (Zr.iso (f := t_api_Node) (x := (⟨(List.replicate 32 (0 : Int)), (⟨(0 : Int), (0 : Int), [], (0 : Int), [], (List.replicate 32 (0 : Int)), (List.replicate 32 (0 : Int)), [], []⟩ : api_Op), []⟩ : api_Node)) (Zr.pair (Zr.arr 32 (Zr.int .u8)) (Zr.pair (Zr.iso (f := t_api_Op) (x := (⟨(0 : Int), (0 : Int), [], (0 : Int), [], (List.replicate 32 (0 : Int)), (List.replicate 32 (0 : Int)), [], []⟩ : api_Op)) (Zr.pair (Zr.int .i64) (Zr.pair (Zr.int .u32) (Zr.pair (Zr.sl _) (Zr.pair (Zr.int .i64) (Zr.pair (Zr.sl _) (Zr.pair (Zr.arr 32 (Zr.int .u8)) (Zr.pair (Zr.arr 32 (Zr.int .u8)) (Zr.pair Zr.str (Zr.pair (Zr.sl _) Zr.nil)))))))))) (Zr.pair (Zr.sl _) Zr.nil))))) (.cons (Opd.fr (KFlat.arr (KFlat.int _)) (.tmp rfl)) rfl (LS.fr (ls_api_Node_Id (⟨(List.replicate 32 (0 : Int)), (⟨(0 : Int), (0 : Int), [], (0 : Int), [], (List.replicate 32 (0 : Int)), (List.replicate 32 (0 : Int)), [], []⟩ : api_Op), []⟩ : api_Node) x7.Id)) (.cons (.tmp rfl) rfl (LS.fr (ls_api_Node_Op (⟨x7.Id, (⟨(0 : Int), (0 : Int), [], (0 : Int), [], (List.replicate 32 (0 : Int)), (List.replicate 32 (0 : Int)), [], []⟩ : api_Op), []⟩ : api_Node) x8)) (.cons (.tmp rfl) rfl (LS.fr (ls_api_Node_Past (⟨x7.Id, x8, []⟩ : api_Node) x9)) (.nil _))))) (oc (an 9 rfl rfl rfl Av.nil) rfl rfl (ob_mkSlice (k := kfr w0.heap.size k_api_Node) (xs := ([(⟨x7.Id, x8, x9⟩ : api_Node)] : (List api_Node))) rfl Try.underlying22 zz46 sz46 (Zr.fr (Zr.iso (f := t_api_Node) (x := (⟨(List.replicate 32 (0 : Int)), (⟨(0 : Int), (0 : Int), [], (0 : Int), [], (List.replicate 32 (0 : Int)), (List.replicate 32 (0 : Int)), [], []⟩ : api_Op), []⟩ : api_Node)) (Zr.pair (Zr.arr 32 (Zr.int .u8)) (Zr.pair (Zr.iso (f := t_api_Op) (x := (⟨(0 : Int), (0 : Int), [], (0 : Int), [], (List.replicate 32 (0 : Int)), (List.replicate 32 (0 : Int)), [], []⟩ : api_Op)) (Zr.pair (Zr.int .i64) (Zr.pair (Zr.int .u32) (Zr.pair (Zr.sl _) (Zr.pair (Zr.int .i64) (Zr.pair (Zr.sl _) (Zr.pair (Zr.arr 32 (Zr.int .u8)) (Zr.pair (Zr.arr 32 (Zr.int .u8)) (Zr.pair Zr.str (Zr.pair (Zr.sl _) Zr.nil)))))))))) (Zr.pair (Zr.sl _) Zr.nil))))) (show 1 * k_api_Node.sz ≤ 16777216 by decide) (show 0 < k_api_Node.sz by decide) (.cons (.tmp rfl) rfl (LS.arr' (i := 0) (ys := ([(⟨x7.Id, x8, x9⟩ : api_Node)] : (List api_Node))) (by simp) (by rfl)) (.nil _))) opsS_nil))))))))))) (out_old (t := 4) rfl rfl (out_old (t := 5) rfl rfl (out_old (t := 8) rfl rfl (out_old (t := 10) rfl rfl (out_old (t := 47) rfl rfl (out_old (t := 48) rfl rfl (out_old (t := 49) rfl rfl (out_new (i := 0) (by decide) rfl rfl (out_new (i := 10) (by decide) rfl rfl out_nil))))))))) fun _ _ s112 => ?_
       obtain ⟨g2, h25⟩ := guard_some h24; clear h24
       refine qx (B' := (fun v5 : Value => [BF b3 46 k_api_Node x7, BF b1 39 (karr 32 (kint .u8)) p2, BF b2 44 k_api_Op p3, RowF v1 3 (kint .i64) x4.1, RowF v5 46 (kfr w0.heap.size k_api_Node) (y3 ++ ([(⟨x7.Id, x8, x9⟩ : api_Node)] : (List api_Node)))])) s112 rfl (ob_appendL2 (A := [_, _, _, _]) rfl Try.underlying22 (ApOk.fr ap46) (Zr.fr (Zr.iso (f := t_api_Node) (x := (⟨(List.replicate 32 (0 : Int)), (⟨(0 : Int), (0 : Int), [], (0 : Int), [], (List.replicate 32 (0 : Int)), (List.replicate 32 (0 : Int)), [], []⟩ : api_Op), []⟩ : api_Node)) (Zr.pair (Zr.arr 32 (Zr.int .u8)) (Zr.pair (Zr.iso (f := t_api_Op) (x := (⟨(0 : Int), (0 : Int), [], (0 : Int), [], (List.replicate 32 (0 : Int)), (List.replicate 32 (0 : Int)), [], []⟩ : api_Op)) (Zr.pair (Zr.int .i64) (Zr.pair (Zr.int .u32) (Zr.pair (Zr.sl _) (Zr.pair (Zr.int .i64) (Zr.pair (Zr.sl _) (Zr.pair (Zr.arr 32 (Zr.int .u8)) (Zr.pair (Zr.arr 32 (Zr.int .u8)) (Zr.pair Zr.str (Zr.pair (Zr.sl _) Zr.nil)))))))))) (Zr.pair (Zr.sl _) Zr.nil))))) (show 0 < k_api_Node.sz by decide) (.tmp rfl) (.tmp rfl) rfl g2) fun v5 _ _ s113 => ?_; clear s112
       refine qs s113 (.c1 rfl (ob_assign rfl (.tmp rfl)) .cz) fun _ _ s114 => ?_; clear s113
       refine wpList_nil ?_
       refine in_normal ?_
       refine then_normal (hK23 _ _ ?_)
       have s115 := s114.sub (u 4 rfl (u 5 rfl (u 8 rfl (u 10 rfl (u 47 rfl (u 48 rfl (u 49 rfl .nil))))))); clear s114
       have s116 := St.drop (A := []) s115; clear s115
       refine wp_region_lit (qs s116 (.c1 rfl (ob_add rfl (.tmp rfl) (opd_int rfl)) (.c1 rfl (mv rfl rfl) .cz)) fun _ _ s118 => ?_); clear s116
       refine wpList_nil ?_
       refine then_normal ?_
       exact hK20 ((iadd .i64 y2 (1 : Int)), (y3 ++ ([(⟨x7.Id, x8, x9⟩ : api_Node)] : (List api_Node)))) _ _ h25 ⟨v5, (s118.sub (.cons rfl (.cons rfl (.cons rfl (.cons rfl (.cons rfl (.cons rfl (.cons rfl .nil))))))))⟩
      ·have h26 := ite_f hc6 h20; clear h20
       refine wp_exit ?_
       refine (then_exit (then_exit (in_here ?_)))
       refine then_normal ?_
       exact hj1 y3 v4 _ _ h26 (s105.sub (.cons rfl (.cons rfl (.cons rfl (.cons rfl .nil)))))
end Go.Proofs.Ytdlnfgpcnfbjiaa
