/- Several parts of this proof in one file. No condition. -/
import Derived.Test.YtdlnfgpcnfbjiaaGyKeepF
namespace Go.Proofs.Ytdlnfgpcnfbjiaa
open Go Go.RowKit Go.Proofs.Kit Go.Proofs.Pure
set_option linter.unusedVariables false
set_option linter.unusedSimpArgs false
set_option maxRecDepth 100000
set_option maxHeartbeats 2000000
abbrev kO1 (v1 : Value) : Kd api_Op := kopO (kis v1) (fun _ => ()) kW (·.Who) kB (·.Boxes)
abbrev kO2 (v1 v2 : Value) : Kd api_Op := kopO (kis v1) (fun _ => ()) (kis v2) (fun _ => ()) kB (·.Boxes)
abbrev kO3 (v1 v2 v3 : Value) : Kd api_Op := kopO (kis v1) (fun _ => ()) (kis v2) (fun _ => ()) (kis v3) (fun _ => ())
theorem lsO1 (v1 : Value) (x : api_Op) : LSK k_api_Op (kis v1) (kO1 v1) 2 x () x := LSK.iso (LSK.snd _ (LSK.snd _ (LSK.fst (k := kP) (k' := kis v1) _ rfl _ _)))
theorem lsO2 (v1 v2 : Value) (x : api_Op) : LSK (kO1 v1) (kis v2) (kO2 v1 v2) 4 x () x := LSK.iso (LSK.snd _ (LSK.snd _ (LSK.snd _ (LSK.snd _ (LSK.fst (k := kW) (k' := kis v2) _ rfl _ _)))))
theorem lsO3 (v1 v2 v3 : Value) (x : api_Op) : LSK (kO2 v1 v2) (kis v3) (kO3 v1 v2 v3) 70 x () x := LSK.iso (LSK.snd _ (LSK.snd _ (LSK.snd _ (LSK.snd _ (LSK.snd _ (LSK.snd _ (LSK.snd _ (LSK.snd _ (LSK.fst (k := kB) (k' := kis v3) _ rfl _ _)))))))))
theorem lgO1 (v1 v2 v3 : Value) (x : api_Op) : LG (kO3 v1 v2 v3) (kis v1) 2 x () := LG.iso (LG.snd _ (LG.snd _ (LG.fst _ _ _)))
theorem lgO2 (v1 v2 v3 : Value) (x : api_Op) : LG (kO3 v1 v2 v3) (kis v2) 4 x () := LG.iso (LG.snd _ (LG.snd _ (LG.snd _ (LG.snd _ (LG.fst _ _ _)))))
theorem lgO3 (v1 v2 v3 : Value) (x : api_Op) : LG (kO3 v1 v2 v3) (kis v3) 70 x () := LG.iso (LG.snd _ (LG.snd _ (LG.snd _ (LG.snd _ (LG.snd _ (LG.snd _ (LG.snd _ (LG.snd _ (LG.fst _ _ _)))))))))
theorem lendOp {L : List OF} {v1 v2 v3 : Value} {x : api_Op} (h1 : RowF v1 39 (karr 32 (kint .u8)) x.Parents ∈ L) (h2 : RowF v2 3 (kint .i64) x.Who ∈ L) (h3 : RowF v3 78 k_api_Box x.Boxes ∈ L) :
    ∀ ok w u, ((kO3 v1 v2 v3).V x).holds ok w u → (∀ q, q ∈ L → q.holds ok w) → (∀ c, c ∈ idsOf L → ok c) → (k_api_Op.V x).holds ok w u := by
  rintro ok w u ⟨cs, h, e⟩ g1 g2
  have up : Up (LetAll L) (kO3 v1 v2 v3) k_api_Op x x := Up.iso (Up.pair (Up.refl _ _) (Up.pair (Up.refl _ _) (Up.pair (Up.row (LetAll.row h1)) (Up.pair (Up.refl _ _) (Up.pair (Up.row (LetAll.row h2)) (Up.pair (Up.refl _ _) (Up.pair (Up.refl _ _) (Up.pair (Up.refl _ _) (Up.pair (Up.row (LetAll.row h3)) (Up.refl _ _))))))))))
  exact ⟨cs, up ok w cs ⟨g1, g2⟩ h, e⟩
theorem pl78 : (match Try.prog.underlying 78 with | some (.struct fs) => fs.toList.mapM (fun f => (Try.prog.info? f.type).map fun i => (f.offset, i.size)) | _ => none) = some [(0, 1), (1, 34), (35, 1)] := by kernel_rfl
theorem c_caballaw15_GraphKeeps (k : Nat) (p1 : (List api_Node)) (p2 : (List Int)) (p3 : api_Op) (r : Bool) (h0 : caballaw15_GraphKeeps k p1 p2 p3 = some r) (ok : Ok) (w0 : World) (z0 : Value) (z1 : Value) (z2 : Value) (u0 : ((ksl k_api_Node).V p1).holds ok w0 z0) (u1 : ((karr 32 (kint .u8)).V p2).holds ok w0 z1) (u2 : (k_api_Op.V p3).holds ok w0 z2) :
 Gives Try.prog 13 [z0, z1, z2] ok w0 (resFact [kbool.V r]) := by
 unfold caballaw15_GraphKeeps at h0
 refine enter (N := 137) Try.func13 rfl rfl (of_decide_eq_true rfl) (.cons u0 (.cons u1 (.cons u2 .nil))) fun a1 s1 => ?_
 refine wp_seq_k fun K1 hK1 => wp_region_lit ?_
 refine qx (B' := (fun b4 : Nat => [BF b4 39 (karr 32 (kint .u8)) p2])) s1 rfl (ob_box rfl (.tmp rfl)) fun b4 _ _ s2 => ?_; clear s1
 refine qx (B' := (fun b5 : Nat => [BF b5 44 k_api_Op p3, BF b4 39 (karr 32 (kint .u8)) p2])) s2 rfl (ob_box rfl (.tmp rfl)) fun b5 _ _ s3 => ?_; clear s2
 refine qs s3 (.c1 rfl (ob_assign rfl opd_bool) (.ce (u 0 rfl (u 4 rfl (u 5 rfl .nil))))) fun _ _ s5 => wn hK1 ?_; clear s3
 refine wp_seq_k fun K2 hK2 => wp_seq_k fun K3 hK3 => ?_
 obtain ⟨x1, e_x1, h1⟩ := bind_some h0; clear h0
 refine wp_region_lit (qs s5 (.c1 rfl (ob_callD0 (args := []) rfl .direct hb47 (fun a w s => by exact c_caballaw15_alive k _ e_x1 _ _)) (.c1 rfl (ob_not rfl (.tmp rfl)) (.ce (u 0 rfl (u 4 rfl (u 5 rfl (u 19 rfl .nil))))))) fun _ _ s8 => wn hK3 ?_); clear s5
 refine cond_split s8 (.tmp rfl) (fun hc1 => ?_) (fun hc1 => ?_)
 ·have h2 := ite_t hc1 h1; clear h1
  refine wp_seq_k fun K4 hK4 => wp_region_lit (qs s8 (.c1 rfl (ob_assign rfl opd_bool) (.ce (u 6 rfl .nil))) fun _ _ s10 => wn hK4 ?_); clear s8
  have s11 := St.drop (A := []) s10; clear s10
  have s12 := St.drop (A := []) s11; clear s11
  refine wp_ret ?_
  obtain rfl := Option.some.inj h2
  exact leave s12 (.inl rfl) rfl (.cons (.tmp rfl) .nil)
 ·have h3 := ite_f hc1 h1; clear h1
  refine wp_skip ?_
  refine then_normal (hK2 _ _ ?_)
  have s13 := s8.sub (u 0 rfl (u 4 rfl (u 5 rfl .nil))); clear s8
  refine wp_seq_k fun K5 hK5 => wp_seq_k fun K6 hK6 => ?_
  obtain ⟨x2, e_x2, h4⟩ := bind_some h3; clear h3
  obtain ⟨x3, e_x3, h5⟩ := bind_some h4; clear h4
  refine wp_region_lit (qs s13 (.c1 rfl (mv rfl rfl) (.c1 rfl (ob_callD0 (args := [_]) rfl .direct hb23 (fun a w s => by exact c_cabalref15_Great k _ _ e_x2 _ _ _ (s.arg (.tmp rfl)))) (.c1 rfl (mv rfl rfl) (.cg rfl rfl rfl rfl (fun hb => ob_load rfl tk44 (.tmp rfl) (.head _) (LG.refl _ _)) (.cg rfl rfl rfl rfl (fun hb => (Ob.uncond (t := 23) hb rfl (ob_callD0 (args := [_]) rfl .direct hb51 (fun a w s => by exact c_cabalref11_Great k _ _ (ite_t hb e_x3) _ _ _ (s.arg (.tmp rfl)))))) (.c1 rfl (ob_or2 rfl (.tmp rfl) opd_bool (.tmp rfl)) (.ce (u 0 rfl (u 4 rfl (u 5 rfl (u 25 rfl .nil))))))))))) fun _ _ s20 => wn hK6 ?_); clear s13
  refine cond_split s20 (.tmp rfl) (fun hc2 => ?_) (fun hc2 => ?_)
  ·have h6 := ite_t hc2 h5; clear h5
   obtain ⟨x4, e_x4, h7⟩ := bind_some h6; clear h6
   refine wp_seq_k fun K7 hK7 => wp_region_lit (qs s20 (.c1 rfl (ob_callD0 (args := []) rfl .direct hb47 (fun a w s => by exact c_caballaw15_alive k _ e_x4 _ _)) (.c1 rfl (ob_assign rfl (.tmp rfl)) (.ce (u 6 rfl .nil)))) fun _ _ s23 => wn hK7 ?_); clear s20
   have s24 := St.drop (A := []) s23; clear s23
   have s25 := St.drop (A := []) s24; clear s24
   refine wp_ret ?_
   obtain rfl := Option.some.inj h7
   exact leave s25 (.inl rfl) rfl (.cons (.tmp rfl) .nil)
  ·have h8 := ite_f hc2 h5; clear h5
   refine wp_skip ?_
   refine then_normal (hK5 _ _ ?_)
   have s26 := s20.sub (u 0 rfl (u 4 rfl (u 5 rfl .nil))); clear s20
   obtain ⟨ga1, h9⟩ := guard_some h8; clear h8
   obtain ⟨ga2, h10⟩ := guard_some h9; clear h9
   obtain ⟨ga3, h11⟩ := guard_some h10; clear h10
   obtain ⟨ga4, h12⟩ := guard_some h11; clear h11
   refine wp_seq_k fun K8 hK8 => wp_region_lit (qs s26 (.c1 rfl (ob_load rfl tk44 (.tmp rfl) (.head _) (LG.refl _ _)) .cz) fun _ _ s27 => ?_); clear s26
   refine qx (B' := (fun b7 : Nat => [BF b7 44 k_api_Op (⟨(0 : Int), (0 : Int), [], (0 : Int), [], (List.replicate 32 (0 : Int)), (List.replicate 32 (0 : Int)), [], []⟩ : api_Op), BF b5 44 k_api_Op p3, BF b4 39 (karr 32 (kint .u8)) p2])) s27 rfl (ob_new (k := k_api_Op) rfl zz44 (Zr.iso (f := t_api_Op) (x := (⟨(0 : Int), (0 : Int), [], (0 : Int), [], (List.replicate 32 (0 : Int)), (List.replicate 32 (0 : Int)), [], []⟩ : api_Op)) (Zr.pair (Zr.int .i64) (Zr.pair (Zr.int .u32) (Zr.pair (Zr.sl _) (Zr.pair (Zr.int .i64) (Zr.pair (Zr.sl _) (Zr.pair (Zr.arr 32 (Zr.int .u8)) (Zr.pair (Zr.arr 32 (Zr.int .u8)) (Zr.pair Zr.str (Zr.pair (Zr.sl _) Zr.nil))))))))))) fun b7 _ _ s28 => ?_; clear s27
   refine seq_opx0 (B' := (fun _ : Unit => [BF b7 44 k_api_Op p3, BF b5 44 k_api_Op p3, BF b4 39 (karr 32 (kint .u8)) p2])) s28 rfl rfl (ob_store (A := []) rfl tk44 (.tmp rfl) (.tmp rfl) rfl (LS.refl _ _ _) rfl) fun _ _ _ s29 => ?_; clear s28
   refine wn hK8 ?_
   have s30 := s29.sub (u 0 rfl (u 4 rfl (u 5 rfl (u 7 rfl .nil)))); clear s29
   refine wp_seq_k fun K9 hK9 => wp_region_lit ?_
   refine qx (B' := (fun e1 : Value => [RowF e1 39 (karr 32 (kint .u8)) ([] : (List (List Int))), BF b7 44 k_api_Op p3, BF b5 44 k_api_Op p3, BF b4 39 (karr 32 (kint .u8)) p2])) s30 rfl (ob_emptyRow (k := (karr 32 (kint .u8))) rfl Try.underlying40 sz39) fun e1 _ _ s31 => ?_; clear s30
   refine qs s31 (.c1 rfl (ob_fieldAddr (off' := 2) rfl Try.underlying44 rfl sz40 (by decide) (.tmp rfl) rfl) (.c1 rfl (ob_load rfl tk40 (.tmp rfl) (.tail _ (.tail _ (.head _))) (lg_api_Op_Parents p3)) .cz)) fun _ _ s32 => ?_; clear s31
   refine qx (B' := (fun v1 : Value => [RowF v1 39 (karr 32 (kint .u8)) p3.Parents, BF b7 44 k_api_Op p3, BF b5 44 k_api_Op p3, BF b4 39 (karr 32 (kint .u8)) p2])) s32 rfl (ob_appendL2 (A := []) rfl Try.underlying40 ap39 (Zr.arr 32 (Zr.int .u8)) (by decide) (.tmp rfl) (.tmp rfl) rfl ga1) fun v1 _ _ s33 => ?_; clear s32
   refine qs s33 (.c1 rfl (ob_fieldAddr (off' := 2) rfl Try.underlying44 rfl sz40 (by decide) (.tmp rfl) rfl) .cz) fun _ _ s34 => ?_; clear s33
   refine seq_opx0 (B' := (fun _ : Unit => [RowF v1 39 (karr 32 (kint .u8)) p3.Parents, BF b7 44 (kO1 v1) p3, BF b5 44 k_api_Op p3, BF b4 39 (karr 32 (kint .u8)) p2])) s34 rfl rfl (ob_storeRowV (A := [_]) rfl ⟨tk40.size, tk40.agg⟩ (.tmp rfl) (.tmp rfl) (.head _) rfl (lsO1 v1 p3) rfl) fun _ _ _ s35 => ?_; clear s34
   refine wn hK9 ?_
   have s36 := s35.sub (u 0 rfl (u 4 rfl (u 5 rfl (u 7 rfl .nil)))); clear s35
   refine wp_seq_k fun K10 hK10 => wp_region_lit ?_
   refine qx (B' := (fun e2 : Value => [RowF e2 3 (kint .i64) ([] : (List Int)), RowF v1 39 (karr 32 (kint .u8)) p3.Parents, BF b7 44 (kO1 v1) p3, BF b5 44 k_api_Op p3, BF b4 39 (karr 32 (kint .u8)) p2])) s36 rfl (ob_emptyRow (k := (kint .i64)) rfl Try.underlying41 sz3) fun e2 _ _ s37 => ?_; clear s36
   refine qs s37 (.c1 rfl (ob_fieldAddr (off' := 4) rfl Try.underlying44 rfl sz41 (by decide) (.tmp rfl) rfl) (.c1 rfl (ob_load rfl tk41 (.tmp rfl) (.tail _ (.tail _ (.tail _ (.head _)))) (lg_api_Op_Who p3)) .cz)) fun _ _ s38 => ?_; clear s37
   refine qx (B' := (fun v2 : Value => [RowF v2 3 (kint .i64) p3.Who, RowF v1 39 (karr 32 (kint .u8)) p3.Parents, BF b7 44 (kO1 v1) p3, BF b5 44 k_api_Op p3, BF b4 39 (karr 32 (kint .u8)) p2])) s38 rfl (ob_appendL2 (A := []) rfl Try.underlying41 ap3 (Zr.int .i64) (by decide) (.tmp rfl) (.tmp rfl) rfl ga2) fun v2 _ _ s39 => ?_; clear s38
   refine qs s39 (.c1 rfl (ob_fieldAddr (off' := 4) rfl Try.underlying44 rfl sz41 (by decide) (.tmp rfl) rfl) .cz) fun _ _ s40 => ?_; clear s39
   refine seq_opx0 (B' := (fun _ : Unit => [RowF v2 3 (kint .i64) p3.Who, RowF v1 39 (karr 32 (kint .u8)) p3.Parents, BF b7 44 (kO2 v1 v2) p3, BF b5 44 k_api_Op p3, BF b4 39 (karr 32 (kint .u8)) p2])) s40 rfl rfl (ob_storeRowV (A := [_, _]) rfl ⟨tk41.size, tk41.agg⟩ (.tmp rfl) (.tmp rfl) (.head _) rfl (lsO2 v1 v2 p3) rfl) fun _ _ _ s41 => ?_; clear s40
   refine wn hK10 ?_
   have s42 := s41.sub (u 0 rfl (u 4 rfl (u 5 rfl (u 7 rfl .nil)))); clear s41
   refine wp_seq_k fun K11 hK11 => wp_region_lit ?_
   refine qx (B' := (fun e3 : Value => [RowF e3 78 k_api_Box ([] : (List api_Box)), RowF v2 3 (kint .i64) p3.Who, RowF v1 39 (karr 32 (kint .u8)) p3.Parents, BF b7 44 (kO2 v1 v2) p3, BF b5 44 k_api_Op p3, BF b4 39 (karr 32 (kint .u8)) p2])) s42 rfl (ob_emptyRow (k := k_api_Box) rfl Try.underlying42 sz78) fun e3 _ _ s43 => ?_; clear s42
   refine qs s43 (.c1 rfl (ob_fieldAddr (off' := 70) rfl Try.underlying44 rfl sz42 (by decide) (.tmp rfl) rfl) (.c1 rfl (ob_load rfl tk42 (.tmp rfl) (.tail _ (.tail _ (.tail _ (.tail _ (.head _))))) (lg_api_Op_Boxes p3)) .cz)) fun _ _ s44 => ?_; clear s43
   refine qx (B' := (fun v3 : Value => [RowF v3 78 k_api_Box p3.Boxes, RowF v2 3 (kint .i64) p3.Who, RowF v1 39 (karr 32 (kint .u8)) p3.Parents, BF b7 44 (kO2 v1 v2) p3, BF b5 44 k_api_Op p3, BF b4 39 (karr 32 (kint .u8)) p2])) s44 rfl (ob_appendL2 (A := []) rfl Try.underlying42 ap78 (Zr.iso (f := t_api_Box) (x := (⟨(0 : Int), (⟨(List.replicate 32 (0 : Int)), (0 : Int), (0 : Int)⟩ : api_Head), []⟩ : api_Box)) (Zr.pair (Zr.int .i64) (Zr.pair (Zr.iso (f := t_api_Head) (x := (⟨(List.replicate 32 (0 : Int)), (0 : Int), (0 : Int)⟩ : api_Head)) (Zr.pair (Zr.arr 32 (Zr.int .u8)) (Zr.pair (Zr.int .u32) (Zr.pair (Zr.int .u32) Zr.nil)))) (Zr.pair Zr.str Zr.nil)))) (by decide) (.tmp rfl) (.tmp rfl) rfl ga3) fun v3 _ _ s45 => ?_; clear s44
   refine qs s45 (.c1 rfl (ob_fieldAddr (off' := 70) rfl Try.underlying44 rfl sz42 (by decide) (.tmp rfl) rfl) .cz) fun _ _ s46 => ?_; clear s45
   refine seq_opx0 (B' := (fun _ : Unit => [RowF v3 78 k_api_Box p3.Boxes, RowF v2 3 (kint .i64) p3.Who, RowF v1 39 (karr 32 (kint .u8)) p3.Parents, BF b7 44 (kO3 v1 v2 v3) p3, BF b5 44 k_api_Op p3, BF b4 39 (karr 32 (kint .u8)) p2])) s46 rfl rfl (ob_storeRowV (A := [_, _, _]) rfl ⟨tk42.size, tk42.agg⟩ (.tmp rfl) (.tmp rfl) (.head _) rfl (lsO3 v1 v2 v3 p3) rfl) fun _ _ _ s47 => ?_; clear s46
   refine wn hK11 ?_
   have s48 := s47.sub (u 0 rfl (u 4 rfl (u 5 rfl (u 7 rfl .nil)))); clear s47
   have em : iadd .i64 (p1.length : Int) 2 = ((p1.length + 2 : Nat) : Int) := by unfold lim at ga4; rw [add64 (by omega)]; omega
   refine wp_seq_k fun K12 hK12 => wp_region_lit (qs s48 (.c1 rfl (mv rfl rfl) (.c1 rfl (ob_lens rfl Try.underlying22 (.tmp rfl)) (.c1 rfl (mv rfl rfl) (.c1 rfl (ob_lens rfl Try.underlying22 (.tmp rfl)) (.c1 rfl ((ob_add rfl (.tmp rfl) (opd_int rfl)).nm em) .cz))))) fun _ _ s49 => ?_); clear s48
   refine qx (B' := (fun b8 : Nat => [RowF (roomV b8 (p1.length + 2)) 46 k_api_Node (List.replicate (p1.length + 2) zN), RowF v3 78 k_api_Box p3.Boxes, RowF v2 3 (kint .i64) p3.Who, RowF v1 39 (karr 32 (kint .u8)) p3.Parents, BF b7 44 (kO3 v1 v2 v3) p3, BF b5 44 k_api_Op p3, BF b4 39 (karr 32 (kint .u8)) p2])) s49 rfl (ob_makeRoomN rfl Try.underlying22 ap46 (Zr.iso (f := t_api_Node) (x := zN) (Zr.pair (Zr.arr 32 (Zr.int .u8)) (Zr.pair (Zr.iso (f := t_api_Op) (x := (⟨(0 : Int), (0 : Int), [], (0 : Int), [], (List.replicate 32 (0 : Int)), (List.replicate 32 (0 : Int)), [], []⟩ : api_Op)) (Zr.pair (Zr.int .i64) (Zr.pair (Zr.int .u32) (Zr.pair (Zr.sl _) (Zr.pair (Zr.int .i64) (Zr.pair (Zr.sl _) (Zr.pair (Zr.arr 32 (Zr.int .u8)) (Zr.pair (Zr.arr 32 (Zr.int .u8)) (Zr.pair Zr.str (Zr.pair (Zr.sl _) Zr.nil)))))))))) (Zr.pair (Zr.sl _) Zr.nil)))) (by decide) (.tmp rfl) (.tmp rfl) ⟨by omega, ga4⟩) fun b8 _ _ s50 => ?_; clear s49
   refine qs s50 (.c1 rfl (ob_assign rfl (.tmp rfl)) (.ce (u 0 rfl (u 4 rfl (u 5 rfl (u 7 rfl (u 8 rfl .nil))))))) fun _ _ s51 => wn hK12 ?_; clear s50
   refine wp_seq_k fun K13 hK13 => wp_region_lit (qs s51 (.c1 rfl (mv rfl rfl) (.c1 rfl (mv rfl rfl) .cz)) fun _ _ s52 => ?_); clear s51
   refine qx (B' := (fun _ : Unit => [RowF (roomV b8 (p1.length + 2)) 46 k_api_Node (p1 ++ (List.replicate (p1.length + 2) zN).drop p1.length), RowF v3 78 k_api_Box p3.Boxes, RowF v2 3 (kint .i64) p3.Who, RowF v1 39 (karr 32 (kint .u8)) p3.Parents, BF b7 44 (kO3 v1 v2 v3) p3, BF b5 44 k_api_Op p3, BF b4 39 (karr 32 (kint .u8)) p2])) s52 rfl (ob_copyRoom (A := []) rfl Try.underlying22 sz46 (.tmp rfl) (.tmp rfl) rfl (by rw [List.length_replicate]; omega) rfl) fun _ _ _ s53 => ?_; clear s52
   refine wn hK13 ?_
   have s54 := s53.sub (u 0 rfl (u 4 rfl (u 5 rfl (u 7 rfl (u 8 rfl .nil))))); clear s53
   obtain ⟨x5, e_x5, h13⟩ := bind_some h12; clear h12
   refine wp_seq_k fun K14 hK14 => wp_region_lit (qs s54 (.c1 rfl (mv rfl rfl) (.c1 rfl (ob_load rfl tk39 (.tmp rfl) (.tail _ (.tail _ (.tail _ (.tail _ (.tail _ (.tail _ (.head _))))))) (LG.refl _ _)) (.c1 rfl (ob_load (k := kO3 v1 v2 v3) rfl ⟨tk44.size, tk44.agg⟩ (.tmp rfl) (.tail _ (.tail _ (.tail _ (.tail _ (.head _))))) (LG.refl _ _)) .cz))) fun _ _ s55 => ?_); clear s54
   have hro : ∀ ok w u, (is (roomC b8 p1.length (p1.length + 2))).holds ok w u → (∀ q, q ∈ [RowF (roomV b8 (p1.length + 2)) 46 k_api_Node (p1 ++ (List.replicate (p1.length + 2) zN).drop p1.length), RowF v3 78 k_api_Box p3.Boxes, RowF v2 3 (kint .i64) p3.Who, RowF v1 39 (karr 32 (kint .u8)) p3.Parents] → q.holds ok w) → (∀ c, c ∈ idsOf [RowF (roomV b8 (p1.length + 2)) 46 k_api_Node (p1 ++ (List.replicate (p1.length + 2) zN).drop p1.length), RowF v3 78 k_api_Box p3.Boxes, RowF v2 3 (kint .i64) p3.Who, RowF v1 39 (karr 32 (kint .u8)) p3.Parents] → ok c) → ((ksl k_api_Node).V p1).holds ok w u := fun ok w u h1 h2 h3 => by
    have := lendRoom (k := k_api_Node) (n := p1.length) (.head _) (by simp) ok w u h1 h2 h3
    rwa [List.take_left] at this
   refine qs s55 (.c1 rfl (ObF.ob (ob_lendF (F := resFact [(ksl k_api_Node).V x5.1, (kint .i64).V x5.2]) (L := [_, _, _, _]) (D := [_, _, _]) (List.Perm.refl _) (.cons (t := 53) rfl hro (.cons (t := 55) rfl (lendOp (.tail _ (.tail _ (.tail _ (.head _)))) (.tail _ (.tail _ (.head _))) (.tail _ (.head _))) .nil)) (fun C' => ob_callFN (δ := Value) (F' := fun g : Value => resFact [is g, (kint .i64).V x5.2]) (L' := fun n g => [RowF g 46 (kfr n k_api_Node) x5.1]) (args := [_, _, _]) rfl .direct hb43 (fun a w s => by exact cF_graph_Add k _ _ _ _ e_x5 _ _ _ _ _ (s.arg (.tmp rfl)) (s.arg (.tmp rfl)) (s.arg (.tmp rfl))) (fun n g ok w v h1 h2 h3 => resFr2 h1 (h2 _ (.head _)) (fun b hb => h3 b (mem_idsOf (List.Mem.head _) hb)) (Flat.V (KFlat.int _)))))) (.c1 rfl (mv rfl rfl) (.c1 rfl (ob_extract rfl (.tmp rfl) rfl) (.c1 rfl (ob_extract rfl (.tmp rfl) rfl) (.c1 rfl (ob_assign rfl (.tmp rfl)) (.c1 rfl (ob_assign rfl (.tmp rfl)) (.ce (u 0 rfl (u 4 rfl (u 5 rfl (u 7 rfl (u 8 rfl (u 9 rfl (u 10 rfl .nil)))))))))))))) fun _ _ s56 => wn hK14 ?_; clear s55
   refine wp_seq_k fun Ka hKa => wp_seq_k fun Kb hKb => ?_
   refine wp_region_lit (qs s56 (.c1 rfl (mv rfl rfl) (.c1 rfl (ob_neq rfl (.tmp rfl) (opd_int rfl)) (.ce (u 0 rfl (u 4 rfl (u 5 rfl (u 7 rfl (u 8 rfl (u 9 rfl (u 10 rfl (u 60 rfl .nil))))))))))) fun _ _ s57 => wn hKb ?_); clear s56
   refine cond_split s57 (.tmp rfl) (fun hc3 => ?_) (fun hc3 => ?_)
   ·have h14 := ite_t hc3 h13; clear h13
    obtain ⟨x6, e_x6, h15⟩ := bind_some h14; clear h14
    refine wp_seq_k fun Kc hKc => wp_region_lit (qs s57 (.c1 rfl (ob_callD0 (args := []) rfl .direct hb47 (fun a w s => by exact c_caballaw15_alive k _ e_x6 _ _)) (.c1 rfl (mv rfl rfl) (.cg rfl rfl rfl rfl (fun hb => ob_move rfl (.tmp rfl)) (.cg rfl rfl rfl rfl (fun hb => (Ob.uncond (t := 63) hb rfl (ob_lens rfl Try.underlying22 (.tmp rfl)))) (.cg rfl rfl rfl rfl (fun hb => (Ob.uncond (t := 64) hb rfl (ob_eql rfl (.tmp rfl) (opd_int rfl)))) (.c1 rfl (ob_and2 rfl (.tmp rfl) (.tmp rfl) opd_bool) (.c1 rfl (ob_assign rfl (.tmp rfl)) (.ce (u 6 rfl .nil))))))))) fun _ _ t0 => wn hKc ?_); clear s57
    replace t0 := St.drop (A := []) t0
    replace t0 := St.drop (A := []) t0
    replace t0 := St.drop (A := []) t0
    replace t0 := St.drop (A := []) t0
    replace t0 := St.drop (A := []) t0
    replace t0 := St.drop (A := []) t0
    replace t0 := St.drop (A := []) t0
    refine wp_ret ?_
    obtain rfl := Option.some.inj h15
    exact leave t0 (.inl rfl) rfl (.cons (.tmp rfl) .nil)
   ·have h16 := ite_f hc3 h13; clear h13
    refine wp_skip ?_
    refine then_normal (hKa _ _ ?_)
    have s58 := s57.sub (u 0 rfl (u 4 rfl (u 5 rfl (u 7 rfl (u 8 rfl (u 9 rfl .nil)))))); clear s57
    unfold caballaw15_GraphKeeps.t1 at h16
    obtain ⟨x7, e_x7, h17⟩ := bind_some h16; clear h16
    refine wp_seq_k fun Kd hKd => wp_region_lit (qs s58 (.c1 rfl (mv rfl rfl) (.c1 rfl (ob_load rfl tk39 (.tmp rfl) (.tail _ (.tail _ (.tail _ (.tail _ (.tail _ (.tail _ (.head _))))))) (LG.refl _ _)) (.c1 rfl (ob_load rfl tk44 (.tmp rfl) (.tail _ (.tail _ (.tail _ (.tail _ (.tail _ (.head _)))))) (LG.refl _ _)) .cz))) fun _ _ s59 => ?_); clear s58
    refine qx (B' := (fun v9 : Value => [RowF v9 46 k_api_Node x7.1, RowF (roomV b8 (p1.length + 2)) 46 k_api_Node (p1 ++ (List.replicate (p1.length + 2) zN).drop p1.length), RowF v3 78 k_api_Box p3.Boxes, RowF v2 3 (kint .i64) p3.Who, RowF v1 39 (karr 32 (kint .u8)) p3.Parents, BF b7 44 (kO3 v1 v2 v3) p3, BF b5 44 k_api_Op p3, BF b4 39 (karr 32 (kint .u8)) p2])) s59 rfl (ob_callL0 (args := [_, _, _]) (L := []) rfl .direct hb52 (List.Perm.refl _) (fun a w s => by exact c_cabalref15_Add k _ _ _ _ e_x7 _ _ _ _ _ (s.arg (.tmp rfl)) (s.arg (.tmp rfl)) (s.arg (.tmp rfl))) (by exact fun _ => rfl)) fun v9 _ _ s60 => ?_; clear s59
    refine qs s60 (.c1 rfl (mv rfl rfl) (.c1 rfl (ob_extract rfl (.tmp rfl) rfl) (.c1 rfl (ob_extract rfl (.tmp rfl) rfl) (.c1 rfl (ob_assign rfl (.tmp rfl)) (.c1 rfl (ob_assign rfl (.tmp rfl)) (.ce (u 0 rfl (u 7 rfl (u 8 rfl (u 9 rfl (u 11 rfl .nil))))))))))) fun _ _ s61 => wn hKd ?_; clear s60
    refine wp_seq_k fun La1 hLa1 => wp_seq_k fun Lb1 hLb1 => wp_region_lit (qs s61 (.c1 rfl (ob_assign rfl (opd_int rfl)) (.ce (u 0 rfl (u 7 rfl (u 8 rfl (u 9 rfl (u 11 rfl (u 13 rfl .nil)))))))) fun _ _ q1 => wn hLb1 ?_); clear s61
    refine wp_block ?_
    refine wp_loop_fuel (fun m (q : Nat) => upto p3.Parents.length (upto p3.Who.length (upto p3.Boxes.length (upto p1.length (caballaw15_GraphKeeps.t2 k x5.1 x7.1) k 0) k 0) k 0) m q) r (fun _ => rfl) (fun q a w => ∃ xs : List (List Int), xs.length = p3.Parents.length ∧ St ⟨137, w0, ok, []⟩ [RowF v9 46 k_api_Node x7.1, RowF (roomV b8 (p1.length + 2)) 46 k_api_Node (p1 ++ (List.replicate (p1.length + 2) zN).drop p1.length), RowF v3 78 k_api_Box p3.Boxes, RowF v2 3 (kint .i64) p3.Who, RowF v1 39 (karr 32 (kint .u8)) xs, BF b7 44 (kO3 v1 v2 v3) p3, BF b5 44 k_api_Op p3, BF b4 39 (karr 32 (kint .u8)) p2] [(0, ((ksl k_api_Node).V p1)), (7, (ptrB b7 0)), (8, (is (roomC b8 p1.length (p1.length + 2)))), (9, ((ksl k_api_Node).V x5.1)), (11, (is v9)), (13, ((kint .i64).V (q : Int)))] a w) ?_ k 0 _ _ h17 ⟨p3.Parents, rfl, (q1.sub (.cons rfl (.cons rfl (.cons rfl (.cons rfl (.cons rfl (.cons rfl .nil)))))))⟩; clear q1
    rintro n1 i1 _ _ g1 ⟨xs1, hxs1, r1⟩ M1 hM1
    replace g1 : upto p3.Parents.length (upto p3.Who.length (upto p3.Boxes.length (upto p1.length (caballaw15_GraphKeeps.t2 k x5.1 x7.1) k 0) k 0) k 0) (n1 + 1) i1 = some r := g1; rw [upto] at g1
    refine wp_seq_k fun Ld1 hLd1 => wp_seq_k fun Lc1 hLc1 => wp_region_lit (qs r1 (.c1 rfl (mv rfl rfl) (.c1 rfl (ob_fieldAddr (off' := 2) rfl Try.underlying44 rfl sz40 (by decide) (.tmp rfl) rfl) (.c1 rfl (ob_loadRowV rfl ⟨tk40.size, tk40.agg⟩ (.tmp rfl) (.tail _ (.tail _ (.tail _ (.tail _ (.tail _ (.head _)))))) (lgO1 v1 v2 v3 p3)) (.c1 rfl (ob_lenRow rfl Try.underlying40 (.tmp rfl) (.tail _ (.tail _ (.tail _ (.tail _ (.head _)))))) (.c1 rfl (ob_lss rfl (.tmp rfl) (.tmp rfl)) (.ce (u 0 rfl (u 7 rfl (u 8 rfl (u 9 rfl (u 11 rfl (u 13 rfl (u 78 rfl .nil))))))))))))) fun _ _ y1 => wn hLc1 ?_); clear r1
    refine cond_split y1 (.tmp rfl) (fun hd1 => ?_) (fun hd1 => ?_)
    ·have hq : i1 < p3.Parents.length := by have := of_decide_eq_true hd1; omega
     rw [if_pos hq] at g1
     refine wp_skip ?_
     refine then_normal (hLd1 _ _ ?_)
     have z0 := y1.sub (u 0 rfl (u 7 rfl (u 8 rfl (u 9 rfl (u 11 rfl (u 13 rfl .nil)))))); clear y1
     refine wp_seq_k fun Le hLe => wp_block ?_
     refine wp_region_lit (qs z0 (.c1 rfl (ob_fieldAddr (off' := 2) rfl Try.underlying44 rfl sz40 (by decide) (.tmp rfl) rfl) (.c1 rfl (ob_loadRowV rfl ⟨tk40.size, tk40.agg⟩ (.tmp rfl) (.tail _ (.tail _ (.tail _ (.tail _ (.tail _ (.head _)))))) (lgO1 v1 v2 v3 p3)) (.c1 rfl (mv rfl rfl) (.c1 rfl (ob_mkArr (k := (kint .u8)) (xs := [(9 : Int), 0, 0, 0, 0, 0, 0, 0, 0, 0, 0, 0, 0, 0, 0, 0, 0, 0, 0, 0, 0, 0, 0, 0, 0, 0, 0, 0, 0, 0, 0, 0]) rfl Try.underlying39 zz39 sz5 (Zr.arr 32 (Zr.int .u8)) (.cons (opd_int rfl) rfl (LS.arr' (i := 0) (ys := ([(9 : Int), 0, 0, 0, 0, 0, 0, 0, 0, 0, 0, 0, 0, 0, 0, 0, 0, 0, 0, 0, 0, 0, 0, 0, 0, 0, 0, 0, 0, 0, 0, 0] : (List Int))) (by simp) (by rfl)) (.nil _))) (.c1 rfl (ob_indexAddrRow (k := (karr 32 (kint .u8))) rfl Try.underlying40 sz39 (.tmp rfl) (.tail _ (.tail _ (.tail _ (.tail _ (.head _))))) (.tmp rfl) (by omega)) .cz))))) fun _ _ z1 => ?_); clear z0
     have hst : set? xs1 (i1 : Int) [(9 : Int), 0, 0, 0, 0, 0, 0, 0, 0, 0, 0, 0, 0, 0, 0, 0, 0, 0, 0, 0, 0, 0, 0, 0, 0, 0, 0, 0, 0, 0, 0, 0] = some (xs1.set i1 [(9 : Int), 0, 0, 0, 0, 0, 0, 0, 0, 0, 0, 0, 0, 0, 0, 0, 0, 0, 0, 0, 0, 0, 0, 0, 0, 0, 0, 0, 0, 0, 0, 0]) := by unfold set?; rw [if_pos (by omega), Int.toNat_natCast]
     refine seq_opx0 (B' := (fun _ : Unit => [RowF v9 46 k_api_Node x7.1, RowF (roomV b8 (p1.length + 2)) 46 k_api_Node (p1 ++ (List.replicate (p1.length + 2) zN).drop p1.length), RowF v3 78 k_api_Box p3.Boxes, RowF v2 3 (kint .i64) p3.Who, RowF v1 39 (karr 32 (kint .u8)) (xs1.set i1 [(9 : Int), 0, 0, 0, 0, 0, 0, 0, 0, 0, 0, 0, 0, 0, 0, 0, 0, 0, 0, 0, 0, 0, 0, 0, 0, 0, 0, 0, 0, 0, 0, 0]), BF b7 44 (kO3 v1 v2 v3) p3, BF b5 44 k_api_Op p3, BF b4 39 (karr 32 (kint .u8)) p2])) z1 rfl rfl (ob_storeRow (A := [_, _, _, _]) rfl tk39 (.tmp rfl) (.tmp rfl) rfl hst rfl) fun _ _ _ z2 => ?_; clear z1
     refine wpList_nil ?_
     refine in_normal ?_
     refine then_normal (hLe _ _ ?_)
     have z3 := z2.sub (u 0 rfl (u 7 rfl (u 8 rfl (u 9 rfl (u 11 rfl (u 13 rfl .nil)))))); clear z2
     have em2 : iadd .i64 (i1 : Int) 1 = ((i1 + 1 : Nat) : Int) := by unfold lim at ga1 ga2 ga3; simp only [List.length_nil] at ga1 ga2 ga3; rw [add64 (by omega)]; omega
     refine wp_region_lit (qs z3 (.c1 rfl (mv rfl rfl) (.c1 rfl ((ob_add rfl (.tmp rfl) (opd_int rfl)).nm em2) (.c1 rfl (ob_assign rfl (.tmp rfl)) .cz))) fun _ _ z4 => ?_); clear z3
     refine wpList_nil ?_
     refine then_normal ?_
     exact hM1 (i1 + 1) _ _ g1 ⟨_, by rw [List.length_set]; exact hxs1, z4.sub (.cons rfl (.cons rfl (.cons rfl (.cons rfl (.cons rfl (.cons rfl .nil))))))⟩
    ·have hq : ¬ i1 < p3.Parents.length := by have := of_decide_eq_false hd1; omega
     rw [if_neg hq] at g1
     refine wp_exit ?_
     refine (then_exit (then_exit (in_here ?_)))
     refine then_normal (hLa1 _ _ ?_)
     have o1 := y1.sub (u 0 rfl (u 7 rfl (u 8 rfl (u 9 rfl (u 11 rfl .nil))))); clear y1
     refine wp_seq_k fun La2 hLa2 => wp_seq_k fun Lb2 hLb2 => wp_region_lit (qs o1 (.c1 rfl (ob_assign rfl (opd_int rfl)) (.ce (u 0 rfl (u 7 rfl (u 8 rfl (u 9 rfl (u 11 rfl (u 14 rfl .nil)))))))) fun _ _ q2 => wn hLb2 ?_); clear o1
     refine wp_block ?_
     refine wp_loop_fuel (fun m (q : Nat) => upto p3.Who.length (upto p3.Boxes.length (upto p1.length (caballaw15_GraphKeeps.t2 k x5.1 x7.1) k 0) k 0) m q) r (fun _ => rfl) (fun q a w => ∃ xs : List Int, xs.length = p3.Who.length ∧ St ⟨137, w0, ok, []⟩ [RowF v9 46 k_api_Node x7.1, RowF (roomV b8 (p1.length + 2)) 46 k_api_Node (p1 ++ (List.replicate (p1.length + 2) zN).drop p1.length), RowF v3 78 k_api_Box p3.Boxes, RowF v2 3 (kint .i64) xs, RowF v1 39 (karr 32 (kint .u8)) xs1, BF b7 44 (kO3 v1 v2 v3) p3, BF b5 44 k_api_Op p3, BF b4 39 (karr 32 (kint .u8)) p2] [(0, ((ksl k_api_Node).V p1)), (7, (ptrB b7 0)), (8, (is (roomC b8 p1.length (p1.length + 2)))), (9, ((ksl k_api_Node).V x5.1)), (11, (is v9)), (14, ((kint .i64).V (q : Int)))] a w) ?_ k 0 _ _ g1 ⟨p3.Who, rfl, (q2.sub (.cons rfl (.cons rfl (.cons rfl (.cons rfl (.cons rfl (.cons rfl .nil)))))))⟩; clear q2
     rintro n2 i2 _ _ g2 ⟨xs2, hxs2, r2⟩ M2 hM2
     replace g2 : upto p3.Who.length (upto p3.Boxes.length (upto p1.length (caballaw15_GraphKeeps.t2 k x5.1 x7.1) k 0) k 0) (n2 + 1) i2 = some r := g2; rw [upto] at g2
     refine wp_seq_k fun Ld2 hLd2 => wp_seq_k fun Lc2 hLc2 => wp_region_lit (qs r2 (.c1 rfl (mv rfl rfl) (.c1 rfl (ob_fieldAddr (off' := 4) rfl Try.underlying44 rfl sz41 (by decide) (.tmp rfl) rfl) (.c1 rfl (ob_loadRowV rfl ⟨tk41.size, tk41.agg⟩ (.tmp rfl) (.tail _ (.tail _ (.tail _ (.tail _ (.tail _ (.head _)))))) (lgO2 v1 v2 v3 p3)) (.c1 rfl (ob_lenRow rfl Try.underlying41 (.tmp rfl) (.tail _ (.tail _ (.tail _ (.head _))))) (.c1 rfl (ob_lss rfl (.tmp rfl) (.tmp rfl)) (.ce (u 0 rfl (u 7 rfl (u 8 rfl (u 9 rfl (u 11 rfl (u 14 rfl (u 90 rfl .nil))))))))))))) fun _ _ y2 => wn hLc2 ?_); clear r2
     refine cond_split y2 (.tmp rfl) (fun hd2 => ?_) (fun hd2 => ?_)
     ·have hq : i2 < p3.Who.length := by have := of_decide_eq_true hd2; omega
      rw [if_pos hq] at g2
      refine wp_skip ?_
      refine then_normal (hLd2 _ _ ?_)
      have z0 := y2.sub (u 0 rfl (u 7 rfl (u 8 rfl (u 9 rfl (u 11 rfl (u 14 rfl .nil)))))); clear y2
      refine wp_seq_k fun Le hLe => wp_block ?_
      refine wp_region_lit (qs z0 (.c1 rfl (ob_fieldAddr (off' := 4) rfl Try.underlying44 rfl sz41 (by decide) (.tmp rfl) rfl) (.c1 rfl (ob_loadRowV rfl ⟨tk41.size, tk41.agg⟩ (.tmp rfl) (.tail _ (.tail _ (.tail _ (.tail _ (.tail _ (.head _)))))) (lgO2 v1 v2 v3 p3)) (.c1 rfl (mv rfl rfl) (.c1 rfl (ob_indexAddrRow (k := (kint .i64)) rfl Try.underlying41 sz3 (.tmp rfl) (.tail _ (.tail _ (.tail _ (.head _)))) (.tmp rfl) (by omega)) .cz)))) fun _ _ z1 => ?_); clear z0
      have hst : set? xs2 (i2 : Int) (77 : Int) = some (xs2.set i2 (77 : Int)) := by unfold set?; rw [if_pos (by omega), Int.toNat_natCast]
      refine seq_opx0 (B' := (fun _ : Unit => [RowF v9 46 k_api_Node x7.1, RowF (roomV b8 (p1.length + 2)) 46 k_api_Node (p1 ++ (List.replicate (p1.length + 2) zN).drop p1.length), RowF v3 78 k_api_Box p3.Boxes, RowF v2 3 (kint .i64) (xs2.set i2 (77 : Int)), RowF v1 39 (karr 32 (kint .u8)) xs1, BF b7 44 (kO3 v1 v2 v3) p3, BF b5 44 k_api_Op p3, BF b4 39 (karr 32 (kint .u8)) p2])) z1 rfl rfl (ob_storeRow (A := [_, _, _]) rfl tk3 (.tmp rfl) (opd_int rfl) rfl hst rfl) fun _ _ _ z2 => ?_; clear z1
      refine wpList_nil ?_
      refine in_normal ?_
      refine then_normal (hLe _ _ ?_)
      have z3 := z2.sub (u 0 rfl (u 7 rfl (u 8 rfl (u 9 rfl (u 11 rfl (u 14 rfl .nil)))))); clear z2
      have em2 : iadd .i64 (i2 : Int) 1 = ((i2 + 1 : Nat) : Int) := by unfold lim at ga1 ga2 ga3; simp only [List.length_nil] at ga1 ga2 ga3; rw [add64 (by omega)]; omega
      refine wp_region_lit (qs z3 (.c1 rfl (mv rfl rfl) (.c1 rfl ((ob_add rfl (.tmp rfl) (opd_int rfl)).nm em2) (.c1 rfl (ob_assign rfl (.tmp rfl)) .cz))) fun _ _ z4 => ?_); clear z3
      refine wpList_nil ?_
      refine then_normal ?_
      exact hM2 (i2 + 1) _ _ g2 ⟨_, by rw [List.length_set]; exact hxs2, z4.sub (.cons rfl (.cons rfl (.cons rfl (.cons rfl (.cons rfl (.cons rfl .nil))))))⟩
     ·have hq : ¬ i2 < p3.Who.length := by have := of_decide_eq_false hd2; omega
      rw [if_neg hq] at g2
      refine wp_exit ?_
      refine (then_exit (then_exit (in_here ?_)))
      refine then_normal (hLa2 _ _ ?_)
      have o2 := y2.sub (u 0 rfl (u 7 rfl (u 8 rfl (u 9 rfl (u 11 rfl .nil))))); clear y2
      refine wp_seq_k fun La3 hLa3 => wp_seq_k fun Lb3 hLb3 => wp_region_lit (qs o2 (.c1 rfl (ob_assign rfl (opd_int rfl)) (.ce (u 0 rfl (u 7 rfl (u 8 rfl (u 9 rfl (u 11 rfl (u 15 rfl .nil)))))))) fun _ _ q3 => wn hLb3 ?_); clear o2
      refine wp_block ?_
      refine wp_loop_fuel (fun m (q : Nat) => upto p3.Boxes.length (upto p1.length (caballaw15_GraphKeeps.t2 k x5.1 x7.1) k 0) m q) r (fun _ => rfl) (fun q a w => ∃ xs : List api_Box, xs.length = p3.Boxes.length ∧ St ⟨137, w0, ok, []⟩ [RowF v9 46 k_api_Node x7.1, RowF (roomV b8 (p1.length + 2)) 46 k_api_Node (p1 ++ (List.replicate (p1.length + 2) zN).drop p1.length), RowF v3 78 k_api_Box xs, RowF v2 3 (kint .i64) xs2, RowF v1 39 (karr 32 (kint .u8)) xs1, BF b7 44 (kO3 v1 v2 v3) p3, BF b5 44 k_api_Op p3, BF b4 39 (karr 32 (kint .u8)) p2] [(0, ((ksl k_api_Node).V p1)), (7, (ptrB b7 0)), (8, (is (roomC b8 p1.length (p1.length + 2)))), (9, ((ksl k_api_Node).V x5.1)), (11, (is v9)), (15, ((kint .i64).V (q : Int)))] a w) ?_ k 0 _ _ g2 ⟨p3.Boxes, rfl, (q3.sub (.cons rfl (.cons rfl (.cons rfl (.cons rfl (.cons rfl (.cons rfl .nil)))))))⟩; clear q3
      rintro n3 i3 _ _ g3 ⟨xs3, hxs3, r3⟩ M3 hM3
      replace g3 : upto p3.Boxes.length (upto p1.length (caballaw15_GraphKeeps.t2 k x5.1 x7.1) k 0) (n3 + 1) i3 = some r := g3; rw [upto] at g3
      refine wp_seq_k fun Ld3 hLd3 => wp_seq_k fun Lc3 hLc3 => wp_region_lit (qs r3 (.c1 rfl (mv rfl rfl) (.c1 rfl (ob_fieldAddr (off' := 70) rfl Try.underlying44 rfl sz42 (by decide) (.tmp rfl) rfl) (.c1 rfl (ob_loadRowV rfl ⟨tk42.size, tk42.agg⟩ (.tmp rfl) (.tail _ (.tail _ (.tail _ (.tail _ (.tail _ (.head _)))))) (lgO3 v1 v2 v3 p3)) (.c1 rfl (ob_lenRow rfl Try.underlying42 (.tmp rfl) (.tail _ (.tail _ (.head _)))) (.c1 rfl (ob_lss rfl (.tmp rfl) (.tmp rfl)) (.ce (u 0 rfl (u 7 rfl (u 8 rfl (u 9 rfl (u 11 rfl (u 15 rfl (u 101 rfl .nil))))))))))))) fun _ _ y3 => wn hLc3 ?_); clear r3
      refine cond_split y3 (.tmp rfl) (fun hd3 => ?_) (fun hd3 => ?_)
      ·have hq : i3 < p3.Boxes.length := by have := of_decide_eq_true hd3; omega
       rw [if_pos hq] at g3
       refine wp_skip ?_
       refine then_normal (hLd3 _ _ ?_)
       have z0 := y3.sub (u 0 rfl (u 7 rfl (u 8 rfl (u 9 rfl (u 11 rfl (u 15 rfl .nil)))))); clear y3
       refine wp_seq_k fun Le hLe => wp_block ?_
       refine wp_region_lit (qs z0 (.c1 rfl (ob_fieldAddr (off' := 70) rfl Try.underlying44 rfl sz42 (by decide) (.tmp rfl) rfl) (.c1 rfl (ob_loadRowV rfl ⟨tk42.size, tk42.agg⟩ (.tmp rfl) (.tail _ (.tail _ (.tail _ (.tail _ (.tail _ (.head _)))))) (lgO3 v1 v2 v3 p3)) (.c1 rfl (mv rfl rfl) (.c1 rfl (ob_mkStruct (K := k_api_Box) (X0 := (⟨(0 : Int), (⟨(List.replicate 32 (0 : Int)), (0 : Int), (0 : Int)⟩ : api_Head), []⟩ : api_Box)) rfl Try.underlying78 zz78 rfl pl78 (Zr.iso (f := t_api_Box) (x := (⟨(0 : Int), (⟨(List.replicate 32 (0 : Int)), (0 : Int), (0 : Int)⟩ : api_Head), []⟩ : api_Box)) (Zr.pair (Zr.int .i64) (Zr.pair (Zr.iso (f := t_api_Head) (x := (⟨(List.replicate 32 (0 : Int)), (0 : Int), (0 : Int)⟩ : api_Head)) (Zr.pair (Zr.arr 32 (Zr.int .u8)) (Zr.pair (Zr.int .u32) (Zr.pair (Zr.int .u32) Zr.nil)))) (Zr.pair Zr.str Zr.nil)))) (.nil _)) (.c1 rfl (ob_indexAddrRow (k := k_api_Box) rfl Try.underlying42 sz78 (.tmp rfl) (.tail _ (.tail _ (.head _))) (.tmp rfl) (by omega)) .cz))))) fun _ _ z1 => ?_); clear z0
       have hst : set? xs3 (i3 : Int) (⟨(0 : Int), (⟨(List.replicate 32 (0 : Int)), (0 : Int), (0 : Int)⟩ : api_Head), []⟩ : api_Box) = some (xs3.set i3 (⟨(0 : Int), (⟨(List.replicate 32 (0 : Int)), (0 : Int), (0 : Int)⟩ : api_Head), []⟩ : api_Box)) := by unfold set?; rw [if_pos (by omega), Int.toNat_natCast]
       refine seq_opx0 (B' := (fun _ : Unit => [RowF v9 46 k_api_Node x7.1, RowF (roomV b8 (p1.length + 2)) 46 k_api_Node (p1 ++ (List.replicate (p1.length + 2) zN).drop p1.length), RowF v3 78 k_api_Box (xs3.set i3 (⟨(0 : Int), (⟨(List.replicate 32 (0 : Int)), (0 : Int), (0 : Int)⟩ : api_Head), []⟩ : api_Box)), RowF v2 3 (kint .i64) xs2, RowF v1 39 (karr 32 (kint .u8)) xs1, BF b7 44 (kO3 v1 v2 v3) p3, BF b5 44 k_api_Op p3, BF b4 39 (karr 32 (kint .u8)) p2])) z1 rfl rfl (ob_storeRow (A := [_, _]) rfl tk78 (.tmp rfl) (.tmp rfl) rfl hst rfl) fun _ _ _ z2 => ?_; clear z1
       refine wpList_nil ?_
       refine in_normal ?_
       refine then_normal (hLe _ _ ?_)
       have z3 := z2.sub (u 0 rfl (u 7 rfl (u 8 rfl (u 9 rfl (u 11 rfl (u 15 rfl .nil)))))); clear z2
       have em2 : iadd .i64 (i3 : Int) 1 = ((i3 + 1 : Nat) : Int) := by unfold lim at ga1 ga2 ga3; simp only [List.length_nil] at ga1 ga2 ga3; rw [add64 (by omega)]; omega
       refine wp_region_lit (qs z3 (.c1 rfl (mv rfl rfl) (.c1 rfl ((ob_add rfl (.tmp rfl) (opd_int rfl)).nm em2) (.c1 rfl (ob_assign rfl (.tmp rfl)) .cz))) fun _ _ z4 => ?_); clear z3
       refine wpList_nil ?_
       refine then_normal ?_
       exact hM3 (i3 + 1) _ _ g3 ⟨_, by rw [List.length_set]; exact hxs3, z4.sub (.cons rfl (.cons rfl (.cons rfl (.cons rfl (.cons rfl (.cons rfl .nil))))))⟩
      ·have hq : ¬ i3 < p3.Boxes.length := by have := of_decide_eq_false hd3; omega
       rw [if_neg hq] at g3
       refine wp_exit ?_
       refine (then_exit (then_exit (in_here ?_)))
       refine then_normal (hLa3 _ _ ?_)
       have o3 := y3.sub (u 0 rfl (u 7 rfl (u 8 rfl (u 9 rfl (u 11 rfl .nil))))); clear y3
       have hml : p1.length + 2 ≤ maxLen := by unfold lim at ga4; unfold maxLen; omega
       refine wp_seq_k fun La4 hLa4 => wp_seq_k fun Lb4 hLb4 => wp_region_lit (qs o3 (.c1 rfl (ob_assign rfl (opd_int rfl)) (.ce (u 0 rfl (u 8 rfl (u 9 rfl (u 11 rfl (u 16 rfl .nil))))))) fun _ _ q4 => wn hLb4 ?_); clear o3
       refine wp_block ?_
       refine wp_loop_fuel (fun m (q : Nat) => upto p1.length (caballaw15_GraphKeeps.t2 k x5.1 x7.1) m q) r (fun _ => rfl) (fun q a w => ∃ xs : List api_Node, xs.length = p1.length + 2 ∧ xs.drop p1.length = List.replicate 2 zN ∧ St ⟨137, w0, ok, []⟩ [RowF v9 46 k_api_Node x7.1, RowF (roomV b8 (p1.length + 2)) 46 k_api_Node xs, RowF v3 78 k_api_Box xs3, RowF v2 3 (kint .i64) xs2, RowF v1 39 (karr 32 (kint .u8)) xs1, BF b7 44 (kO3 v1 v2 v3) p3, BF b5 44 k_api_Op p3, BF b4 39 (karr 32 (kint .u8)) p2] [(0, ((ksl k_api_Node).V p1)), (8, (is (roomC b8 p1.length (p1.length + 2)))), (9, ((ksl k_api_Node).V x5.1)), (11, (is v9)), (16, ((kint .i64).V (q : Int)))] a w) ?_ k 0 _ _ g3 ⟨(p1 ++ (List.replicate (p1.length + 2) zN).drop p1.length), by simp, by rw [List.drop_left, List.drop_replicate]; congr 1; omega, q4.sub (.cons rfl (.cons rfl (.cons rfl (.cons rfl (.cons rfl .nil)))))⟩; clear q4
       rintro n4 i4 _ _ g4 ⟨xs4, hxs4, hdr4, r4⟩ M4 hM4
       replace g4 : upto p1.length (caballaw15_GraphKeeps.t2 k x5.1 x7.1) (n4 + 1) i4 = some r := g4; rw [upto] at g4
       refine wp_seq_k fun Ld4 hLd4 => wp_seq_k fun Lc4 hLc4 => wp_region_lit (qs r4 (.c1 rfl (mv rfl rfl) (.c1 rfl (mv rfl rfl) (.c1 rfl (ob_lenIs rfl Try.underlying22 (.tmp rfl) (by omega)) (.c1 rfl (ob_lss rfl (.tmp rfl) (.tmp rfl)) (.ce (u 0 rfl (u 8 rfl (u 9 rfl (u 11 rfl (u 16 rfl (u 112 rfl .nil))))))))))) fun _ _ y4 => wn hLc4 ?_); clear r4
       refine cond_split y4 (.tmp rfl) (fun hd4 => ?_) (fun hd4 => ?_)
       ·have hq : i4 < p1.length := by have := of_decide_eq_true hd4; omega
        rw [if_pos hq] at g4
        refine wp_skip ?_
        refine then_normal (hLd4 _ _ ?_)
        have z0 := y4.sub (u 0 rfl (u 8 rfl (u 9 rfl (u 11 rfl (u 16 rfl .nil))))); clear y4
        refine wp_seq_k fun Le hLe => wp_block ?_
        refine wp_region_lit (qs z0 (.c1 rfl (mv rfl rfl) (.c1 rfl (mv rfl rfl) (.c1 rfl (ob_mkStruct (K := k_api_Node) (X0 := zN) rfl Try.underlying46 zz46 rfl pl46 (Zr.iso (f := t_api_Node) (x := zN) (Zr.pair (Zr.arr 32 (Zr.int .u8)) (Zr.pair (Zr.iso (f := t_api_Op) (x := (⟨(0 : Int), (0 : Int), [], (0 : Int), [], (List.replicate 32 (0 : Int)), (List.replicate 32 (0 : Int)), [], []⟩ : api_Op)) (Zr.pair (Zr.int .i64) (Zr.pair (Zr.int .u32) (Zr.pair (Zr.sl _) (Zr.pair (Zr.int .i64) (Zr.pair (Zr.sl _) (Zr.pair (Zr.arr 32 (Zr.int .u8)) (Zr.pair (Zr.arr 32 (Zr.int .u8)) (Zr.pair Zr.str (Zr.pair (Zr.sl _) Zr.nil)))))))))) (Zr.pair (Zr.sl _) Zr.nil)))) (.nil _)) (.c1 rfl (ob_indexIs (k := k_api_Node) rfl Try.underlying22 sz46 (.tmp rfl) (.tmp rfl) (by omega)) .cz)))) fun _ _ z1 => ?_); clear z0
        have hst : set? xs4 (i4 : Int) zN = some (xs4.set i4 zN) := by unfold set?; rw [if_pos (by omega), Int.toNat_natCast]
        refine seq_opx0 (B' := (fun _ : Unit => [RowF v9 46 k_api_Node x7.1, RowF (roomV b8 (p1.length + 2)) 46 k_api_Node (xs4.set i4 zN), RowF v3 78 k_api_Box xs3, RowF v2 3 (kint .i64) xs2, RowF v1 39 (karr 32 (kint .u8)) xs1, BF b7 44 (kO3 v1 v2 v3) p3, BF b5 44 k_api_Op p3, BF b4 39 (karr 32 (kint .u8)) p2])) z1 rfl rfl (ob_storeRow (A := [_]) rfl tk46 (.tmp rfl) (.tmp rfl) rfl hst rfl) fun _ _ _ z2 => ?_; clear z1
        refine wpList_nil ?_
        refine in_normal ?_
        refine then_normal (hLe _ _ ?_)
        have z3 := z2.sub (u 0 rfl (u 8 rfl (u 9 rfl (u 11 rfl (u 16 rfl .nil))))); clear z2
        have em2 : iadd .i64 (i4 : Int) 1 = ((i4 + 1 : Nat) : Int) := by unfold lim at ga4; rw [add64 (by omega)]; omega
        refine wp_region_lit (qs z3 (.c1 rfl (mv rfl rfl) (.c1 rfl ((ob_add rfl (.tmp rfl) (opd_int rfl)).nm em2) (.c1 rfl (ob_assign rfl (.tmp rfl)) .cz))) fun _ _ z4 => ?_); clear z3
        refine wpList_nil ?_
        refine then_normal ?_
        exact hM4 (i4 + 1) _ _ g4 ⟨_, by rw [List.length_set]; exact hxs4, by rw [List.drop_set_of_lt hq]; exact hdr4, z4.sub (.cons rfl (.cons rfl (.cons rfl (.cons rfl (.cons rfl .nil)))))⟩
       ·have hq : ¬ i4 < p1.length := by have := of_decide_eq_false hd4; omega
        rw [if_neg hq] at g4
        refine wp_exit ?_
        refine (then_exit (then_exit (in_here ?_)))
        refine then_normal (hLa4 _ _ ?_)
        have o4 := y4.sub (u 0 rfl (u 8 rfl (u 9 rfl (u 11 rfl .nil)))); clear y4
        refine wp_seq_k fun Lf hLf => wp_region_lit (qs o4 (.c1 rfl (mv rfl rfl) (.c1 rfl (mv rfl rfl) (.c1 rfl (ob_capIs rfl Try.underlying22 (.tmp rfl) hml) (.c1 rfl (ob_sliceIs (k := k_api_Node) rfl Try.underlying22 sz46 (.tmp rfl) (.tmp rfl) (by omega)) (.c1 rfl (ob_assign rfl (.tmp rfl)) (.ce (u 0 rfl (u 9 rfl (u 11 rfl (u 17 rfl .nil)))))))))) fun _ _ o5 => wn hLf ?_); clear o4
        unfold caballaw15_GraphKeeps.t2 at g4
        obtain ⟨x8, e_x8, g5⟩ := bind_some g4; clear g4
        obtain ⟨x9, e_x9, g6⟩ := bind_some g5; clear g5
        obtain ⟨x10, e_x10, g7⟩ := bind_some g6; clear g6
        refine wp_seq_k fun Lg hLg => ?_
        refine wp_goes (Fs := [(kbool.V x8), (kbool.V x8), (Fact.when (x8 == true) ((ksl k_api_Node).V x5.1)), (Fact.when (x8 == true) (is v9)), (Fact.when (x8 == true) (kbool.V x9)), (kbool.V (if x8 then x9 else false)), (kbool.V (if x8 then x9 else false)), (Fact.when ((if x8 then x9 else false) == true) (is (roomV b8 (p1.length + 2)))), (Fact.when ((if x8 then x9 else false) == true) ((ksl k_api_Node).V p1)), (Fact.when ((if x8 then x9 else false) == true) ((kint .i64).V (p1.length : Int))), (Fact.when ((if x8 then x9 else false) == true) (slT (roomV b8 (p1.length + 2)) k_api_Node.sz p1.length (xs4.length - p1.length))), (Fact.when ((if x8 then x9 else false) == true) ((ksl k_api_Node).V (List.replicate 2 zN)))]) (bits := [0, 1, 3, 3, 15, 31, 63, 127, 127, 383, 1023, 127, 4095, 8191, 16383]) (m := 12) (todo := 0) mx o5 ?_; clear o5
        refine goes_last (by kernel_rfl) rfl (oc Av.nil rfl rfl (ob_callD0 (args := []) rfl .direct hb47 (fun a w s => by exact c_caballaw15_alive k _ e_x8 _ _)) (oc (an 0 rfl rfl rfl Av.nil) rfl rfl (mv rfl rfl) (opsS_cons (.guarded _ (av 9 rfl rfl (an 1 rfl rfl rfl Av.nil)) rfl rfl rfl rfl (fun hb => ob_move rfl (.tmp rfl))) (opsS_cons (.guarded _ (av 11 rfl rfl (an 1 rfl rfl rfl Av.nil)) rfl rfl rfl rfl (fun hb => ob_move rfl (.tmp rfl))) (opsS_cons (.guarded _ (an 1 rfl rfl rfl (an 2 rfl rfl rfl (an 3 rfl rfl rfl Av.nil))) rfl rfl rfl rfl (fun hb => (Ob.uncond (t := 126) hb rfl ((Ob.uncond (t := 125) hb rfl ((ob_lendG (L := [_]) (List.Perm.refl _) (.cons (t := 126) rfl (lendRow (.head _)) .nil) (Flat.res1 (Flat.V KFlat.bool)) (fun _ => ob_callD0 (args := [_, _]) rfl .direct hb53 (fun a w s => by exact c_cabalref15_Same k _ _ _ (ite_t hb e_x9) _ _ _ _ (s.arg (.tmp rfl)) (s.arg (.tmp rfl))))))))))) (oc (an 1 rfl rfl rfl (an 4 rfl rfl rfl Av.nil)) rfl rfl (ob_and2 rfl (.tmp rfl) (.tmp rfl) opd_bool) (oc (an 5 rfl rfl rfl Av.nil) rfl rfl (mv rfl rfl) (opsS_cons (.guarded _ (av 17 rfl rfl (an 6 rfl rfl rfl Av.nil)) rfl rfl rfl rfl (fun hb => ob_move rfl (.tmp rfl))) (opsS_cons (.guarded _ (av 0 rfl rfl (an 6 rfl rfl rfl Av.nil)) rfl rfl rfl rfl (fun hb => ob_move rfl (.tmp rfl))) (opsS_cons (.guarded _ (an 6 rfl rfl rfl (an 8 rfl rfl rfl Av.nil)) rfl rfl rfl rfl (fun hb => (Ob.uncond (t := 131) hb rfl (ob_lens rfl Try.underlying22 (.tmp rfl))))) (opsS_cons (.guarded _ (an 6 rfl rfl rfl (an 7 rfl rfl rfl (an 9 rfl rfl rfl Av.nil))) rfl rfl rfl rfl (fun hb => (Ob.uncond (t := 132) hb rfl ((Ob.uncond (t := 130) hb rfl (ob_cutT (k := k_api_Node) (xs := xs4) (m := (p1.length : Int)) rfl Try.underlying22 sz46 (.tmp rfl) (.tail _ (.head _)) (.some (.tmp rfl)) (by omega))))))) (opsS_cons (.guarded _ (an 6 rfl rfl rfl Av.nil) rfl rfl rfl rfl (fun hb => ob_makeData (n := 2) rfl Try.underlying22 ap46 (Zr.iso (f := t_api_Node) (x := zN) (Zr.pair (Zr.arr 32 (Zr.int .u8)) (Zr.pair (Zr.iso (f := t_api_Op) (x := (⟨(0 : Int), (0 : Int), [], (0 : Int), [], (List.replicate 32 (0 : Int)), (List.replicate 32 (0 : Int)), [], []⟩ : api_Op)) (Zr.pair (Zr.int .i64) (Zr.pair (Zr.int .u32) (Zr.pair (Zr.sl _) (Zr.pair (Zr.int .i64) (Zr.pair (Zr.sl _) (Zr.pair (Zr.arr 32 (Zr.int .u8)) (Zr.pair (Zr.arr 32 (Zr.int .u8)) (Zr.pair Zr.str (Zr.pair (Zr.sl _) Zr.nil)))))))))) (Zr.pair (Zr.sl _) Zr.nil)))) (by decide) (opd_int rfl) (opd_int rfl) (by decide))) opsS_nil)))))))))))) (out_new (i := 6) (by decide) rfl rfl (out_new (i := 10) (by decide) rfl rfl (out_new (i := 11) (by decide) rfl rfl out_nil))) fun _ _ o6 => ?_
        have hrest : ∀ ok w u, (slT (roomV b8 (p1.length + 2)) k_api_Node.sz p1.length (xs4.length - p1.length)).holds ok w u → (∀ q, q ∈ [RowF (roomV b8 (p1.length + 2)) 46 k_api_Node xs4] → q.holds ok w) → (∀ c, c ∈ idsOf [RowF (roomV b8 (p1.length + 2)) 46 k_api_Node xs4] → ok c) → ((ksl k_api_Node).V (List.replicate 2 zN)).holds ok w u := fun ok w u h1 h2 h3 => by
         have := lendRest (k := k_api_Node) (.head _) rfl (by omega) ok w u h1 h2 h3
         rwa [hdr4] at this
        refine qs o6 (.cg rfl rfl rfl rfl (fun hb => (Ob.uncond (t := 134) hb rfl ((Ob.uncond (t := 133) hb rfl ((ob_lendG (L := [_]) (toFront [_] (List.Perm.refl _)) (.cons (t := 133) rfl hrest .nil) (Flat.res1 (Flat.V KFlat.bool)) (fun _ => ob_callD0 (args := [_, _]) rfl .direct hb53 (fun a w s => by exact c_cabalref15_Same k _ _ _ (ite_t hb e_x10) _ _ _ _ (s.arg (.tmp rfl)) (s.arg (.tmp rfl)))))))))) (.c1 rfl (ob_and2 rfl (.tmp rfl) (.tmp rfl) opd_bool) (.c1 rfl (ob_assign rfl (.tmp rfl)) (.ce (u 6 rfl .nil))))) fun _ _ t0 => wn hLg ?_; clear o6
        replace t0 := St.drop (A := []) t0
        replace t0 := St.drop (A := []) t0
        replace t0 := St.drop (A := []) t0
        replace t0 := St.drop (A := []) t0
        replace t0 := St.drop (A := []) t0
        replace t0 := St.drop (A := []) t0
        replace t0 := St.drop (A := []) t0
        replace t0 := St.drop (A := []) t0
        refine wp_ret ?_
        obtain rfl := Option.some.inj g7
        exact leave t0 (.inl rfl) rfl (.cons (.tmp rfl) .nil)
end Go.Proofs.Ytdlnfgpcnfbjiaa
