/- Several parts of this proof in one file. No condition. -/
import Derived.Test.YtdlnfgpcnfbjiaaDyKeepQF
namespace Go.Proofs.Ytdlnfgpcnfbjiaa
open Go Go.RowKit Go.Proofs.Kit Go.Proofs.Pure
set_option linter.unusedVariables false
set_option linter.unusedSimpArgs false
set_option maxRecDepth 100000
set_option maxHeartbeats 2000000
abbrev kOP (v : Value) : Kd api_Op := kopO (kis v) (fun _ => ()) kW (·.Who) kB (·.Boxes)
abbrev kG1 (v1 : Value) : Kd api_Held := kopH k_api_Op (kis v1) (fun _ => ())
abbrev kG2 (v1 v2 : Value) : Kd api_Held := kopH (kOP v2) (kis v1) (fun _ => ())
theorem lsG1 (v1 : Value) (x : api_Held) : LSK k_api_Held (kis v1) (kG1 v1) 103 x () x := LSK.iso (LSK.snd _ (LSK.snd _ (LSK.fst (k := kP) (k' := kis v1) _ rfl _ _)))
theorem lsP (v : Value) (x : api_Op) : LSK k_api_Op (kis v) (kOP v) 2 x () x := LSK.iso (LSK.snd _ (LSK.snd _ (LSK.fst (k := kP) (k' := kis v) _ rfl _ _)))
theorem lsG2 (v1 v2 : Value) (x : api_Held) : LSK (kG1 v1) (kis v2) (kG2 v1 v2) 34 x () x := LSK.iso (LSK.snd _ (LSK.in1 (off := 2) _ (lsP v2 x.Op)))
theorem lgG1 (v1 v2 : Value) (x : api_Held) : LG (kG2 v1 v2) (kis v1) 103 x () := LG.iso (LG.snd _ (LG.snd _ (LG.fst _ _ _)))
theorem lgP (v : Value) (x : api_Op) : LG (kOP v) (kis v) 2 x () := LG.iso (LG.snd _ (LG.snd _ (LG.fst _ _ _)))
theorem lgG2 (v1 v2 : Value) (x : api_Held) : LG (kG2 v1 v2) (kis v2) 34 x () := LG.iso (LG.snd _ (LG.in1 (off := 2) _ (show 2 + 1 ≤ 71 by decide) (lgP v2 x.Op)))
theorem lendHeld {L : List OF} {v1 v2 : Value} {x : api_Held} (h1 : RowF v1 39 (karr 32 (kint .u8)) x.Got ∈ L) (h2 : RowF v2 39 (karr 32 (kint .u8)) x.Op.Parents ∈ L) :
    ∀ ok w u, ((kG2 v1 v2).V x).holds ok w u → (∀ q, q ∈ L → q.holds ok w) → (∀ c, c ∈ idsOf L → ok c) → (k_api_Held.V x).holds ok w u := by
  rintro ok w u ⟨cs, h, e⟩ g1 g2
  have upO : Up (LetAll L) (kOP v2) k_api_Op x.Op x.Op := Up.iso (Up.pair (Up.refl _ _) (Up.pair (Up.refl _ _) (Up.pair (Up.row (LetAll.row h2)) (Up.refl _ _))))
  have up : Up (LetAll L) (kG2 v1 v2) k_api_Held x x := Up.iso (Up.pair (Up.refl _ _) (Up.pair upO (Up.pair (Up.row (LetAll.row h1)) (Up.refl _ _))))
  exact ⟨cs, up ok w cs ⟨g1, g2⟩ h, e⟩
theorem c_caballaw19_QueueKeeps (k : Nat) (p1 : (List api_Held)) (p2 : api_Held) (r : Bool) (h0 : caballaw19_QueueKeeps k p1 p2 = some r) (ok : Ok) (w0 : World) (z0 : Value) (z1 : Value) (u0 : ((ksl k_api_Held).V p1).holds ok w0 z0) (u1 : (k_api_Held.V p2).holds ok w0 z1) :
 Gives Try.prog 18 [z0, z1] ok w0 (resFact [kbool.V r]) := by
 unfold caballaw19_QueueKeeps at h0
 refine enter (N := 128) Try.func18 rfl rfl (of_decide_eq_true rfl) (.cons u0 (.cons u1 .nil)) fun a1 s1 => ?_
 refine wp_seq_k fun K1 hK1 => wp_region_lit ?_
 refine qx (B' := (fun b3 : Nat => [BF b3 91 k_api_Held p2])) s1 rfl (ob_box rfl (.tmp rfl)) fun b3 _ _ s2 => ?_; clear s1
 refine qs s2 (.c1 rfl (ob_assign rfl opd_bool) (.ce (u 0 rfl (u 3 rfl .nil)))) fun _ _ s5 => wn hK1 ?_; clear s2
 refine wp_seq_k fun K2 hK2 => wp_seq_k fun K3 hK3 => ?_
 obtain ⟨x1, e_x1, h1⟩ := bind_some h0; clear h0
 refine wp_region_lit (qs s5 (.c1 rfl (ob_callD0 (args := []) rfl .direct hb59 (fun a w s => by exact c_caballaw19_alive k _ e_x1 _ _)) (.c1 rfl (ob_not rfl (.tmp rfl)) (.ce (u 0 rfl (u 3 rfl (u 16 rfl .nil)))))) fun _ _ s8 => wn hK3 ?_); clear s5
 refine cond_split s8 (.tmp rfl) (fun hc1 => ?_) (fun hc1 => ?_)
 ·have h2 := ite_t hc1 h1; clear h1
  refine wp_seq_k fun K4 hK4 => wp_region_lit (qs s8 (.c1 rfl (ob_assign rfl opd_bool) (.ce (u 4 rfl .nil))) fun _ _ s10 => wn hK4 ?_); clear s8
  have s11 := St.drop (A := []) s10; clear s10
  refine wp_ret ?_
  obtain rfl := Option.some.inj h2
  exact leave s11 (.inl rfl) rfl (.cons (.tmp rfl) .nil)
 ·have h3 := ite_f hc1 h1; clear h1
  refine wp_skip ?_
  refine then_normal (hK2 _ _ ?_)
  have s13 := s8.sub (u 0 rfl (u 3 rfl .nil)); clear s8
  refine wp_seq_k fun K5 hK5 => wp_seq_k fun K6 hK6 => ?_
  obtain ⟨x2, e_x2, h4⟩ := bind_some h3; clear h3
  obtain ⟨x3, e_x3, h5⟩ := bind_some h4; clear h4
  refine wp_region_lit (qs s13 (.c1 rfl (mv rfl rfl) (.c1 rfl (ob_callD0 (args := [_]) rfl .direct hb60 (fun a w s => by exact c_cabalref19_Great k _ _ e_x2 _ _ _ (s.arg (.tmp rfl)))) (.c1 rfl (mv rfl rfl) (.cg rfl rfl rfl rfl (fun hb => ob_fieldAddr (off' := 32) rfl Try.underlying91 rfl sz44 (by decide) (.tmp rfl) rfl) (.cg rfl rfl rfl rfl (fun hb => (Ob.uncond (t := 20) hb rfl (ob_load rfl tk44 (.tmp rfl) (.head _) (lg_api_Held_Op p2)))) (.cg rfl rfl rfl rfl (fun hb => (Ob.uncond (t := 21) hb rfl (ob_callD0 (args := [_]) rfl .direct hb51 (fun a w s => by exact c_cabalref11_Great k _ _ (ite_t hb e_x3) _ _ _ (s.arg (.tmp rfl)))))) (.c1 rfl (ob_or2 rfl (.tmp rfl) opd_bool (.tmp rfl)) (.c1 rfl (mv rfl rfl) (.cg rfl rfl rfl rfl (fun hb => ob_fieldAddr (off' := 103) rfl Try.underlying91 rfl sz40 (by decide) (.tmp rfl) rfl) (.cg rfl rfl rfl rfl (fun hb => (Ob.uncond (t := 25) hb rfl (ob_load rfl tk40 (.tmp rfl) (.head _) (lg_api_Held_Got p2)))) (.cg rfl rfl rfl rfl (fun hb => (Ob.uncond (t := 26) hb rfl (ob_lens rfl Try.underlying40 (.tmp rfl)))) (.cg rfl rfl rfl rfl (fun hb => (Ob.uncond (t := 27) hb rfl (ob_gtr rfl (.tmp rfl) (opd_int rfl)))) (.c1 rfl (ob_or2 rfl (.tmp rfl) opd_bool (.tmp rfl)) (.ce (u 0 rfl (u 3 rfl (u 29 rfl .nil))))))))))))))))) fun _ _ s20 => wn hK6 ?_); clear s13
  refine cond_split s20 (.tmp rfl) (fun hc2 => ?_) (fun hc2 => ?_)
  ·have h6 := ite_t hc2 h5; clear h5
   obtain ⟨x4, e_x4, h7⟩ := bind_some h6; clear h6
   refine wp_seq_k fun K7 hK7 => wp_region_lit (qs s20 (.c1 rfl (ob_callD0 (args := []) rfl .direct hb59 (fun a w s => by exact c_caballaw19_alive k _ e_x4 _ _)) (.c1 rfl (ob_assign rfl (.tmp rfl)) (.ce (u 4 rfl .nil)))) fun _ _ s23 => wn hK7 ?_); clear s20
   have s24 := St.drop (A := []) s23; clear s23
   refine wp_ret ?_
   obtain rfl := Option.some.inj h7
   exact leave s24 (.inl rfl) rfl (.cons (.tmp rfl) .nil)
  ·have h8 := ite_f hc2 h5; clear h5
   refine wp_skip ?_
   refine then_normal (hK5 _ _ ?_)
   have s26 := s20.sub (u 0 rfl (u 3 rfl .nil)); clear s20
   obtain ⟨ga1, h9⟩ := guard_some h8; clear h8
   obtain ⟨ga2, h10⟩ := guard_some h9; clear h9
   obtain ⟨ga3, h11⟩ := guard_some h10; clear h10
   have em : iadd .i64 (p1.length : Int) 2 = ((p1.length + 2 : Nat) : Int) := by unfold lim at ga1; rw [add64 (by omega)]; omega
   refine wp_seq_k fun K8 hK8 => wp_region_lit (qs s26 (.c1 rfl (mv rfl rfl) (.c1 rfl (ob_lens rfl Try.underlying85 (.tmp rfl)) (.c1 rfl (mv rfl rfl) (.c1 rfl (ob_lens rfl Try.underlying85 (.tmp rfl)) (.c1 rfl ((ob_add rfl (.tmp rfl) (opd_int rfl)).nm em) .cz))))) fun _ _ s27 => ?_); clear s26
   refine qx (B' := (fun b5 : Nat => [RowF (roomV b5 (p1.length + 2)) 91 k_api_Held (List.replicate (p1.length + 2) zH), BF b3 91 k_api_Held p2])) s27 rfl (ob_makeRoomN rfl Try.underlying85 ap91 (Zr.iso (f := t_api_Held) (x := zH) (Zr.pair (Zr.arr 32 (Zr.int .u8)) (Zr.pair (Zr.iso (f := t_api_Op) (x := (⟨(0 : Int), (0 : Int), [], (0 : Int), [], (List.replicate 32 (0 : Int)), (List.replicate 32 (0 : Int)), [], []⟩ : api_Op)) (Zr.pair (Zr.int .i64) (Zr.pair (Zr.int .u32) (Zr.pair (Zr.sl _) (Zr.pair (Zr.int .i64) (Zr.pair (Zr.sl _) (Zr.pair (Zr.arr 32 (Zr.int .u8)) (Zr.pair (Zr.arr 32 (Zr.int .u8)) (Zr.pair Zr.str (Zr.pair (Zr.sl _) Zr.nil)))))))))) (Zr.pair (Zr.sl _) Zr.nil)))) (by decide) (.tmp rfl) (.tmp rfl) ⟨by omega, ga1⟩) fun b5 _ _ s28 => ?_; clear s27
   refine qs s28 (.c1 rfl (ob_assign rfl (.tmp rfl)) (.ce (u 0 rfl (u 3 rfl (u 5 rfl .nil))))) fun _ _ s29 => wn hK8 ?_; clear s28
   refine wp_seq_k fun K9 hK9 => wp_region_lit (qs s29 (.c1 rfl (mv rfl rfl) (.c1 rfl (mv rfl rfl) .cz)) fun _ _ s30 => ?_); clear s29
   refine qx (B' := (fun _ : Unit => [RowF (roomV b5 (p1.length + 2)) 91 k_api_Held (p1 ++ (List.replicate (p1.length + 2) zH).drop p1.length), BF b3 91 k_api_Held p2])) s30 rfl (ob_copyRoom (A := []) rfl Try.underlying85 sz91 (.tmp rfl) (.tmp rfl) rfl (by rw [List.length_replicate]; omega) rfl) fun _ _ _ s31 => ?_; clear s30
   refine wn hK9 ?_
   have s32 := s31.sub (u 0 rfl (u 3 rfl (u 5 rfl .nil))); clear s31
   refine wp_seq_k fun K10 hK10 => wp_region_lit (qs s32 (.c1 rfl (ob_load rfl tk91 (.tmp rfl) (.tail _ (.head _)) (LG.refl _ _)) .cz) fun _ _ s33 => ?_); clear s32
   refine qx (B' := (fun b6 : Nat => [BF b6 91 k_api_Held zH, RowF (roomV b5 (p1.length + 2)) 91 k_api_Held (p1 ++ (List.replicate (p1.length + 2) zH).drop p1.length), BF b3 91 k_api_Held p2])) s33 rfl (ob_new (k := k_api_Held) rfl zz91 (Zr.iso (f := t_api_Held) (x := zH) (Zr.pair (Zr.arr 32 (Zr.int .u8)) (Zr.pair (Zr.iso (f := t_api_Op) (x := (⟨(0 : Int), (0 : Int), [], (0 : Int), [], (List.replicate 32 (0 : Int)), (List.replicate 32 (0 : Int)), [], []⟩ : api_Op)) (Zr.pair (Zr.int .i64) (Zr.pair (Zr.int .u32) (Zr.pair (Zr.sl _) (Zr.pair (Zr.int .i64) (Zr.pair (Zr.sl _) (Zr.pair (Zr.arr 32 (Zr.int .u8)) (Zr.pair (Zr.arr 32 (Zr.int .u8)) (Zr.pair Zr.str (Zr.pair (Zr.sl _) Zr.nil)))))))))) (Zr.pair (Zr.sl _) Zr.nil))))) fun b6 _ _ s34 => ?_; clear s33
   refine seq_opx0 (B' := (fun _ : Unit => [BF b6 91 k_api_Held p2, RowF (roomV b5 (p1.length + 2)) 91 k_api_Held (p1 ++ (List.replicate (p1.length + 2) zH).drop p1.length), BF b3 91 k_api_Held p2])) s34 rfl rfl (ob_store (A := []) rfl tk91 (.tmp rfl) (.tmp rfl) rfl (LS.refl _ _ _) rfl) fun _ _ _ s35 => ?_; clear s34
   refine wn hK10 ?_
   have s36 := s35.sub (u 0 rfl (u 3 rfl (u 5 rfl (u 6 rfl .nil)))); clear s35
   refine wp_seq_k fun K11 hK11 => wp_region_lit ?_
   refine qx (B' := (fun e1 : Value => [RowF e1 39 (karr 32 (kint .u8)) ([] : List (List Int)), BF b6 91 k_api_Held p2, RowF (roomV b5 (p1.length + 2)) 91 k_api_Held (p1 ++ (List.replicate (p1.length + 2) zH).drop p1.length), BF b3 91 k_api_Held p2])) s36 rfl (ob_emptyRow (k := (karr 32 (kint .u8))) rfl Try.underlying40 sz39) fun e1 _ _ s37 => ?_; clear s36
   refine qs s37 (.c1 rfl (ob_fieldAddr (off' := 103) rfl Try.underlying91 rfl sz40 (by decide) (.tmp rfl) rfl) (.c1 rfl (ob_load rfl tk40 (.tmp rfl) (.tail _ (.tail _ (.tail _ (.head _)))) (lg_api_Held_Got p2)) .cz)) fun _ _ s38 => ?_; clear s37
   refine qx (B' := (fun v1 : Value => [RowF v1 39 (karr 32 (kint .u8)) p2.Got, BF b6 91 k_api_Held p2, RowF (roomV b5 (p1.length + 2)) 91 k_api_Held (p1 ++ (List.replicate (p1.length + 2) zH).drop p1.length), BF b3 91 k_api_Held p2])) s38 rfl (ob_appendL2 (A := []) rfl Try.underlying40 ap39 (Zr.arr 32 (Zr.int .u8)) (by decide) (.tmp rfl) (.tmp rfl) rfl ga2) fun v1 _ _ s39 => ?_; clear s38
   refine qs s39 (.c1 rfl (ob_fieldAddr (off' := 103) rfl Try.underlying91 rfl sz40 (by decide) (.tmp rfl) rfl) .cz) fun _ _ s40 => ?_; clear s39
   refine seq_opx0 (B' := (fun _ : Unit => [RowF v1 39 (karr 32 (kint .u8)) p2.Got, BF b6 91 (kG1 v1) p2, RowF (roomV b5 (p1.length + 2)) 91 k_api_Held (p1 ++ (List.replicate (p1.length + 2) zH).drop p1.length), BF b3 91 k_api_Held p2])) s40 rfl rfl (ob_storeRowV (A := [_]) rfl ⟨tk40.size, tk40.agg⟩ (.tmp rfl) (.tmp rfl) (.head _) rfl (lsG1 v1 p2) rfl) fun _ _ _ s41 => ?_; clear s40
   refine wn hK11 ?_
   have s42 := s41.sub (u 0 rfl (u 3 rfl (u 5 rfl (u 6 rfl .nil)))); clear s41
   refine wp_seq_k fun K12 hK12 => wp_region_lit ?_
   refine qx (B' := (fun e2 : Value => [RowF e2 39 (karr 32 (kint .u8)) ([] : List (List Int)), RowF v1 39 (karr 32 (kint .u8)) p2.Got, BF b6 91 (kG1 v1) p2, RowF (roomV b5 (p1.length + 2)) 91 k_api_Held (p1 ++ (List.replicate (p1.length + 2) zH).drop p1.length), BF b3 91 k_api_Held p2])) s42 rfl (ob_emptyRow (k := (karr 32 (kint .u8))) rfl Try.underlying40 sz39) fun e2 _ _ s43 => ?_; clear s42
   refine qs s43 (.c1 rfl (ob_fieldAddr (off' := 32) rfl Try.underlying91 rfl sz44 (by decide) (.tmp rfl) rfl) (.c1 rfl (ob_fieldAddr (off' := 34) rfl Try.underlying44 rfl sz40 (by decide) (.tmp rfl) rfl) (.c1 rfl (ob_load rfl tk40 (.tmp rfl) (.tail _ (.tail _ (.tail _ (.tail _ (.head _))))) (LG.trans (lg_api_Held_Op p2) (lg_api_Op_Parents p2.Op) (by decide))) .cz))) fun _ _ s44 => ?_; clear s43
   refine qx (B' := (fun v2 : Value => [RowF v2 39 (karr 32 (kint .u8)) p2.Op.Parents, RowF v1 39 (karr 32 (kint .u8)) p2.Got, BF b6 91 (kG1 v1) p2, RowF (roomV b5 (p1.length + 2)) 91 k_api_Held (p1 ++ (List.replicate (p1.length + 2) zH).drop p1.length), BF b3 91 k_api_Held p2])) s44 rfl (ob_appendL2 (A := []) rfl Try.underlying40 ap39 (Zr.arr 32 (Zr.int .u8)) (by decide) (.tmp rfl) (.tmp rfl) rfl ga3) fun v2 _ _ s45 => ?_; clear s44
   refine qs s45 (.c1 rfl (ob_fieldAddr (off' := 32) rfl Try.underlying91 rfl sz44 (by decide) (.tmp rfl) rfl) (.c1 rfl (ob_fieldAddr (off' := 34) rfl Try.underlying44 rfl sz40 (by decide) (.tmp rfl) rfl) .cz)) fun _ _ s46 => ?_; clear s45
   refine seq_opx0 (B' := (fun _ : Unit => [RowF v2 39 (karr 32 (kint .u8)) p2.Op.Parents, RowF v1 39 (karr 32 (kint .u8)) p2.Got, BF b6 91 (kG2 v1 v2) p2, RowF (roomV b5 (p1.length + 2)) 91 k_api_Held (p1 ++ (List.replicate (p1.length + 2) zH).drop p1.length), BF b3 91 k_api_Held p2])) s46 rfl rfl (ob_storeRowV (A := [_, _]) rfl ⟨tk40.size, tk40.agg⟩ (.tmp rfl) (.tmp rfl) (.head _) rfl (lsG2 v1 v2 p2) rfl) fun _ _ _ s47 => ?_; clear s46
   refine wn hK12 ?_
   have s48 := s47.sub (u 0 rfl (u 3 rfl (u 5 rfl (u 6 rfl .nil)))); clear s47
   have s49 : St ⟨128, w0, ok, []⟩ [RowF (roomV b5 (p1.length + 2)) 91 k_api_Held (p1 ++ (List.replicate (p1.length + 2) zH).drop p1.length), RowF v2 39 (karr 32 (kint .u8)) p2.Op.Parents, RowF v1 39 (karr 32 (kint .u8)) p2.Got, BF b6 91 (kG2 v1 v2) p2, BF b3 91 k_api_Held p2] _ _ _ := s48.perm (toFront [_, _, _] (List.Perm.refl _)); clear s48
   obtain ⟨x5, e_x5, h12⟩ := bind_some h11; clear h11
   refine wp_seq_k fun K13 hK13 => wp_region_lit (qs s49 (.c1 rfl (mv rfl rfl) (.c1 rfl (ob_load (k := kG2 v1 v2) rfl ⟨tk91.size, tk91.agg⟩ (.tmp rfl) (.tail _ (.tail _ (.tail _ (.head _)))) (LG.refl _ _)) .cz)) fun _ _ s50 => ?_); clear s49
   have hro : ∀ L : List OF, RowF (roomV b5 (p1.length + 2)) 91 k_api_Held (p1 ++ (List.replicate (p1.length + 2) zH).drop p1.length) ∈ L → ∀ ok w u, (is (roomC b5 p1.length (p1.length + 2))).holds ok w u → (∀ q, q ∈ L → q.holds ok w) → (∀ c, c ∈ idsOf L → ok c) → ((ksl k_api_Held).V p1).holds ok w u := fun L hL ok w u h1 h2 h3 => by
    have := lendRoom (k := k_api_Held) (n := p1.length) hL (by simp) ok w u h1 h2 h3
    rwa [List.take_left] at this
   refine qs s50 (.c1 rfl (ObF.ob (ob_lendF (F := resFact [(ksl k_api_Held).V x5.1, (kint .i64).V x5.2]) (L := [_, _, _]) (D := [_, _]) (List.Perm.refl _) (.cons (t := 54) rfl (hro _ (.head _)) (.cons (t := 55) rfl (lendHeld (.tail _ (.tail _ (.head _))) (.tail _ (.head _))) .nil)) (fun C' => ob_callFN (δ := Value) (F' := fun g : Value => resFact [is g, (kint .i64).V x5.2]) (L' := fun n g => [RowF g 91 (kfr n k_api_Held) x5.1]) (args := [_, _]) rfl .direct hb66 (fun a w s => by exact cF_queue_Put k _ _ _ e_x5 _ _ _ _ (s.arg (.tmp rfl)) (s.arg (.tmp rfl))) (fun n g ok w v h1 h2 h3 => resFr2 h1 (h2 _ (.head _)) (fun b hb => h3 b (mem_idsOf (List.Mem.head _) hb)) (Flat.V (KFlat.int _)))))) (.c1 rfl (mv rfl rfl) (.c1 rfl (ob_extract rfl (.tmp rfl) rfl) (.c1 rfl (ob_extract rfl (.tmp rfl) rfl) (.c1 rfl (ob_assign rfl (.tmp rfl)) (.c1 rfl (ob_assign rfl (.tmp rfl)) (.ce (u 0 rfl (u 3 rfl (u 5 rfl (u 6 rfl (u 7 rfl (u 8 rfl .nil))))))))))))) fun _ _ s51 => wn hK13 ?_; clear s50
   unfold caballaw19_QueueKeeps.t1 at h12
   obtain ⟨x7, e_x7, h13⟩ := bind_some h12; clear h12
   refine wp_seq_k fun K14 hK14 => wp_region_lit (qs s51 (.c1 rfl (mv rfl rfl) (.c1 rfl (ob_load rfl tk91 (.tmp rfl) (.tail _ (.tail _ (.tail _ (.tail _ (.head _))))) (LG.refl _ _)) .cz)) fun _ _ s52 => ?_); clear s51
   refine qx (B' := (fun v9 : Value => [RowF v9 91 k_api_Held x7.1, RowF (roomV b5 (p1.length + 2)) 91 k_api_Held (p1 ++ (List.replicate (p1.length + 2) zH).drop p1.length), RowF v2 39 (karr 32 (kint .u8)) p2.Op.Parents, RowF v1 39 (karr 32 (kint .u8)) p2.Got, BF b6 91 (kG2 v1 v2) p2, BF b3 91 k_api_Held p2])) s52 rfl (ob_callL0 (args := [_, _]) (L := []) rfl .direct hb67 (List.Perm.refl _) (fun a w s => by exact c_cabalref19_Put k _ _ _ e_x7 _ _ _ _ (s.arg (.tmp rfl)) (s.arg (.tmp rfl))) (by exact fun _ => rfl)) fun v9 _ _ s53 => ?_; clear s52
   refine qs s53 (.c1 rfl (mv rfl rfl) (.c1 rfl (ob_extract rfl (.tmp rfl) rfl) (.c1 rfl (ob_extract rfl (.tmp rfl) rfl) (.c1 rfl (ob_assign rfl (.tmp rfl)) (.c1 rfl (ob_assign rfl (.tmp rfl)) (.ce (u 0 rfl (u 5 rfl (u 6 rfl (u 7 rfl (u 8 rfl (u 9 rfl .nil)))))))))))) fun _ _ s54 => wn hK14 ?_; clear s53
   have hml : p1.length + 2 ≤ maxLen := by unfold lim at ga1; unfold maxLen; omega
   refine wp_seq_k fun K15 hK15 => wp_region_lit (qs s54 (.c1 rfl (mv rfl rfl) (.c1 rfl (mv rfl rfl) (.c1 rfl (ob_capIs rfl Try.underlying85 (.tmp rfl) hml) (.c1 rfl (ob_sliceIs (k := k_api_Held) rfl Try.underlying85 sz91 (.tmp rfl) (.tmp rfl) (by omega)) (.c1 rfl (ob_assign rfl (.tmp rfl)) (.ce (u 0 rfl (u 5 rfl (u 6 rfl (u 7 rfl (u 8 rfl (u 9 rfl (u 11 rfl .nil))))))))))))) fun _ _ s55 => wn hK15 ?_); clear s54
   obtain ⟨x8, e_x8, h14⟩ := bind_some h13; clear h13
   obtain ⟨x9, e_x9, h15⟩ := bind_some h14; clear h14
   have hX : (p1 ++ (List.replicate (p1.length + 2) zH).drop p1.length).length = p1.length + 2 := by simp
   have hdr : (p1 ++ (List.replicate (p1.length + 2) zH).drop p1.length).drop p1.length = List.replicate 2 zH := by rw [List.drop_left, List.drop_replicate]; congr 1; omega
   refine wp_seq_k fun Ka hKa => wp_seq_k fun Kb hKb => ?_
   refine wp_goes (Fs := [(is (roomC b5 p1.length (p1.length + 2))), ((ksl k_api_Held).V p1), (kbool.V x8), (kbool.V (!x8)), (kbool.V (!x8)), (Fact.when ((!x8) == false) (is (roomV b5 (p1.length + 2)))), (Fact.when ((!x8) == false) ((ksl k_api_Held).V p1)), (Fact.when ((!x8) == false) ((kint .i64).V (p1.length : Int))), (Fact.when ((!x8) == false) (slT (roomV b5 (p1.length + 2)) k_api_Held.sz p1.length ((p1 ++ (List.replicate (p1.length + 2) zH).drop p1.length).length - p1.length))), (Fact.when ((!x8) == false) ((ksl k_api_Held).V (List.replicate 2 zH)))]) (bits := [0, 0, 3, 7, 15, 31, 31, 95, 255, 31, 1023, 2047, 4095]) (m := 10) (todo := 0) mx s55 ?_; clear s55
   refine goes_last (by kernel_rfl) rfl (oc (av 5 rfl rfl Av.nil) rfl rfl (mv rfl rfl) (oc (av 0 rfl rfl Av.nil) rfl rfl (mv rfl rfl) (oc (an 0 rfl rfl rfl (an 1 rfl rfl rfl Av.nil)) rfl rfl (ob_lendG (L := [_]) (toFront [_] (List.Perm.refl _)) (.cons (t := 69) rfl (hro _ (.head _)) .nil) (Flat.res1 (Flat.V KFlat.bool)) (fun _ => ob_callD0 (args := [_, _]) rfl .direct hb68 (fun a w s => by exact c_cabalref19_Same k _ _ _ e_x8 _ _ _ _ (s.arg (.tmp rfl)) (s.arg (.tmp rfl))))) (oc (an 2 rfl rfl rfl Av.nil) rfl rfl (ob_not rfl (.tmp rfl)) (oc (an 3 rfl rfl rfl Av.nil) rfl rfl (mv rfl rfl) (opsS_cons (.guarded _ (av 11 rfl rfl (an 4 rfl rfl rfl Av.nil)) rfl rfl rfl rfl (fun hb => ob_move rfl (.tmp rfl))) (opsS_cons (.guarded _ (av 0 rfl rfl (an 4 rfl rfl rfl Av.nil)) rfl rfl rfl rfl (fun hb => ob_move rfl (.tmp rfl))) (opsS_cons (.guarded _ (an 4 rfl rfl rfl (an 6 rfl rfl rfl Av.nil)) rfl rfl rfl rfl (fun hb => (Ob.uncond (t := 75) hb rfl (ob_lens rfl Try.underlying85 (.tmp rfl))))) (opsS_cons (.guarded _ (an 4 rfl rfl rfl (an 5 rfl rfl rfl (an 7 rfl rfl rfl Av.nil))) rfl rfl rfl rfl (fun hb => (Ob.uncond (t := 76) hb rfl ((Ob.uncond (t := 74) hb rfl (ob_cutT (k := k_api_Held) (xs := (p1 ++ (List.replicate (p1.length + 2) zH).drop p1.length)) (m := (p1.length : Int)) rfl Try.underlying85 sz91 (.tmp rfl) (.tail _ (.head _)) (.some (.tmp rfl)) (by omega))))))) (opsS_cons (.guarded _ (an 4 rfl rfl rfl Av.nil) rfl rfl rfl rfl (fun hb => ob_makeData (n := 2) rfl Try.underlying85 ap91 (Zr.iso (f := t_api_Held) (x := zH) (Zr.pair (Zr.arr 32 (Zr.int .u8)) (Zr.pair (Zr.iso (f := t_api_Op) (x := (⟨(0 : Int), (0 : Int), [], (0 : Int), [], (List.replicate 32 (0 : Int)), (List.replicate 32 (0 : Int)), [], []⟩ : api_Op)) (Zr.pair (Zr.int .i64) (Zr.pair (Zr.int .u32) (Zr.pair (Zr.sl _) (Zr.pair (Zr.int .i64) (Zr.pair (Zr.sl _) (Zr.pair (Zr.arr 32 (Zr.int .u8)) (Zr.pair (Zr.arr 32 (Zr.int .u8)) (Zr.pair Zr.str (Zr.pair (Zr.sl _) Zr.nil)))))))))) (Zr.pair (Zr.sl _) Zr.nil)))) (by decide) (opd_int rfl) (opd_int rfl) (by decide))) opsS_nil)))))))))) (out_old (t := 0) rfl rfl (out_old (t := 5) rfl rfl (out_old (t := 6) rfl rfl (out_old (t := 7) rfl rfl (out_old (t := 8) rfl rfl (out_old (t := 9) rfl rfl (out_new (i := 4) (by decide) rfl rfl (out_new (i := 8) (by decide) rfl rfl (out_new (i := 9) (by decide) rfl rfl out_nil))))))))) fun _ _ o6 => ?_
   have hrest : ∀ ok w u, (slT (roomV b5 (p1.length + 2)) k_api_Held.sz p1.length ((p1 ++ (List.replicate (p1.length + 2) zH).drop p1.length).length - p1.length)).holds ok w u → (∀ q, q ∈ [RowF (roomV b5 (p1.length + 2)) 91 k_api_Held (p1 ++ (List.replicate (p1.length + 2) zH).drop p1.length)] → q.holds ok w) → (∀ c, c ∈ idsOf [RowF (roomV b5 (p1.length + 2)) 91 k_api_Held (p1 ++ (List.replicate (p1.length + 2) zH).drop p1.length)] → ok c) → ((ksl k_api_Held).V (List.replicate 2 zH)).holds ok w u := fun ok w u h1 h2 h3 => by
    have := lendRest (k := k_api_Held) (.head _) rfl (by omega) ok w u h1 h2 h3
    rwa [hdr] at this
   refine qs o6 (.cg rfl rfl rfl rfl (fun hb => (Ob.uncond (t := 78) hb rfl ((Ob.uncond (t := 77) hb rfl ((ob_lendG (L := [_]) (toFront [_] (List.Perm.refl _)) (.cons (t := 77) rfl hrest .nil) (Flat.res1 (Flat.V KFlat.bool)) (fun _ => ob_callD0 (args := [_, _]) rfl .direct hb68 (fun a w s => by exact c_cabalref19_Same k _ _ _ (ite_t hb e_x9) _ _ _ _ (s.arg (.tmp rfl)) (s.arg (.tmp rfl)))))))))) (.cg rfl rfl rfl rfl (fun hb => (Ob.uncond (t := 79) hb rfl (ob_not rfl (.tmp rfl)))) (.c1 rfl (ob_or2 rfl (.tmp rfl) opd_bool (.tmp rfl)) (.ce (u 0 rfl (u 5 rfl (u 6 rfl (u 7 rfl (u 8 rfl (u 9 rfl (u 81 rfl .nil))))))))))) fun _ _ o7 => wn hKb ?_; clear o6
   refine cond_split o7 (.tmp rfl) (fun hc3 => ?_) (fun hc3 => ?_)
   ·have h16 := ite_t hc3 h15; clear h15
    refine wp_seq_k fun Kc hKc => wp_region_lit (qs o7 (.c1 rfl (ob_assign rfl opd_bool) (.ce (u 4 rfl .nil))) fun _ _ t0 => wn hKc ?_); clear o7
    replace t0 := St.drop (A := []) t0
    replace t0 := St.drop (A := []) t0
    replace t0 := St.drop (A := []) t0
    replace t0 := St.drop (A := []) t0
    replace t0 := St.drop (A := []) t0
    replace t0 := St.drop (A := []) t0
    refine wp_ret ?_
    obtain rfl := Option.some.inj h16
    exact leave t0 (.inl rfl) rfl (.cons (.tmp rfl) .nil)
   ·have h17 := ite_f hc3 h15; clear h15
    refine wp_skip ?_
    refine then_normal (hKa _ _ ?_)
    have o0 := o7.sub (u 0 rfl (u 5 rfl (u 6 rfl (u 7 rfl (u 8 rfl (u 9 rfl .nil)))))); clear o7
    refine wp_seq_k fun La1 hLa1 => wp_seq_k fun Lb1 hLb1 => wp_region_lit (qs o0 (.c1 rfl (ob_assign rfl (opd_int rfl)) (.ce (u 0 rfl (u 5 rfl (u 6 rfl (u 7 rfl (u 8 rfl (u 9 rfl (u 12 rfl .nil))))))))) fun _ _ q1 => wn hLb1 ?_); clear o0
    refine wp_block ?_
    refine wp_loop_fuel (fun m (q : Nat) => upto p2.Got.length (upto p2.Op.Parents.length (upto p1.length (caballaw19_QueueKeeps.t2 k x5 x7) k 0) k 0) m q) r (fun _ => rfl) (fun q a w => ∃ xs : List (List Int), xs.length = p2.Got.length ∧ St ⟨128, w0, ok, []⟩ [RowF v9 91 k_api_Held x7.1, RowF (roomV b5 (p1.length + 2)) 91 k_api_Held (p1 ++ (List.replicate (p1.length + 2) zH).drop p1.length), RowF v2 39 (karr 32 (kint .u8)) p2.Op.Parents, RowF v1 39 (karr 32 (kint .u8)) xs, BF b6 91 (kG2 v1 v2) p2, BF b3 91 k_api_Held p2] [(0, ((ksl k_api_Held).V p1)), (5, (is (roomC b5 p1.length (p1.length + 2)))), (6, (ptrB b6 0)), (7, ((ksl k_api_Held).V x5.1)), (8, ((kint .i64).V x5.2)), (9, (is v9)), (12, ((kint .i64).V (q : Int)))] a w) ?_ k 0 _ _ h17 ⟨p2.Got, rfl, (q1.sub (.cons rfl (.cons rfl (.cons rfl (.cons rfl (.cons rfl (.cons rfl (.cons rfl .nil))))))))⟩; clear q1
    rintro n1 i1 _ _ g1 ⟨xs1, hxs1, r1⟩ M1 hM1
    replace g1 : upto p2.Got.length (upto p2.Op.Parents.length (upto p1.length (caballaw19_QueueKeeps.t2 k x5 x7) k 0) k 0) (n1 + 1) i1 = some r := g1; rw [upto] at g1
    refine wp_seq_k fun Ld1 hLd1 => wp_seq_k fun Lc1 hLc1 => wp_region_lit (qs r1 (.c1 rfl (mv rfl rfl) (.c1 rfl (ob_fieldAddr (off' := 103) rfl Try.underlying91 rfl sz40 (by decide) (.tmp rfl) rfl) (.c1 rfl (ob_loadRowV rfl ⟨tk40.size, tk40.agg⟩ (.tmp rfl) (.tail _ (.tail _ (.tail _ (.tail _ (.head _))))) (lgG1 v1 v2 p2)) (.c1 rfl (ob_lenRow rfl Try.underlying40 (.tmp rfl) (.tail _ (.tail _ (.tail _ (.head _))))) (.c1 rfl (ob_lss rfl (.tmp rfl) (.tmp rfl)) (.ce (u 0 rfl (u 5 rfl (u 6 rfl (u 7 rfl (u 8 rfl (u 9 rfl (u 12 rfl (u 86 rfl .nil)))))))))))))) fun _ _ y1 => wn hLc1 ?_); clear r1
    refine cond_split y1 (.tmp rfl) (fun hd1 => ?_) (fun hd1 => ?_)
    ·have hq : i1 < p2.Got.length := by have := of_decide_eq_true hd1; omega
     rw [if_pos hq] at g1
     refine wp_skip ?_
     refine then_normal (hLd1 _ _ ?_)
     have z0 := y1.sub (u 0 rfl (u 5 rfl (u 6 rfl (u 7 rfl (u 8 rfl (u 9 rfl (u 12 rfl .nil))))))); clear y1
     refine wp_seq_k fun Le hLe => wp_block ?_
     refine wp_region_lit (qs z0 (.c1 rfl (ob_fieldAddr (off' := 103) rfl Try.underlying91 rfl sz40 (by decide) (.tmp rfl) rfl) (.c1 rfl (ob_loadRowV rfl ⟨tk40.size, tk40.agg⟩ (.tmp rfl) (.tail _ (.tail _ (.tail _ (.tail _ (.head _))))) (lgG1 v1 v2 p2)) (.c1 rfl (mv rfl rfl) (.c1 rfl (ob_mkArr (k := (kint .u8)) (xs := [(77 : Int), 0, 0, 0, 0, 0, 0, 0, 0, 0, 0, 0, 0, 0, 0, 0, 0, 0, 0, 0, 0, 0, 0, 0, 0, 0, 0, 0, 0, 0, 0, 0]) rfl Try.underlying39 zz39 sz5 (Zr.arr 32 (Zr.int .u8)) (.cons (opd_int rfl) rfl (LS.arr' (i := 0) (ys := ([(77 : Int), 0, 0, 0, 0, 0, 0, 0, 0, 0, 0, 0, 0, 0, 0, 0, 0, 0, 0, 0, 0, 0, 0, 0, 0, 0, 0, 0, 0, 0, 0, 0] : (List Int))) (by simp) (by rfl)) (.nil _))) (.c1 rfl (ob_indexAddrRow (k := (karr 32 (kint .u8))) rfl Try.underlying40 sz39 (.tmp rfl) (.tail _ (.tail _ (.tail _ (.head _)))) (.tmp rfl) (by omega)) .cz))))) fun _ _ z1 => ?_); clear z0
     have hst : set? xs1 (i1 : Int) [(77 : Int), 0, 0, 0, 0, 0, 0, 0, 0, 0, 0, 0, 0, 0, 0, 0, 0, 0, 0, 0, 0, 0, 0, 0, 0, 0, 0, 0, 0, 0, 0, 0] = some (xs1.set i1 [(77 : Int), 0, 0, 0, 0, 0, 0, 0, 0, 0, 0, 0, 0, 0, 0, 0, 0, 0, 0, 0, 0, 0, 0, 0, 0, 0, 0, 0, 0, 0, 0, 0]) := by unfold set?; rw [if_pos (by omega), Int.toNat_natCast]
     refine seq_opx0 (B' := (fun _ : Unit => [RowF v9 91 k_api_Held x7.1, RowF (roomV b5 (p1.length + 2)) 91 k_api_Held (p1 ++ (List.replicate (p1.length + 2) zH).drop p1.length), RowF v2 39 (karr 32 (kint .u8)) p2.Op.Parents, RowF v1 39 (karr 32 (kint .u8)) (xs1.set i1 [(77 : Int), 0, 0, 0, 0, 0, 0, 0, 0, 0, 0, 0, 0, 0, 0, 0, 0, 0, 0, 0, 0, 0, 0, 0, 0, 0, 0, 0, 0, 0, 0, 0]), BF b6 91 (kG2 v1 v2) p2, BF b3 91 k_api_Held p2])) z1 rfl rfl (ob_storeRow (A := [_, _, _]) rfl tk39 (.tmp rfl) (.tmp rfl) rfl hst rfl) fun _ _ _ z2 => ?_; clear z1
     refine wpList_nil ?_
     refine in_normal ?_
     refine then_normal (hLe _ _ ?_)
     have z3 := z2.sub (u 0 rfl (u 5 rfl (u 6 rfl (u 7 rfl (u 8 rfl (u 9 rfl (u 12 rfl .nil))))))); clear z2
     have em2 : iadd .i64 (i1 : Int) 1 = ((i1 + 1 : Nat) : Int) := by unfold lim at ga2 ga3; simp only [List.length_nil] at ga2 ga3; rw [add64 (by omega)]; omega
     refine wp_region_lit (qs z3 (.c1 rfl (mv rfl rfl) (.c1 rfl ((ob_add rfl (.tmp rfl) (opd_int rfl)).nm em2) (.c1 rfl (ob_assign rfl (.tmp rfl)) .cz))) fun _ _ z4 => ?_); clear z3
     refine wpList_nil ?_
     refine then_normal ?_
     exact hM1 (i1 + 1) _ _ g1 ⟨_, by rw [List.length_set]; exact hxs1, z4.sub (.cons rfl (.cons rfl (.cons rfl (.cons rfl (.cons rfl (.cons rfl (.cons rfl .nil)))))))⟩
    ·have hq : ¬ i1 < p2.Got.length := by have := of_decide_eq_false hd1; omega
     rw [if_neg hq] at g1
     refine wp_exit ?_
     refine (then_exit (then_exit (in_here ?_)))
     refine then_normal (hLa1 _ _ ?_)
     have o1 := y1.sub (u 0 rfl (u 5 rfl (u 6 rfl (u 7 rfl (u 8 rfl (u 9 rfl .nil)))))); clear y1
     refine wp_seq_k fun La2 hLa2 => wp_seq_k fun Lb2 hLb2 => wp_region_lit (qs o1 (.c1 rfl (ob_assign rfl (opd_int rfl)) (.ce (u 0 rfl (u 5 rfl (u 6 rfl (u 7 rfl (u 8 rfl (u 9 rfl (u 13 rfl .nil))))))))) fun _ _ q2 => wn hLb2 ?_); clear o1
     refine wp_block ?_
     refine wp_loop_fuel (fun m (q : Nat) => upto p2.Op.Parents.length (upto p1.length (caballaw19_QueueKeeps.t2 k x5 x7) k 0) m q) r (fun _ => rfl) (fun q a w => ∃ xs : List (List Int), xs.length = p2.Op.Parents.length ∧ St ⟨128, w0, ok, []⟩ [RowF v9 91 k_api_Held x7.1, RowF (roomV b5 (p1.length + 2)) 91 k_api_Held (p1 ++ (List.replicate (p1.length + 2) zH).drop p1.length), RowF v2 39 (karr 32 (kint .u8)) xs, RowF v1 39 (karr 32 (kint .u8)) xs1, BF b6 91 (kG2 v1 v2) p2, BF b3 91 k_api_Held p2] [(0, ((ksl k_api_Held).V p1)), (5, (is (roomC b5 p1.length (p1.length + 2)))), (6, (ptrB b6 0)), (7, ((ksl k_api_Held).V x5.1)), (8, ((kint .i64).V x5.2)), (9, (is v9)), (13, ((kint .i64).V (q : Int)))] a w) ?_ k 0 _ _ g1 ⟨p2.Op.Parents, rfl, (q2.sub (.cons rfl (.cons rfl (.cons rfl (.cons rfl (.cons rfl (.cons rfl (.cons rfl .nil))))))))⟩; clear q2
     rintro n2 i2 _ _ g2 ⟨xs2, hxs2, r2⟩ M2 hM2
     replace g2 : upto p2.Op.Parents.length (upto p1.length (caballaw19_QueueKeeps.t2 k x5 x7) k 0) (n2 + 1) i2 = some r := g2; rw [upto] at g2
     refine wp_seq_k fun Ld2 hLd2 => wp_seq_k fun Lc2 hLc2 => wp_region_lit (qs r2 (.c1 rfl (mv rfl rfl) (.c1 rfl (ob_fieldAddr (off' := 32) rfl Try.underlying91 rfl sz44 (by decide) (.tmp rfl) rfl) (.c1 rfl (ob_fieldAddr (off' := 34) rfl Try.underlying44 rfl sz40 (by decide) (.tmp rfl) rfl) (.c1 rfl (ob_loadRowV rfl ⟨tk40.size, tk40.agg⟩ (.tmp rfl) (.tail _ (.tail _ (.tail _ (.tail _ (.head _))))) (lgG2 v1 v2 p2)) (.c1 rfl (ob_lenRow rfl Try.underlying40 (.tmp rfl) (.tail _ (.tail _ (.head _)))) (.c1 rfl (ob_lss rfl (.tmp rfl) (.tmp rfl)) (.ce (u 0 rfl (u 5 rfl (u 6 rfl (u 7 rfl (u 8 rfl (u 9 rfl (u 13 rfl (u 99 rfl .nil))))))))))))))) fun _ _ y2 => wn hLc2 ?_); clear r2
     refine cond_split y2 (.tmp rfl) (fun hd2 => ?_) (fun hd2 => ?_)
     ·have hq : i2 < p2.Op.Parents.length := by have := of_decide_eq_true hd2; omega
      rw [if_pos hq] at g2
      refine wp_skip ?_
      refine then_normal (hLd2 _ _ ?_)
      have z0 := y2.sub (u 0 rfl (u 5 rfl (u 6 rfl (u 7 rfl (u 8 rfl (u 9 rfl (u 13 rfl .nil))))))); clear y2
      refine wp_seq_k fun Le hLe => wp_block ?_
      refine wp_region_lit (qs z0 (.c1 rfl (ob_fieldAddr (off' := 32) rfl Try.underlying91 rfl sz44 (by decide) (.tmp rfl) rfl) (.c1 rfl (ob_fieldAddr (off' := 34) rfl Try.underlying44 rfl sz40 (by decide) (.tmp rfl) rfl) (.c1 rfl (ob_loadRowV rfl ⟨tk40.size, tk40.agg⟩ (.tmp rfl) (.tail _ (.tail _ (.tail _ (.tail _ (.head _))))) (lgG2 v1 v2 p2)) (.c1 rfl (mv rfl rfl) (.c1 rfl (ob_mkArr (k := (kint .u8)) (xs := [(77 : Int), 0, 0, 0, 0, 0, 0, 0, 0, 0, 0, 0, 0, 0, 0, 0, 0, 0, 0, 0, 0, 0, 0, 0, 0, 0, 0, 0, 0, 0, 0, 0]) rfl Try.underlying39 zz39 sz5 (Zr.arr 32 (Zr.int .u8)) (.cons (opd_int rfl) rfl (LS.arr' (i := 0) (ys := ([(77 : Int), 0, 0, 0, 0, 0, 0, 0, 0, 0, 0, 0, 0, 0, 0, 0, 0, 0, 0, 0, 0, 0, 0, 0, 0, 0, 0, 0, 0, 0, 0, 0] : (List Int))) (by simp) (by rfl)) (.nil _))) (.c1 rfl (ob_indexAddrRow (k := (karr 32 (kint .u8))) rfl Try.underlying40 sz39 (.tmp rfl) (.tail _ (.tail _ (.head _))) (.tmp rfl) (by omega)) .cz)))))) fun _ _ z1 => ?_); clear z0
      have hst : set? xs2 (i2 : Int) [(77 : Int), 0, 0, 0, 0, 0, 0, 0, 0, 0, 0, 0, 0, 0, 0, 0, 0, 0, 0, 0, 0, 0, 0, 0, 0, 0, 0, 0, 0, 0, 0, 0] = some (xs2.set i2 [(77 : Int), 0, 0, 0, 0, 0, 0, 0, 0, 0, 0, 0, 0, 0, 0, 0, 0, 0, 0, 0, 0, 0, 0, 0, 0, 0, 0, 0, 0, 0, 0, 0]) := by unfold set?; rw [if_pos (by omega), Int.toNat_natCast]
      refine seq_opx0 (B' := (fun _ : Unit => [RowF v9 91 k_api_Held x7.1, RowF (roomV b5 (p1.length + 2)) 91 k_api_Held (p1 ++ (List.replicate (p1.length + 2) zH).drop p1.length), RowF v2 39 (karr 32 (kint .u8)) (xs2.set i2 [(77 : Int), 0, 0, 0, 0, 0, 0, 0, 0, 0, 0, 0, 0, 0, 0, 0, 0, 0, 0, 0, 0, 0, 0, 0, 0, 0, 0, 0, 0, 0, 0, 0]), RowF v1 39 (karr 32 (kint .u8)) xs1, BF b6 91 (kG2 v1 v2) p2, BF b3 91 k_api_Held p2])) z1 rfl rfl (ob_storeRow (A := [_, _]) rfl tk39 (.tmp rfl) (.tmp rfl) rfl hst rfl) fun _ _ _ z2 => ?_; clear z1
      refine wpList_nil ?_
      refine in_normal ?_
      refine then_normal (hLe _ _ ?_)
      have z3 := z2.sub (u 0 rfl (u 5 rfl (u 6 rfl (u 7 rfl (u 8 rfl (u 9 rfl (u 13 rfl .nil))))))); clear z2
      have em2 : iadd .i64 (i2 : Int) 1 = ((i2 + 1 : Nat) : Int) := by unfold lim at ga2 ga3; simp only [List.length_nil] at ga2 ga3; rw [add64 (by omega)]; omega
      refine wp_region_lit (qs z3 (.c1 rfl (mv rfl rfl) (.c1 rfl ((ob_add rfl (.tmp rfl) (opd_int rfl)).nm em2) (.c1 rfl (ob_assign rfl (.tmp rfl)) .cz))) fun _ _ z4 => ?_); clear z3
      refine wpList_nil ?_
      refine then_normal ?_
      exact hM2 (i2 + 1) _ _ g2 ⟨_, by rw [List.length_set]; exact hxs2, z4.sub (.cons rfl (.cons rfl (.cons rfl (.cons rfl (.cons rfl (.cons rfl (.cons rfl .nil)))))))⟩
     ·have hq : ¬ i2 < p2.Op.Parents.length := by have := of_decide_eq_false hd2; omega
      rw [if_neg hq] at g2
      refine wp_exit ?_
      refine (then_exit (then_exit (in_here ?_)))
      refine then_normal (hLa2 _ _ ?_)
      have o2 := y2.sub (u 0 rfl (u 5 rfl (u 6 rfl (u 7 rfl (u 8 rfl (u 9 rfl .nil)))))); clear y2
      refine wp_seq_k fun La4 hLa4 => wp_seq_k fun Lb4 hLb4 => wp_region_lit (qs o2 (.c1 rfl (ob_assign rfl (opd_int rfl)) (.ce (u 0 rfl (u 5 rfl (u 7 rfl (u 8 rfl (u 9 rfl (u 14 rfl .nil)))))))) fun _ _ q4 => wn hLb4 ?_); clear o2
      refine wp_block ?_
      refine wp_loop_fuel (fun m (q : Nat) => upto p1.length (caballaw19_QueueKeeps.t2 k x5 x7) m q) r (fun _ => rfl) (fun q a w => ∃ xs : List api_Held, xs.length = p1.length + 2 ∧ St ⟨128, w0, ok, []⟩ [RowF v9 91 k_api_Held x7.1, RowF (roomV b5 (p1.length + 2)) 91 k_api_Held xs, RowF v2 39 (karr 32 (kint .u8)) xs2, RowF v1 39 (karr 32 (kint .u8)) xs1, BF b6 91 (kG2 v1 v2) p2, BF b3 91 k_api_Held p2] [(0, ((ksl k_api_Held).V p1)), (5, (is (roomC b5 p1.length (p1.length + 2)))), (7, ((ksl k_api_Held).V x5.1)), (8, ((kint .i64).V x5.2)), (9, (is v9)), (14, ((kint .i64).V (q : Int)))] a w) ?_ k 0 _ _ g2 ⟨(p1 ++ (List.replicate (p1.length + 2) zH).drop p1.length), hX, q4.sub (.cons rfl (.cons rfl (.cons rfl (.cons rfl (.cons rfl (.cons rfl .nil))))))⟩; clear q4
      rintro n4 i4 _ _ g4 ⟨xs4, hxs4, r4⟩ M4 hM4
      replace g4 : upto p1.length (caballaw19_QueueKeeps.t2 k x5 x7) (n4 + 1) i4 = some r := g4; rw [upto] at g4
      refine wp_seq_k fun Ld4 hLd4 => wp_seq_k fun Lc4 hLc4 => wp_region_lit (qs r4 (.c1 rfl (mv rfl rfl) (.c1 rfl (mv rfl rfl) (.c1 rfl (ob_lenIs rfl Try.underlying85 (.tmp rfl) (by omega)) (.c1 rfl (ob_lss rfl (.tmp rfl) (.tmp rfl)) (.ce (u 0 rfl (u 5 rfl (u 7 rfl (u 8 rfl (u 9 rfl (u 14 rfl (u 111 rfl .nil)))))))))))) fun _ _ y4 => wn hLc4 ?_); clear r4
      refine cond_split y4 (.tmp rfl) (fun hd4 => ?_) (fun hd4 => ?_)
      ·have hq : i4 < p1.length := by have := of_decide_eq_true hd4; omega
       rw [if_pos hq] at g4
       refine wp_skip ?_
       refine then_normal (hLd4 _ _ ?_)
       have z0 := y4.sub (u 0 rfl (u 5 rfl (u 7 rfl (u 8 rfl (u 9 rfl (u 14 rfl .nil)))))); clear y4
       refine wp_seq_k fun Le hLe => wp_block ?_
       refine wp_region_lit (qs z0 (.c1 rfl (mv rfl rfl) (.c1 rfl (mv rfl rfl) (.c1 rfl (ob_mkStruct (K := k_api_Held) (X0 := zH) rfl Try.underlying91 zz91 rfl pl91 (Zr.iso (f := t_api_Held) (x := zH) (Zr.pair (Zr.arr 32 (Zr.int .u8)) (Zr.pair (Zr.iso (f := t_api_Op) (x := (⟨(0 : Int), (0 : Int), [], (0 : Int), [], (List.replicate 32 (0 : Int)), (List.replicate 32 (0 : Int)), [], []⟩ : api_Op)) (Zr.pair (Zr.int .i64) (Zr.pair (Zr.int .u32) (Zr.pair (Zr.sl _) (Zr.pair (Zr.int .i64) (Zr.pair (Zr.sl _) (Zr.pair (Zr.arr 32 (Zr.int .u8)) (Zr.pair (Zr.arr 32 (Zr.int .u8)) (Zr.pair Zr.str (Zr.pair (Zr.sl _) Zr.nil)))))))))) (Zr.pair (Zr.sl _) Zr.nil)))) (.nil _)) (.c1 rfl (ob_indexIs (k := k_api_Held) rfl Try.underlying85 sz91 (.tmp rfl) (.tmp rfl) (by omega)) .cz)))) fun _ _ z1 => ?_); clear z0
       have hst : set? xs4 (i4 : Int) zH = some (xs4.set i4 zH) := by unfold set?; rw [if_pos (by omega), Int.toNat_natCast]
       refine seq_opx0 (B' := (fun _ : Unit => [RowF v9 91 k_api_Held x7.1, RowF (roomV b5 (p1.length + 2)) 91 k_api_Held (xs4.set i4 zH), RowF v2 39 (karr 32 (kint .u8)) xs2, RowF v1 39 (karr 32 (kint .u8)) xs1, BF b6 91 (kG2 v1 v2) p2, BF b3 91 k_api_Held p2])) z1 rfl rfl (ob_storeRow (A := [_]) rfl tk91 (.tmp rfl) (.tmp rfl) rfl hst rfl) fun _ _ _ z2 => ?_; clear z1
       refine wpList_nil ?_
       refine in_normal ?_
       refine then_normal (hLe _ _ ?_)
       have z3 := z2.sub (u 0 rfl (u 5 rfl (u 7 rfl (u 8 rfl (u 9 rfl (u 14 rfl .nil)))))); clear z2
       have em2 : iadd .i64 (i4 : Int) 1 = ((i4 + 1 : Nat) : Int) := by unfold lim at ga1; rw [add64 (by omega)]; omega
       refine wp_region_lit (qs z3 (.c1 rfl (mv rfl rfl) (.c1 rfl ((ob_add rfl (.tmp rfl) (opd_int rfl)).nm em2) (.c1 rfl (ob_assign rfl (.tmp rfl)) .cz))) fun _ _ z4 => ?_); clear z3
       refine wpList_nil ?_
       refine then_normal ?_
       exact hM4 (i4 + 1) _ _ g4 ⟨_, by rw [List.length_set]; exact hxs4, z4.sub (.cons rfl (.cons rfl (.cons rfl (.cons rfl (.cons rfl (.cons rfl .nil))))))⟩
      ·have hq : ¬ i4 < p1.length := by have := of_decide_eq_false hd4; omega
       rw [if_neg hq] at g4
       refine wp_exit ?_
       refine (then_exit (then_exit (in_here ?_)))
       refine then_normal (hLa4 _ _ ?_)
       have o4 := y4.sub (u 7 rfl (u 8 rfl (u 9 rfl .nil))); clear y4
       unfold caballaw19_QueueKeeps.t2 at g4
       obtain ⟨x10, e_x10, g5⟩ := bind_some g4; clear g4
       obtain ⟨x11, e_x11, g6⟩ := bind_some g5; clear g5
       refine wp_seq_k fun Lg hLg => wp_region_lit (qs o4 (.c1 rfl (ob_callD0 (args := []) rfl .direct hb59 (fun a w s => by exact c_caballaw19_alive k _ e_x10 _ _)) (.c1 rfl (mv rfl rfl) (.cg rfl rfl rfl rfl (fun hb => ob_move rfl (.tmp rfl)) (.cg rfl rfl rfl rfl (fun hb => (Ob.uncond (t := 120) hb rfl (ob_neq rfl (.tmp rfl) (opd_int rfl)))) (.cg rfl rfl rfl rfl (fun hb => (Ob.uncond (t := 121) hb rfl (ob_move rfl (.tmp rfl)))) .cz))))) fun _ _ o5 => ?_); clear o4
       refine seq_opg2 o5 rfl rfl rfl rfl (of_decide_eq_true rfl) (fun hb => ob_move rfl (.tmp rfl)) fun _ _ o6 => ?_; clear o5
       refine seq_opg2 o6 rfl rfl rfl rfl (of_decide_eq_true rfl) (fun hb => ob_move rfl (.tmp rfl)) fun _ _ o7 => ?_; clear o6
       refine seq_opg2 o7 rfl rfl rfl rfl (of_decide_eq_true rfl) (fun hb => (Ob.uncond (t := 124) hb rfl ((Ob.uncond (t := 123) hb rfl ((ob_lendG (L := [_]) (List.Perm.refl _) (.cons (t := 124) rfl (lendRow (.head _)) .nil) (Flat.res1 (Flat.V KFlat.bool)) (fun _ => ob_callD0 (args := [_, _]) rfl .direct hb68 (fun a w s => by exact c_cabalref19_Same k _ _ _ (ite_t hb e_x11) _ _ _ _ (s.arg (.tmp rfl)) (s.arg (.tmp rfl)))))))))) fun _ _ o8 => ?_; clear o7
       refine qs o8 (.cg rfl rfl rfl rfl (fun hb => (Ob.uncond (t := 122) hb rfl (ob_or3 hb rfl (.tmp rfl) opd_bool (.tmp rfl)))) (.c1 rfl (ob_and2 rfl (.tmp rfl) (.tmp rfl) opd_bool) (.c1 rfl (ob_assign rfl (.tmp rfl)) (.ce (u 4 rfl .nil))))) fun _ _ t0 => wn hLg ?_; clear o8
       replace t0 := St.drop (A := []) t0
       replace t0 := St.drop (A := []) t0
       replace t0 := St.drop (A := []) t0
       replace t0 := St.drop (A := []) t0
       replace t0 := St.drop (A := []) t0
       replace t0 := St.drop (A := []) t0
       refine wp_ret ?_
       obtain rfl := Option.some.inj g6
       exact leave t0 (.inl rfl) rfl (.cons (.tmp rfl) .nil)
end Go.Proofs.Ytdlnfgpcnfbjiaa
