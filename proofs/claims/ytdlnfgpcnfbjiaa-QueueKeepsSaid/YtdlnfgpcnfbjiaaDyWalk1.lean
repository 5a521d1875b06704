/- Several parts of this proof in one file. No condition. -/
import Derived.Test.YtdlnfgpcnfbjiaaDPur
namespace Go.Proofs.Ytdlnfgpcnfbjiaa
open Go Go.RowKit Go.Proofs.Kit Go.Proofs.Pure
set_option linter.unusedVariables false
set_option linter.unusedSimpArgs false
set_option maxRecDepth 100000
set_option maxHeartbeats 2000000
theorem c_caballaw19_update (k : Nat) (p1 : (List Int)) (r : api_Op) (h0 : caballaw19_update k p1 = some r) (ok : Ok) (w0 : World) (z0 : Value) (u0 : ((karr 32 (kint .u8)).V p1).holds ok w0 z0) :
 Gives Try.prog 109 [z0] ok w0 (resFact [k_api_Op.V r]) := by
 unfold caballaw19_update at h0
 refine enter (N := 7) Try.func109 rfl rfl (of_decide_eq_true rfl) (.cons u0 .nil) fun a1 s1 => ?_
 refine wp_seq_k fun K1 hK1 => wp_region_lit ?_
 refine qx (B' := (fun b1 : Nat => [BF b1 39 (karr 32 (kint .u8)) p1])) s1 rfl (ob_box rfl (.tmp rfl)) fun b1 _ _ s2 => ?_; clear s1
 refine qx (B' := (fun b2 : Nat => [BF b2 44 k_api_Op (⟨(0 : Int), (0 : Int), [], (0 : Int), [], (List.replicate 32 (0 : Int)), (List.replicate 32 (0 : Int)), [], []⟩ : api_Op), BF b1 39 (karr 32 (kint .u8)) p1])) s2 rfl (ob_new (k := k_api_Op) rfl zz44 (Zr.iso (f := t_api_Op) (x := (⟨(0 : Int), (0 : Int), [], (0 : Int), [], (List.replicate 32 (0 : Int)), (List.replicate 32 (0 : Int)), [], []⟩ : api_Op)) (Zr.pair (Zr.int .i64) (Zr.pair (Zr.int .u32) (Zr.pair (Zr.sl _) (Zr.pair (Zr.int .i64) (Zr.pair (Zr.sl _) (Zr.pair (Zr.arr 32 (Zr.int .u8)) (Zr.pair (Zr.arr 32 (Zr.int .u8)) (Zr.pair Zr.str (Zr.pair (Zr.sl _) Zr.nil))))))))))) fun b2 _ _ s3 => ?_; clear s2
 refine wn hK1 ?_
 have s4 := s3.sub (u 1 rfl (u 2 rfl .nil)); clear s3
 obtain ⟨x1, e_x1, h1⟩ := bind_some h0; clear h0; replace e_x1 := Option.some.inj e_x1
 obtain ⟨x2, e_x2, h2⟩ := bind_some h1; clear h1; replace e_x2 := Option.some.inj e_x2
 refine wp_seq_k fun K2 hK2 => wp_region_lit (qs s4 (.c1 rfl (ob_load rfl tk39 (.tmp rfl) (.tail _ (.head _)) (LG.refl _ _)) (.c1 rfl (ob_mkSlice (k := (karr 32 (kint .u8))) (xs := ([p1] : (List (List Int)))) rfl Try.underlying40 zz39 sz39 (Zr.arr 32 (Zr.int .u8)) (by decide) (by decide) (.cons (.tmp rfl) rfl (LS.arr' (i := 0) (ys := ([p1] : (List (List Int)))) (by simp) (by rfl)) (.nil _))) (.c1 rfl (((ob_mkArr (k := (kint .u8)) rfl Try.underlying39 zz39 sz5 (Zr.arr 32 (Zr.int .u8)) (.cons (opd_int rfl) rfl (LS.arr' (i := 0) (ys := ([(1 : Int), 0, 0, 0, 0, 0, 0, 0, 0, 0, 0, 0, 0, 0, 0, 0, 0, 0, 0, 0, 0, 0, 0, 0, 0, 0, 0, 0, 0, 0, 0, 0] : (List Int))) (by simp) (by rfl)) (.nil _)) : Ob _ _ _ _ _ ((karr 32 (kint .u8)).V ([(1 : Int), 0, 0, 0, 0, 0, 0, 0, 0, 0, 0, 0, 0, 0, 0, 0, 0, 0, 0, 0, 0, 0, 0, 0, 0, 0, 0, 0, 0, 0, 0, 0] : (List Int))))).nm e_x1) (.c1 rfl ((ob_mkStruct (K := k_api_Op) (X0 := (⟨(0 : Int), (0 : Int), [], (0 : Int), [], (List.replicate 32 (0 : Int)), (List.replicate 32 (0 : Int)), [], []⟩ : api_Op)) rfl Try.underlying44 zz44 rfl pl44 (Zr.iso (f := t_api_Op) (x := (⟨(0 : Int), (0 : Int), [], (0 : Int), [], (List.replicate 32 (0 : Int)), (List.replicate 32 (0 : Int)), [], []⟩ : api_Op)) (Zr.pair (Zr.int .i64) (Zr.pair (Zr.int .u32) (Zr.pair (Zr.sl _) (Zr.pair (Zr.int .i64) (Zr.pair (Zr.sl _) (Zr.pair (Zr.arr 32 (Zr.int .u8)) (Zr.pair (Zr.arr 32 (Zr.int .u8)) (Zr.pair Zr.str (Zr.pair (Zr.sl _) Zr.nil)))))))))) (.cons (opd_int rfl) rfl (ls_api_Op_Author (⟨(0 : Int), (0 : Int), [], (0 : Int), [], (List.replicate 32 (0 : Int)), (List.replicate 32 (0 : Int)), [], []⟩ : api_Op) (1 : Int)) (.cons (opd_int rfl) rfl (ls_api_Op_Seq (⟨(1 : Int), (0 : Int), [], (0 : Int), [], (List.replicate 32 (0 : Int)), (List.replicate 32 (0 : Int)), [], []⟩ : api_Op) (1 : Int)) (.cons (opd_int rfl) rfl (ls_api_Op_Kind (⟨(1 : Int), (1 : Int), [], (0 : Int), [], (List.replicate 32 (0 : Int)), (List.replicate 32 (0 : Int)), [], []⟩ : api_Op) (4 : Int)) (.cons (.tmp rfl) rfl (ls_api_Op_Parents (⟨(1 : Int), (1 : Int), [], (4 : Int), [], (List.replicate 32 (0 : Int)), (List.replicate 32 (0 : Int)), [], []⟩ : api_Op) ([p1] : (List (List Int)))) (.cons (.tmp rfl) rfl (ls_api_Op_Check (⟨(1 : Int), (1 : Int), ([p1] : (List (List Int))), (4 : Int), [], (List.replicate 32 (0 : Int)), (List.replicate 32 (0 : Int)), [], []⟩ : api_Op) x1) (.nil _))))))).nm e_x2) .cz)))) fun _ _ s8 => ?_); clear s4
 refine seq_opx0 (B' := (fun _ : Unit => [BF b2 44 k_api_Op x2, BF b1 39 (karr 32 (kint .u8)) p1])) s8 rfl rfl (ob_store (A := []) rfl tk44 (.tmp rfl) (.tmp rfl) rfl (LS.refl _ _ _) rfl) fun _ a9 w9 s9 => ?_; clear s8
 refine wn hK2 ?_
 have s10 := s9.sub (u 2 rfl .nil); clear s9
 have s11 := St.drop (A := [_]) s10; clear s10
 refine wp_ret ?_
 obtain rfl := Option.some.inj h2
 exact leave s11 (.inl rfl) rfl (.cons (.cell rfl tk44 (.head _) (LG.refl _ _)) .nil)
theorem c_queue_Find_1 (k : Nat) (p1 : api_Held) (p2 : (List Int)) (r : Bool) (h0 : queue_Find_1 k p1 p2 = some r) (ok : Ok) (w0 : World) (z0 : Value) (z1 : Value) (u0 : (k_api_Held.V p1).holds ok w0 z0) (u1 : (ptrTo (karr 32 (kint .u8)) p2).holds ok w0 z1) :
 Gives Try.prog 119 [z0, z1] ok w0 (resFact [kbool.V r]) := by
 unfold queue_Find_1 at h0
 refine enter (N := 8) Try.func119 rfl rfl (of_decide_eq_true rfl) (.cons u0 (.cons u1 .nil)) fun a1 s1 => ?_
 refine wp_seq_k fun K1 hK1 => wp_region_lit ?_
 refine qx (B' := (fun b1 : Nat => [BF b1 91 k_api_Held p1])) s1 rfl (ob_box rfl (.tmp rfl)) fun b1 _ _ s2 => ?_; clear s1
 refine qs s2 (.c1 rfl (ob_assign rfl opd_bool) (.ce (u 1 rfl (u 2 rfl .nil)))) fun _ _ s4 => wn hK1 ?_; clear s2
 refine wp_seq_k fun K2 hK2 => wp_region_lit (qs s4 (.c1 rfl (ob_fieldAddr (off' := 0) rfl Try.underlying91 rfl sz39 (by decide) (.tmp rfl) rfl) (.c1 rfl (ob_load rfl tk39 (.tmp rfl) (.head _) (lg_api_Held_Id p1)) (.c1 rfl (ob_loadr rfl tk39 (.tmp rfl)) (.c1 rfl (ob_eqAgg rfl rfl (by kernel_rfl) eq39 (by decide) (.tmp rfl) (.tmp rfl)) (.c1 rfl (ob_assign rfl (.tmp rfl)) (.ce (u 3 rfl .nil))))))) fun _ _ s10 => wn hK2 ?_); clear s4
 have s11 := St.drop (A := []) s10; clear s10
 refine wp_ret ?_
 obtain rfl := Option.some.inj h0
 exact leave s11 (.inl rfl) rfl (.cons (.tmp rfl) .nil)
theorem c_slices_IndexFunc_api_Held_api_Held_queue_Find_1 (k : Nat) (p1 : (List api_Held)) (p2 : (List Int)) (r : Int) (h0 : slices_IndexFunc_api_Held_api_Held_queue_Find_1 k p1 p2 = some r) (ok : Ok) (w0 : World) (z0 : Value) (z1 : Value) (u0 : ((ksl k_api_Held).V p1).holds ok w0 z0) (u1 : (cloF 119 [] [(ptrTo (karr 32 (kint .u8)) p2)]).holds ok w0 z1) :
 Gives Try.prog 110 [z0, z1] ok w0 (resFact [(kint .i64).V r]) := by
 unfold slices_IndexFunc_api_Held_api_Held_queue_Find_1 at h0
 refine enter (N := 19) Try.func110 rfl rfl (of_decide_eq_true rfl) (.cons u0 (.cons u1 .nil)) fun a1 s1 => ?_
 refine wp_seq_k fun K1 hK1 => wp_region_lit (qs s1 (.c1 rfl (ob_assign rfl (opd_int rfl)) (.ce (u 0 rfl (u 1 rfl .nil)))) fun _ _ s3 => wn hK1 ?_); clear s1
 refine wp_seq_k fun K2 hK2 => wp_seq_k fun K3 hK3 => ?_
 refine wp_region_lit (qs s3 (.c1 rfl (mv rfl rfl) (.c1 rfl (ob_lens rfl Try.underlying85 (.tmp rfl)) (.c1 rfl (ob_move rfl (opd_int rfl)) (.ce (u 0 rfl (u 1 rfl (u 7 rfl (u 8 rfl .nil)))))))) fun _ _ s7 => wn hK3 ?_); clear s3
 have hj1 : ∀ (a : Act) (w : World), (slices_IndexFunc_api_Held_api_Held_queue_Find_1.j1 k) = some r → St ⟨19, w0, ok, []⟩ [] [] a w → K2 a w := by
  intro a8 w8 h1 s8
  unfold slices_IndexFunc_api_Held_api_Held_queue_Find_1.j1 at h1
  refine hK2 _ _ ?_
  refine wp_seq_k fun K4 hK4 => wp_region_lit (qs s8 (.c1 rfl (ob_assign rfl (opd_int rfl)) (.ce (u 4 rfl .nil))) fun _ _ s10 => wn hK4 ?_); clear s8
  refine wp_ret ?_
  obtain rfl := Option.some.inj h1
  exact leave s10 (.inl rfl) rfl (.cons (.tmp rfl) .nil)
 refine wp_block ?_
 refine wp_loop_fuel (fun m (q : Int) => slices_IndexFunc_api_Held_api_Held_queue_Find_1.l1 k p1 p2 m q) r (fun _ => rfl) (fun q a w => St ⟨19, w0, ok, []⟩ [] [(0, ((ksl k_api_Held).V p1)), (1, (cloF 119 [] [(ptrTo (karr 32 (kint .u8)) p2)])), (7, ((kint .i64).V (p1.length : Int))), (8, ((kint .i64).V q))] a w) ?_ k (0 : Int) _ _ h0 (s7.sub (.cons rfl (.cons rfl (.cons rfl (.cons rfl .nil)))))
 rintro n1 y1 a11 w11 h2 s11 K5 hK5
 replace h2 : slices_IndexFunc_api_Held_api_Held_queue_Find_1.l1 k p1 p2 (n1 + 1) y1 = some r := h2; rw [slices_IndexFunc_api_Held_api_Held_queue_Find_1.l1] at h2
 have h3 := h2; clear h2
 refine wp_seq_k fun K6 hK6 => wp_region_lit (qs s11 (.c1 rfl (ob_lss rfl (.tmp rfl) (.tmp rfl)) (.ce (u 0 rfl (u 1 rfl (u 7 rfl (u 8 rfl (u 9 rfl .nil))))))) fun _ _ s13 => wn hK6 ?_); clear s11
 refine wp_seq_k fun K7 hK7 => ?_
 refine cond_split s13 (.tmp rfl) (fun hc1 => ?_) (fun hc1 => ?_)
 ·have h4 := ite_t hc1 h3; clear h3
  refine wp_skip ?_
  refine then_normal (hK7 _ _ ?_)
  have s14 := s13.sub (u 0 rfl (u 1 rfl (u 7 rfl (u 8 rfl .nil)))); clear s13
  refine wp_seq_k fun K8 hK8 => wp_block ?_
  refine wp_seq_k fun K9 hK9 => wp_region_lit (qs s14 (.c1 rfl (mv rfl rfl) (.c1 rfl (ob_assign rfl (.tmp rfl)) (.ce (u 0 rfl (u 1 rfl (u 5 rfl (u 7 rfl (u 8 rfl .nil)))))))) fun _ _ s17 => wn hK9 ?_); clear s14
  obtain ⟨x1, e_x1, h5⟩ := bind_some h4; clear h4
  obtain ⟨x2, e_x2, h6⟩ := bind_some h5; clear h5
  refine wp_seq_k fun K10 hK10 => wp_region_lit (qs s17 (.c1 rfl (mv rfl rfl) (.c1 rfl (mv rfl rfl) (.c1 rfl (mv rfl rfl) (.c1 rfl (ob_indexAddrs rfl Try.underlying85 sz91 (.tmp rfl) (.tmp rfl) e_x1) (.c1 rfl (ob_loadr rfl tk91 (.tmp rfl)) (.c1 rfl (ob_callD (args := [_]) rfl (.clo (.tmp rfl)) hb119 (fun a w s fs gs hf hg => by obtain rfl := hf.unnil; obtain ⟨u0, _, rfl, fu0, hg⟩ := hg.uncons; obtain rfl := hg.unnil; exact c_queue_Find_1 k _ _ _ e_x2 _ _ _ _ (s.arg (.tmp rfl)) fu0)) (.ce (u 0 rfl (u 1 rfl (u 5 rfl (u 7 rfl (u 8 rfl (u 16 rfl .nil))))))))))))) fun _ _ s24 => wn hK10 ?_); clear s17
  refine cond_split s24 (.tmp rfl) (fun hc2 => ?_) (fun hc2 => ?_)
  ·have h7 := ite_t hc2 h6; clear h6
   refine wp_seq_k fun K11 hK11 => wp_region_lit (qs s24 (.c1 rfl (mv rfl rfl) (.c1 rfl (ob_assign rfl (.tmp rfl)) (.ce (u 4 rfl .nil)))) fun _ _ s27 => wn hK11 ?_); clear s24
   refine wp_ret ?_
   obtain rfl := Option.some.inj h7
   exact leave s27 (.inl rfl) rfl (.cons (.tmp rfl) .nil)
  ·have h8 := ite_f hc2 h6; clear h6
   refine wp_skip ?_
   refine in_normal ?_
   refine then_normal (hK8 _ _ ?_)
   have s28 := s24.sub (u 0 rfl (u 1 rfl (u 7 rfl (u 8 rfl .nil)))); clear s24
   refine wp_region_lit (qs s28 (.c1 rfl (ob_add rfl (.tmp rfl) (opd_int rfl)) (.c1 rfl (mv rfl rfl) .cz)) fun _ _ s30 => ?_); clear s28
   refine wpList_nil ?_
   refine then_normal ?_
   exact hK5 (iadd .i64 y1 (1 : Int)) _ _ h8 (s30.sub (.cons rfl (.cons rfl (.cons rfl (.cons rfl .nil)))))
 ·have h9 := ite_f hc1 h3; clear h3
  refine wp_exit ?_
  refine (then_exit (then_exit (in_here ?_)))
  refine then_normal ?_
  exact hj1 _ _ h9 (s13.sub .nil)
theorem c_queue_Find (k : Nat) (p1 : (List api_Held)) (p2 : (List Int)) (r : Int) (h0 : queue_Find k p1 p2 = some r) (ok : Ok) (w0 : World) (z0 : Value) (z1 : Value) (u0 : ((ksl k_api_Held).V p1).holds ok w0 z0) (u1 : ((karr 32 (kint .u8)).V p2).holds ok w0 z1) :
 Gives Try.prog 72 [z0, z1] ok w0 (resFact [(kint .i64).V r]) := by
 unfold queue_Find at h0
 refine enter (N := 8) Try.func72 rfl rfl (of_decide_eq_true rfl) (.cons u0 (.cons u1 .nil)) fun a1 s1 => ?_
 refine wp_seq_k fun K1 hK1 => wp_region_lit ?_
 refine qx (B' := (fun b1 : Nat => [BF b1 39 (karr 32 (kint .u8)) p2])) s1 rfl (ob_box rfl (.tmp rfl)) fun b1 _ _ s2 => ?_; clear s1
 refine qs s2 (.c1 rfl (ob_assign rfl (opd_int rfl)) (.ce (u 0 rfl (u 3 rfl .nil)))) fun _ _ s4 => wn hK1 ?_; clear s2
 obtain ⟨x1, e_x1, h1⟩ := bind_some h0; clear h0
 refine wp_seq_k fun K2 hK2 => wp_region_lit (qs s4 (.c1 rfl (mv rfl rfl) (.c1 rfl (ob_makeFn (xs := []) (ys := [_]) rfl .nil (.cons (.tmp rfl) .nil)) (.c1 rfl ((ob_lendG (L := [_]) (List.Perm.refl _) (.cons (t := 6) rfl (lendClo .nil (.cons (lendPtrB (.head _) (LG.refl _ _)) .nil)) .nil) (Flat.res1 (Flat.V (KFlat.int _))) (fun _ => ob_callD0 (args := [_, _]) rfl .direct hb110 (fun a w s => by exact c_slices_IndexFunc_api_Held_api_Held_queue_Find_1 k _ _ _ e_x1 _ _ _ _ (s.arg (.tmp rfl)) (s.arg (.tmp rfl)))))) (.c1 rfl (ob_assign rfl (.tmp rfl)) (.ce (u 4 rfl .nil)))))) fun _ _ s9 => wn hK2 ?_); clear s4
 have s10 := St.drop (A := []) s9; clear s9
 refine wp_ret ?_
 obtain rfl := Option.some.inj h1
 exact leave s10 (.inl rfl) rfl (.cons (.tmp rfl) .nil)
theorem c_frame_member (k : Nat) (p1 : Int) (r : Bool) (h0 : frame_member k p1 = some r) (ok : Ok) (w0 : World) (z0 : Value) (u0 : ((kint .i64).V p1).holds ok w0 z0) :
 Gives Try.prog 136 [z0] ok w0 (resFact [kbool.V r]) := by
 unfold frame_member at h0
 refine enter (N := 9) Try.func136 rfl rfl (of_decide_eq_true rfl) (.cons u0 .nil) fun a1 s1 => ?_
 refine wp_seq_k fun K1 hK1 => wp_region_lit (qs s1 (.c1 rfl (ob_assign rfl opd_bool) (.ce (u 0 rfl .nil))) fun _ _ s3 => wn hK1 ?_); clear s1
 obtain ⟨x1, e_x1, h1⟩ := bind_some h0; clear h0; replace e_x1 := Option.some.inj e_x1
 refine wp_seq_k fun K2 hK2 => wp_region_lit (qs s3 (.c1 rfl (mv rfl rfl) (.c1 rfl (ob_geq rfl (.tmp rfl) (opd_int rfl)) (.c1 rfl (mv rfl rfl) (.cg rfl rfl rfl rfl (fun hb => ob_move rfl (.tmp rfl)) (.cg rfl rfl rfl rfl (fun hb => (Ob.uncond (t := 6) hb rfl (ob_lss rfl (.tmp rfl) (opd_int rfl)))) (.c1 rfl ((ob_and2 rfl (.tmp rfl) (.tmp rfl) opd_bool).nm e_x1) (.c1 rfl (ob_assign rfl (.tmp rfl)) (.ce (u 2 rfl .nil))))))))) fun _ _ s11 => wn hK2 ?_); clear s3
 refine wp_ret ?_
 obtain rfl := Option.some.inj h1
 exact leave s11 (.inl rfl) rfl (.cons (.tmp rfl) .nil)
theorem c_bytes_Compare (k : Nat) (p1 : (List Int)) (p2 : (List Int)) (r : Int) (h0 : bytes_Compare k p1 p2 = some r) (ok : Ok) (w0 : World) (z0 : Value) (z1 : Value) (u0 : ((ksl (kint .u8)).V p1).holds ok w0 z0) (u1 : ((ksl (kint .u8)).V p2).holds ok w0 z1) :
 Gives Try.prog 102 [z0, z1] ok w0 (resFact [(kint .i64).V r]) := by
 unfold bytes_Compare at h0
 refine enter (N := 8) Try.func102 rfl rfl (of_decide_eq_true rfl) (.cons u0 (.cons u1 .nil)) fun a1 s1 => ?_
 refine wp_seq_k fun K1 hK1 => wp_region_lit (qs s1 (.c1 rfl (ob_assign rfl (opd_int rfl)) (.ce (u 0 rfl (u 1 rfl .nil)))) fun _ _ s3 => wn hK1 ?_); clear s1
 refine wp_seq_k fun K2 hK2 => wp_region_lit (qs s3 (.c1 rfl (mv rfl rfl) (.c1 rfl (mv rfl rfl) (.c1 rfl (ob_compare rfl xc147 (.tmp rfl) (.tmp rfl)) (.c1 rfl (ob_assign rfl (.tmp rfl)) (.ce (u 4 rfl .nil)))))) fun _ _ s8 => wn hK2 ?_); clear s3
 refine wp_ret ?_
 obtain rfl := Option.some.inj h0
 exact leave s8 (.inl rfl) rfl (.cons (.tmp rfl) .nil)
theorem c_frame_byKey (k : Nat) (p1 : (List Int)) (p2 : (List Int)) (r : Int) (h0 : frame_byKey k p1 p2 = some r) (ok : Ok) (w0 : World) (z0 : Value) (z1 : Value) (u0 : ((karr 32 (kint .u8)).V p1).holds ok w0 z0) (u1 : ((karr 32 (kint .u8)).V p2).holds ok w0 z1) :
 Gives Try.prog 137 [z0, z1] ok w0 (resFact [(kint .i64).V r]) := by
 unfold frame_byKey at h0
 refine enter (N := 8) Try.func137 rfl rfl (of_decide_eq_true rfl) (.cons u0 (.cons u1 .nil)) fun a1 s1 => ?_
 refine wp_seq_k fun K1 hK1 => wp_region_lit ?_
 refine qx (B' := (fun b1 : Nat => [BF b1 39 (karr 32 (kint .u8)) p1])) s1 rfl (ob_box rfl (.tmp rfl)) fun b1 _ _ s2 => ?_; clear s1
 refine qx (B' := (fun b2 : Nat => [BF b2 39 (karr 32 (kint .u8)) p2, BF b1 39 (karr 32 (kint .u8)) p1])) s2 rfl (ob_box rfl (.tmp rfl)) fun b2 _ _ s3 => ?_; clear s2
 refine qs s3 (.c1 rfl (ob_assign rfl (opd_int rfl)) (.ce (u 2 rfl (u 3 rfl .nil)))) fun _ _ s5 => wn hK1 ?_; clear s3
 refine wp_seq_k fun K2 hK2 => ?_
 refine wp_goes (Fs := [(is (.slice (some ⟨b1, soff 32 0 (0 : Int).toNat 1, none⟩) ((32 : Int).toNat - (0 : Int).toNat) (32 - (0 : Int).toNat))), (is (.slice (some ⟨b2, soff 32 0 (0 : Int).toNat 1, none⟩) ((32 : Int).toNat - (0 : Int).toNat) (32 - (0 : Int).toNat)))]) (bits := [0, 0, 3, 7]) (m := 2) (todo := 0) mx s5 ?_; clear s5
 refine goes_last (by kernel_rfl) rfl (oc (av 2 rfl rfl Av.nil) rfl rfl (ob_sliceArr rfl Try.underlying39 sz5 (.tmp rfl) .none .none (show (0 : Int) ≤ (0 : Int) ∧ (0 : Int) ≤ (32 : Int) ∧ (32 : Int) ≤ ((32 : Nat) : Int) by decide)) (oc (av 3 rfl rfl Av.nil) rfl rfl (ob_sliceArr rfl Try.underlying39 sz5 (.tmp rfl) .none .none (show (0 : Int) ≤ (0 : Int) ∧ (0 : Int) ≤ (32 : Int) ∧ (32 : Int) ≤ ((32 : Nat) : Int) by decide)) opsS_nil)) (out_new (i := 0) (by decide) rfl rfl (out_new (i := 1) (by decide) rfl rfl out_nil)) fun _ _ s6 => ?_
 obtain ⟨x1, e_x1, h1⟩ := bind_some h0; clear h0
 obtain ⟨x2, e_x2, h2⟩ := bind_some h1; clear h1
 obtain ⟨x3, e_x3, h3⟩ := bind_some h2; clear h2
 refine qs s6 (.c1 rfl ((ob_lendG (L := [_, _]) (toFront [_] (toFront [] (List.Perm.refl _))) (.cons (t := 5) rfl (lendSlB (.head _) (LG.refl _ _) e_x1 rfl (cut_len e_x1) (cut_cap e_x1 (show (0 : Int) ≤ (0 : Int) ∧ (0 : Int) ≤ (32 : Int) ∧ (32 : Int) ≤ ((32 : Nat) : Int) by decide) (by decide))) (.cons (t := 6) rfl (lendSlB (.tail _ (.head _)) (LG.refl _ _) e_x2 rfl (cut_len e_x2) (cut_cap e_x2 (show (0 : Int) ≤ (0 : Int) ∧ (0 : Int) ≤ (32 : Int) ∧ (32 : Int) ≤ ((32 : Nat) : Int) by decide) (by decide))) .nil)) (Flat.res1 (Flat.V (KFlat.int _))) (fun _ => ob_callD0 (args := [_, _]) rfl .direct hb102 (fun a w s => by exact c_bytes_Compare k _ _ _ e_x3 _ _ _ _ (s.arg (.tmp rfl)) (s.arg (.tmp rfl)))))) (.c1 rfl (ob_assign rfl (.tmp rfl)) (.ce (u 4 rfl .nil)))) fun _ _ s9 => wn hK2 ?_; clear s6
 have s10 := St.drop (A := []) s9; clear s9
 have s11 := St.drop (A := []) s10; clear s10
 refine wp_ret ?_
 obtain rfl := Option.some.inj h3
 exact leave s11 (.inl rfl) rfl (.cons (.tmp rfl) .nil)
theorem c_frame_row_api_Key_rising (k : Nat) (p1 : api_Key_) (r : Bool) (h0 : frame_row_api_Key_rising k p1 = some r) (ok : Ok) (w0 : World) (z0 : Value) (u0 : (k_api_Key_.V p1).holds ok w0 z0) :
 Gives Try.prog 138 [z0] ok w0 (resFact [kbool.V r]) := by
 unfold frame_row_api_Key_rising at h0
 refine enter (N := 26) Try.func138 rfl rfl (of_decide_eq_true rfl) (.cons u0 .nil) fun a1 s1 => ?_
 refine wp_seq_k fun K1 hK1 => wp_region_lit ?_
 refine qx (B' := (fun b1 : Nat => [BF b1 156 k_api_Key_ p1])) s1 rfl (ob_box rfl (.tmp rfl)) fun b1 _ _ s2 => ?_; clear s1
 refine qs s2 (.c1 rfl (ob_assign rfl opd_bool) (.ce (u 1 rfl .nil))) fun _ _ s4 => wn hK1 ?_; clear s2
 refine wp_seq_k fun K2 hK2 => wp_seq_k fun K3 hK3 => ?_
 refine wp_region_lit (qs s4 (.c1 rfl (ob_assign rfl (opd_int rfl)) (.ce (u 1 rfl (u 3 rfl .nil)))) fun _ _ s6 => wn hK3 ?_); clear s4
 have hj1 : ∀ (a : Act) (w : World), (frame_row_api_Key_rising.j1 k) = some r → St ⟨26, w0, ok, []⟩ [] [] a w → K2 a w := by
  intro a7 w7 h1 s7
  unfold frame_row_api_Key_rising.j1 at h1
  refine hK2 _ _ ?_
  refine wp_seq_k fun K4 hK4 => wp_region_lit (qs s7 (.c1 rfl (ob_assign rfl opd_bool) (.ce (u 2 rfl .nil))) fun _ _ s9 => wn hK4 ?_); clear s7
  refine wp_ret ?_
  obtain rfl := Option.some.inj h1
  exact leave s9 (.inl rfl) rfl (.cons (.tmp rfl) .nil)
 refine wp_block ?_
 refine wp_loop_fuel (fun m (q : Int) => frame_row_api_Key_rising.l1 k p1 m q) r (fun _ => rfl) (fun q a w => St ⟨26, w0, ok, []⟩ [BF b1 156 k_api_Key_ p1] [(1, (ptrB b1 0)), (3, ((kint .i64).V q))] a w) ?_ k (1 : Int) _ _ h0 (s6.sub (.cons rfl (.cons rfl .nil)))
 rintro n1 y1 a10 w10 h2 s10 K5 hK5
 replace h2 : frame_row_api_Key_rising.l1 k p1 (n1 + 1) y1 = some r := h2; rw [frame_row_api_Key_rising.l1] at h2
 have h3 := h2; clear h2
 refine wp_seq_k fun K6 hK6 => wp_seq_k fun K7 hK7 => ?_
 refine wp_region_lit (qs s10 (.c1 rfl (mv rfl rfl) (.c1 rfl (ob_fieldAddr (off' := 0) rfl Try.underlying156 rfl sz40 (by decide) (.tmp rfl) rfl) (.c1 rfl (ob_load rfl tk40 (.tmp rfl) (.head _) (lg_api_Key__l p1)) (.c1 rfl (ob_lens rfl Try.underlying40 (.tmp rfl)) (.c1 rfl (ob_lss rfl (.tmp rfl) (.tmp rfl)) (.ce (u 1 rfl (u 3 rfl (u 8 rfl .nil))))))))) fun _ _ s16 => wn hK7 ?_); clear s10
 refine cond_split s16 (.tmp rfl) (fun hc1 => ?_) (fun hc1 => ?_)
 ·have h4 := ite_t hc1 h3; clear h3
  refine wp_skip ?_
  refine then_normal (hK6 _ _ ?_)
  have s17 := s16.sub (u 1 rfl (u 3 rfl .nil)); clear s16
  refine wp_seq_k fun K8 hK8 => wp_block ?_
  refine wp_seq_k fun K9 hK9 => ?_
  obtain ⟨x1, e_x1, h5⟩ := bind_some h4; clear h4
  obtain ⟨x2, e_x2, h6⟩ := bind_some h5; clear h5
  refine wp_goes (Fs := [(ptrB b1 1), (is (.func (.func 137) #[] #[])), (ptrB b1 0), ((ksl (karr 32 (kint .u8))).V p1.l), ((kint .i64).V y1), ((kint .i64).V (isub .i64 y1 (1 : Int))), (ptrTo (karr 32 (kint .u8)) x1), ((karr 32 (kint .u8)).V x1), (ptrB b1 0), ((ksl (karr 32 (kint .u8))).V p1.l), ((kint .i64).V y1), (ptrTo (karr 32 (kint .u8)) x2), ((karr 32 (kint .u8)).V x2)]) (bits := [0, 1, 0, 4, 0, 16, 60, 124, 0, 256, 0, 1792, 3840, 8191, 16383]) (m := 13) (todo := 0) mx s17 ?_; clear s17
  refine goes_last (by kernel_rfl) rfl (oc (av 1 rfl rfl Av.nil) rfl rfl (ob_fieldAddr (off' := 1) rfl Try.underlying156 rfl sz125 (by decide) (.tmp rfl) rfl) (oc (an 0 rfl rfl rfl Av.nil) rfl rfl ((ob_load rfl tk125 (.tmp rfl) (.head _) (lg_api_Key__order p1)).as kis_is) (oc (av 1 rfl rfl Av.nil) rfl rfl (ob_fieldAddr (off' := 0) rfl Try.underlying156 rfl sz40 (by decide) (.tmp rfl) rfl) (oc (an 2 rfl rfl rfl Av.nil) rfl rfl (ob_load rfl tk40 (.tmp rfl) (.head _) (lg_api_Key__l p1)) (oc (av 3 rfl rfl Av.nil) rfl rfl (mv rfl rfl) (oc (an 4 rfl rfl rfl Av.nil) rfl rfl (ob_sub rfl (.tmp rfl) (opd_int rfl)) (oc (an 3 rfl rfl rfl (an 5 rfl rfl rfl Av.nil)) rfl rfl (ob_indexAddrs rfl Try.underlying40 sz39 (.tmp rfl) (.tmp rfl) e_x1) (oc (an 6 rfl rfl rfl Av.nil) rfl rfl (ob_loadr rfl tk39 (.tmp rfl)) (oc (av 1 rfl rfl Av.nil) rfl rfl (ob_fieldAddr (off' := 0) rfl Try.underlying156 rfl sz40 (by decide) (.tmp rfl) rfl) (oc (an 8 rfl rfl rfl Av.nil) rfl rfl (ob_load rfl tk40 (.tmp rfl) (.head _) (lg_api_Key__l p1)) (oc (av 3 rfl rfl Av.nil) rfl rfl (mv rfl rfl) (oc (an 9 rfl rfl rfl (an 10 rfl rfl rfl Av.nil)) rfl rfl (ob_indexAddrs rfl Try.underlying40 sz39 (.tmp rfl) (.tmp rfl) e_x2) (oc (an 11 rfl rfl rfl Av.nil) rfl rfl (ob_loadr rfl tk39 (.tmp rfl)) opsS_nil))))))))))))) (out_old (t := 1) rfl rfl (out_old (t := 3) rfl rfl (out_new (i := 1) (by decide) rfl rfl (out_new (i := 7) (by decide) rfl rfl (out_new (i := 12) (by decide) rfl rfl out_nil))))) fun _ _ s18 => ?_
  obtain ⟨x3, e_x3, h7⟩ := bind_some h6; clear h6
  refine qs s18 (.c1 rfl (ob_callD0 (args := [_, _]) rfl (.fn (.tmp rfl)) hb137 (fun a w s => by exact c_frame_byKey k _ _ _ e_x3 _ _ _ _ (s.arg (.tmp rfl)) (s.arg (.tmp rfl)))) (.c1 rfl (ob_geq rfl (.tmp rfl) (opd_int rfl)) (.ce (u 1 rfl (u 3 rfl (u 25 rfl .nil)))))) fun _ _ s21 => wn hK9 ?_; clear s18
  refine cond_split s21 (.tmp rfl) (fun hc2 => ?_) (fun hc2 => ?_)
  ·have h8 := ite_t hc2 h7; clear h7
   refine wp_seq_k fun K10 hK10 => wp_region_lit (qs s21 (.c1 rfl (ob_assign rfl opd_bool) (.ce (u 2 rfl .nil))) fun _ _ s23 => wn hK10 ?_); clear s21
   have s24 := St.drop (A := []) s23; clear s23
   refine wp_ret ?_
   obtain rfl := Option.some.inj h8
   exact leave s24 (.inl rfl) rfl (.cons (.tmp rfl) .nil)
  ·have h9 := ite_f hc2 h7; clear h7
   refine wp_skip ?_
   refine in_normal ?_
   refine then_normal (hK8 _ _ ?_)
   have s25 := s21.sub (u 1 rfl (u 3 rfl .nil)); clear s21
   refine wp_region_lit (qs s25 (.c1 rfl (mv rfl rfl) (.c1 rfl (ob_add rfl (.tmp rfl) (opd_int rfl)) (.c1 rfl (ob_assign rfl (.tmp rfl)) .cz))) fun _ _ s28 => ?_); clear s25
   refine wpList_nil ?_
   refine then_normal ?_
   exact hK5 (iadd .i64 y1 (1 : Int)) _ _ h9 (s28.sub (.cons rfl (.cons rfl .nil)))
 ·have h10 := ite_f hc1 h3; clear h3
  refine wp_exit ?_
  refine (then_exit (then_exit (in_here ?_)))
  refine then_normal ?_
  have s29 := St.drop (A := []) s16; clear s16
  exact hj1 _ _ h10 (s29.sub .nil)
theorem c_frame_byNumber (k : Nat) (p1 : Int) (p2 : Int) (r : Int) (h0 : frame_byNumber k p1 p2 = some r) (ok : Ok) (w0 : World) (z0 : Value) (z1 : Value) (u0 : ((kint .i64).V p1).holds ok w0 z0) (u1 : ((kint .i64).V p2).holds ok w0 z1) :
 Gives Try.prog 155 [z0, z1] ok w0 (resFact [(kint .i64).V r]) := by
 unfold frame_byNumber at h0
 refine enter (N := 13) Try.func155 rfl rfl (of_decide_eq_true rfl) (.cons u0 (.cons u1 .nil)) fun a1 s1 => ?_
 refine wp_seq_k fun K1 hK1 => wp_region_lit (qs s1 (.c1 rfl (ob_assign rfl (opd_int rfl)) (.ce (u 0 rfl (u 1 rfl .nil)))) fun _ _ s3 => wn hK1 ?_); clear s1
 refine wp_seq_k fun K2 hK2 => wp_block ?_
 refine wp_seq_k fun K3 hK3 => wp_region_lit (qs s3 (.c1 rfl (mv rfl rfl) (.c1 rfl (mv rfl rfl) (.c1 rfl (ob_lss rfl (.tmp rfl) (.tmp rfl)) (.c1 rfl (ob_assign rfl (.tmp rfl)) (.ce (u 0 rfl (u 1 rfl (u 5 rfl .nil)))))))) fun _ _ s8 => wn hK3 ?_); clear s3
 refine cond_split s8 (.tmp rfl) (fun hc1 => ?_) (fun hc1 => ?_)
 ·have h1 := ite_t hc1 h0; clear h0
  refine wp_seq_k fun K4 hK4 => wp_region_lit (qs s8 (.c1 rfl (ob_assign rfl (opd_int rfl)) (.ce (u 4 rfl .nil))) fun _ _ s10 => wn hK4 ?_); clear s8
  refine wp_ret ?_
  obtain rfl := Option.some.inj h1
  exact leave s10 (.inl rfl) rfl (.cons (.tmp rfl) .nil)
 ·have h2 := ite_f hc1 h0; clear h0
  refine wp_seq_k fun K5 hK5 => wp_region_lit (qs s8 (.c1 rfl (mv rfl rfl) (.c1 rfl (mv rfl rfl) (.c1 rfl (ob_gtr rfl (.tmp rfl) (.tmp rfl)) (.c1 rfl (ob_assign rfl (.tmp rfl)) (.ce (u 9 rfl .nil)))))) fun _ _ s15 => wn hK5 ?_); clear s8
  refine cond_split s15 (.tmp rfl) (fun hc2 => ?_) (fun hc2 => ?_)
  ·have h3 := ite_t hc2 h2; clear h2
   refine wp_seq_k fun K6 hK6 => wp_region_lit (qs s15 (.c1 rfl (ob_assign rfl (opd_int rfl)) (.ce (u 4 rfl .nil))) fun _ _ s17 => wn hK6 ?_); clear s15
   refine wp_ret ?_
   obtain rfl := Option.some.inj h3
   exact leave s17 (.inl rfl) rfl (.cons (.tmp rfl) .nil)
  ·have h4 := ite_f hc2 h2; clear h2
   refine wp_skip ?_
   refine in_normal ?_
   refine then_normal (hK2 _ _ ?_)
   have s18 := s15.sub .nil; clear s15
   refine wp_seq_k fun K7 hK7 => wp_region_lit (qs s18 (.c1 rfl (ob_assign rfl (opd_int rfl)) (.ce (u 4 rfl .nil))) fun _ _ s20 => wn hK7 ?_); clear s18
   refine wp_ret ?_
   obtain rfl := Option.some.inj h4
   exact leave s20 (.inl rfl) rfl (.cons (.tmp rfl) .nil)
theorem c_frame_row_int_rising (k : Nat) (p1 : frame_row_int_) (r : Bool) (h0 : frame_row_int_rising k p1 = some r) (ok : Ok) (w0 : World) (z0 : Value) (u0 : (k_frame_row_int_.V p1).holds ok w0 z0) :
 Gives Try.prog 156 [z0] ok w0 (resFact [kbool.V r]) := by
 unfold frame_row_int_rising at h0
 refine enter (N := 26) Try.func156 rfl rfl (of_decide_eq_true rfl) (.cons u0 .nil) fun a1 s1 => ?_
 refine wp_seq_k fun K1 hK1 => wp_region_lit ?_
 refine qx (B' := (fun b1 : Nat => [BF b1 170 k_frame_row_int_ p1])) s1 rfl (ob_box rfl (.tmp rfl)) fun b1 _ _ s2 => ?_; clear s1
 refine qs s2 (.c1 rfl (ob_assign rfl opd_bool) (.ce (u 1 rfl .nil))) fun _ _ s4 => wn hK1 ?_; clear s2
 refine wp_seq_k fun K2 hK2 => wp_seq_k fun K3 hK3 => ?_
 refine wp_region_lit (qs s4 (.c1 rfl (ob_assign rfl (opd_int rfl)) (.ce (u 1 rfl (u 3 rfl .nil)))) fun _ _ s6 => wn hK3 ?_); clear s4
 have hj1 : ∀ (a : Act) (w : World), (frame_row_int_rising.j1 k) = some r → St ⟨26, w0, ok, []⟩ [] [] a w → K2 a w := by
  intro a7 w7 h1 s7
  unfold frame_row_int_rising.j1 at h1
  refine hK2 _ _ ?_
  refine wp_seq_k fun K4 hK4 => wp_region_lit (qs s7 (.c1 rfl (ob_assign rfl opd_bool) (.ce (u 2 rfl .nil))) fun _ _ s9 => wn hK4 ?_); clear s7
  refine wp_ret ?_
  obtain rfl := Option.some.inj h1
  exact leave s9 (.inl rfl) rfl (.cons (.tmp rfl) .nil)
 refine wp_block ?_
 refine wp_loop_fuel (fun m (q : Int) => frame_row_int_rising.l1 k p1 m q) r (fun _ => rfl) (fun q a w => St ⟨26, w0, ok, []⟩ [BF b1 170 k_frame_row_int_ p1] [(1, (ptrB b1 0)), (3, ((kint .i64).V q))] a w) ?_ k (1 : Int) _ _ h0 (s6.sub (.cons rfl (.cons rfl .nil)))
 rintro n1 y1 a10 w10 h2 s10 K5 hK5
 replace h2 : frame_row_int_rising.l1 k p1 (n1 + 1) y1 = some r := h2; rw [frame_row_int_rising.l1] at h2
 have h3 := h2; clear h2
 refine wp_seq_k fun K6 hK6 => wp_seq_k fun K7 hK7 => ?_
 refine wp_region_lit (qs s10 (.c1 rfl (mv rfl rfl) (.c1 rfl (ob_fieldAddr (off' := 0) rfl Try.underlying170 rfl sz41 (by decide) (.tmp rfl) rfl) (.c1 rfl (ob_load rfl tk41 (.tmp rfl) (.head _) (lg_frame_row_int__l p1)) (.c1 rfl (ob_lens rfl Try.underlying41 (.tmp rfl)) (.c1 rfl (ob_lss rfl (.tmp rfl) (.tmp rfl)) (.ce (u 1 rfl (u 3 rfl (u 8 rfl .nil))))))))) fun _ _ s16 => wn hK7 ?_); clear s10
 refine cond_split s16 (.tmp rfl) (fun hc1 => ?_) (fun hc1 => ?_)
 ·have h4 := ite_t hc1 h3; clear h3
  refine wp_skip ?_
  refine then_normal (hK6 _ _ ?_)
  have s17 := s16.sub (u 1 rfl (u 3 rfl .nil)); clear s16
  refine wp_seq_k fun K8 hK8 => wp_block ?_
  refine wp_seq_k fun K9 hK9 => ?_
  obtain ⟨x1, e_x1, h5⟩ := bind_some h4; clear h4
  obtain ⟨x2, e_x2, h6⟩ := bind_some h5; clear h5
  refine wp_goes (Fs := [(ptrB b1 1), (is (.func (.func 155) #[] #[])), (ptrB b1 0), ((ksl (kint .i64)).V p1.l), ((kint .i64).V y1), ((kint .i64).V (isub .i64 y1 (1 : Int))), (ptrTo (kint .i64) x1), ((kint .i64).V x1), (ptrB b1 0), ((ksl (kint .i64)).V p1.l), ((kint .i64).V y1), (ptrTo (kint .i64) x2), ((kint .i64).V x2)]) (bits := [0, 1, 0, 4, 0, 16, 60, 124, 0, 256, 0, 1792, 3840, 8191, 16383]) (m := 13) (todo := 0) mx s17 ?_; clear s17
  refine goes_last (by kernel_rfl) rfl (oc (av 1 rfl rfl Av.nil) rfl rfl (ob_fieldAddr (off' := 1) rfl Try.underlying170 rfl sz168 (by decide) (.tmp rfl) rfl) (oc (an 0 rfl rfl rfl Av.nil) rfl rfl ((ob_load rfl tk168 (.tmp rfl) (.head _) (lg_frame_row_int__order p1)).as kis_is) (oc (av 1 rfl rfl Av.nil) rfl rfl (ob_fieldAddr (off' := 0) rfl Try.underlying170 rfl sz41 (by decide) (.tmp rfl) rfl) (oc (an 2 rfl rfl rfl Av.nil) rfl rfl (ob_load rfl tk41 (.tmp rfl) (.head _) (lg_frame_row_int__l p1)) (oc (av 3 rfl rfl Av.nil) rfl rfl (mv rfl rfl) (oc (an 4 rfl rfl rfl Av.nil) rfl rfl (ob_sub rfl (.tmp rfl) (opd_int rfl)) (oc (an 3 rfl rfl rfl (an 5 rfl rfl rfl Av.nil)) rfl rfl (ob_indexAddrs rfl Try.underlying41 sz3 (.tmp rfl) (.tmp rfl) e_x1) (oc (an 6 rfl rfl rfl Av.nil) rfl rfl (ob_loadr rfl tk3 (.tmp rfl)) (oc (av 1 rfl rfl Av.nil) rfl rfl (ob_fieldAddr (off' := 0) rfl Try.underlying170 rfl sz41 (by decide) (.tmp rfl) rfl) (oc (an 8 rfl rfl rfl Av.nil) rfl rfl (ob_load rfl tk41 (.tmp rfl) (.head _) (lg_frame_row_int__l p1)) (oc (av 3 rfl rfl Av.nil) rfl rfl (mv rfl rfl) (oc (an 9 rfl rfl rfl (an 10 rfl rfl rfl Av.nil)) rfl rfl (ob_indexAddrs rfl Try.underlying41 sz3 (.tmp rfl) (.tmp rfl) e_x2) (oc (an 11 rfl rfl rfl Av.nil) rfl rfl (ob_loadr rfl tk3 (.tmp rfl)) opsS_nil))))))))))))) (out_old (t := 1) rfl rfl (out_old (t := 3) rfl rfl (out_new (i := 1) (by decide) rfl rfl (out_new (i := 7) (by decide) rfl rfl (out_new (i := 12) (by decide) rfl rfl out_nil))))) fun _ _ s18 => ?_
  obtain ⟨x3, e_x3, h7⟩ := bind_some h6; clear h6
  refine qs s18 (.c1 rfl (ob_callD0 (args := [_, _]) rfl (.fn (.tmp rfl)) hb155 (fun a w s => by exact c_frame_byNumber k _ _ _ e_x3 _ _ _ _ (s.arg (.tmp rfl)) (s.arg (.tmp rfl)))) (.c1 rfl (ob_geq rfl (.tmp rfl) (opd_int rfl)) (.ce (u 1 rfl (u 3 rfl (u 25 rfl .nil)))))) fun _ _ s21 => wn hK9 ?_; clear s18
  refine cond_split s21 (.tmp rfl) (fun hc2 => ?_) (fun hc2 => ?_)
  ·have h8 := ite_t hc2 h7; clear h7
   refine wp_seq_k fun K10 hK10 => wp_region_lit (qs s21 (.c1 rfl (ob_assign rfl opd_bool) (.ce (u 2 rfl .nil))) fun _ _ s23 => wn hK10 ?_); clear s21
   have s24 := St.drop (A := []) s23; clear s23
   refine wp_ret ?_
   obtain rfl := Option.some.inj h8
   exact leave s24 (.inl rfl) rfl (.cons (.tmp rfl) .nil)
  ·have h9 := ite_f hc2 h7; clear h7
   refine wp_skip ?_
   refine in_normal ?_
   refine then_normal (hK8 _ _ ?_)
   have s25 := s21.sub (u 1 rfl (u 3 rfl .nil)); clear s21
   refine wp_region_lit (qs s25 (.c1 rfl (mv rfl rfl) (.c1 rfl (ob_add rfl (.tmp rfl) (opd_int rfl)) (.c1 rfl (ob_assign rfl (.tmp rfl)) .cz))) fun _ _ s28 => ?_); clear s25
   refine wpList_nil ?_
   refine then_normal ?_
   exact hK5 (iadd .i64 y1 (1 : Int)) _ _ h9 (s28.sub (.cons rfl (.cons rfl .nil)))
 ·have h10 := ite_f hc1 h3; clear h3
  refine wp_exit ?_
  refine (then_exit (then_exit (in_here ?_)))
  refine then_normal ?_
  have s29 := St.drop (A := []) s16; clear s16
  exact hj1 _ _ h10 (s29.sub .nil)
theorem c_frame_who_1 (k : Nat) (p1 : Int) (r : Bool) (h0 : frame_who_1 k p1 = some r) (ok : Ok) (w0 : World) (z0 : Value) (u0 : ((kint .i64).V p1).holds ok w0 z0) :
 Gives Try.prog 157 [z0] ok w0 (resFact [kbool.V r]) := by
 unfold frame_who_1 at h0
 refine enter (N := 6) Try.func157 rfl rfl (of_decide_eq_true rfl) (.cons u0 .nil) fun a1 s1 => ?_
 refine wp_seq_k fun K1 hK1 => wp_region_lit (qs s1 (.c1 rfl (ob_assign rfl opd_bool) (.ce (u 0 rfl .nil))) fun _ _ s3 => wn hK1 ?_); clear s1
 obtain ⟨x1, e_x1, h1⟩ := bind_some h0; clear h0
 refine wp_seq_k fun K2 hK2 => wp_region_lit (qs s3 (.c1 rfl (mv rfl rfl) (.c1 rfl (ob_callD0 (args := [_]) rfl .direct hb136 (fun a w s => by exact c_frame_member k _ _ e_x1 _ _ _ (s.arg (.tmp rfl)))) (.c1 rfl (ob_not rfl (.tmp rfl)) (.c1 rfl (ob_assign rfl (.tmp rfl)) (.ce (u 2 rfl .nil)))))) fun _ _ s8 => wn hK2 ?_); clear s3
 refine wp_ret ?_
 obtain rfl := Option.some.inj h1
 exact leave s8 (.inl rfl) rfl (.cons (.tmp rfl) .nil)
theorem c_slices_IndexFunc_int_int_frame_who_1 (k : Nat) (p1 : (List Int)) (r : Int) (h0 : slices_IndexFunc_int_int_frame_who_1 k p1 = some r) (ok : Ok) (w0 : World) (z0 : Value) (z1 : Value) (u0 : ((ksl (kint .i64)).V p1).holds ok w0 z0) (u1 : (is (.func (.func 157) #[] #[])).holds ok w0 z1) :
 Gives Try.prog 152 [z0, z1] ok w0 (resFact [(kint .i64).V r]) := by
 unfold slices_IndexFunc_int_int_frame_who_1 at h0
 refine enter (N := 19) Try.func152 rfl rfl (of_decide_eq_true rfl) (.cons u0 (.cons u1 .nil)) fun a1 s1 => ?_
 refine wp_seq_k fun K1 hK1 => wp_region_lit (qs s1 (.c1 rfl (ob_assign rfl (opd_int rfl)) (.ce (u 0 rfl (u 1 rfl .nil)))) fun _ _ s3 => wn hK1 ?_); clear s1
 refine wp_seq_k fun K2 hK2 => wp_seq_k fun K3 hK3 => ?_
 refine wp_region_lit (qs s3 (.c1 rfl (mv rfl rfl) (.c1 rfl (ob_lens rfl Try.underlying41 (.tmp rfl)) (.c1 rfl (ob_move rfl (opd_int rfl)) (.ce (u 0 rfl (u 1 rfl (u 7 rfl (u 8 rfl .nil)))))))) fun _ _ s7 => wn hK3 ?_); clear s3
 have hj1 : ∀ (a : Act) (w : World), (slices_IndexFunc_int_int_frame_who_1.j1 k) = some r → St ⟨19, w0, ok, []⟩ [] [] a w → K2 a w := by
  intro a8 w8 h1 s8
  unfold slices_IndexFunc_int_int_frame_who_1.j1 at h1
  refine hK2 _ _ ?_
  refine wp_seq_k fun K4 hK4 => wp_region_lit (qs s8 (.c1 rfl (ob_assign rfl (opd_int rfl)) (.ce (u 4 rfl .nil))) fun _ _ s10 => wn hK4 ?_); clear s8
  refine wp_ret ?_
  obtain rfl := Option.some.inj h1
  exact leave s10 (.inl rfl) rfl (.cons (.tmp rfl) .nil)
 refine wp_block ?_
 refine wp_loop_fuel (fun m (q : Int) => slices_IndexFunc_int_int_frame_who_1.l1 k p1 m q) r (fun _ => rfl) (fun q a w => St ⟨19, w0, ok, []⟩ [] [(0, ((ksl (kint .i64)).V p1)), (1, (is (.func (.func 157) #[] #[]))), (7, ((kint .i64).V (p1.length : Int))), (8, ((kint .i64).V q))] a w) ?_ k (0 : Int) _ _ h0 (s7.sub (.cons rfl (.cons rfl (.cons rfl (.cons rfl .nil)))))
 rintro n1 y1 a11 w11 h2 s11 K5 hK5
 replace h2 : slices_IndexFunc_int_int_frame_who_1.l1 k p1 (n1 + 1) y1 = some r := h2; rw [slices_IndexFunc_int_int_frame_who_1.l1] at h2
 have h3 := h2; clear h2
 refine wp_seq_k fun K6 hK6 => wp_region_lit (qs s11 (.c1 rfl (ob_lss rfl (.tmp rfl) (.tmp rfl)) (.ce (u 0 rfl (u 1 rfl (u 7 rfl (u 8 rfl (u 9 rfl .nil))))))) fun _ _ s13 => wn hK6 ?_); clear s11
 refine wp_seq_k fun K7 hK7 => ?_
 refine cond_split s13 (.tmp rfl) (fun hc1 => ?_) (fun hc1 => ?_)
 ·have h4 := ite_t hc1 h3; clear h3
  refine wp_skip ?_
  refine then_normal (hK7 _ _ ?_)
  have s14 := s13.sub (u 0 rfl (u 1 rfl (u 7 rfl (u 8 rfl .nil)))); clear s13
  refine wp_seq_k fun K8 hK8 => wp_block ?_
  refine wp_seq_k fun K9 hK9 => wp_region_lit (qs s14 (.c1 rfl (mv rfl rfl) (.c1 rfl (ob_assign rfl (.tmp rfl)) (.ce (u 0 rfl (u 1 rfl (u 5 rfl (u 7 rfl (u 8 rfl .nil)))))))) fun _ _ s17 => wn hK9 ?_); clear s14
  obtain ⟨x1, e_x1, h5⟩ := bind_some h4; clear h4
  obtain ⟨x2, e_x2, h6⟩ := bind_some h5; clear h5
  refine wp_seq_k fun K10 hK10 => wp_region_lit (qs s17 (.c1 rfl (mv rfl rfl) (.c1 rfl (mv rfl rfl) (.c1 rfl (mv rfl rfl) (.c1 rfl (ob_indexAddrs rfl Try.underlying41 sz3 (.tmp rfl) (.tmp rfl) e_x1) (.c1 rfl (ob_loadr rfl tk3 (.tmp rfl)) (.c1 rfl (ob_callD0 (args := [_]) rfl (.fn (.tmp rfl)) hb157 (fun a w s => by exact c_frame_who_1 k _ _ e_x2 _ _ _ (s.arg (.tmp rfl)))) (.ce (u 0 rfl (u 1 rfl (u 5 rfl (u 7 rfl (u 8 rfl (u 16 rfl .nil))))))))))))) fun _ _ s24 => wn hK10 ?_); clear s17
  refine cond_split s24 (.tmp rfl) (fun hc2 => ?_) (fun hc2 => ?_)
  ·have h7 := ite_t hc2 h6; clear h6
   refine wp_seq_k fun K11 hK11 => wp_region_lit (qs s24 (.c1 rfl (mv rfl rfl) (.c1 rfl (ob_assign rfl (.tmp rfl)) (.ce (u 4 rfl .nil)))) fun _ _ s27 => wn hK11 ?_); clear s24
   refine wp_ret ?_
   obtain rfl := Option.some.inj h7
   exact leave s27 (.inl rfl) rfl (.cons (.tmp rfl) .nil)
  ·have h8 := ite_f hc2 h6; clear h6
   refine wp_skip ?_
   refine in_normal ?_
   refine then_normal (hK8 _ _ ?_)
   have s28 := s24.sub (u 0 rfl (u 1 rfl (u 7 rfl (u 8 rfl .nil)))); clear s24
   refine wp_region_lit (qs s28 (.c1 rfl (ob_add rfl (.tmp rfl) (opd_int rfl)) (.c1 rfl (mv rfl rfl) .cz)) fun _ _ s30 => ?_); clear s28
   refine wpList_nil ?_
   refine then_normal ?_
   exact hK5 (iadd .i64 y1 (1 : Int)) _ _ h8 (s30.sub (.cons rfl (.cons rfl (.cons rfl (.cons rfl .nil)))))
 ·have h9 := ite_f hc1 h3; clear h3
  refine wp_exit ?_
  refine (then_exit (then_exit (in_here ?_)))
  refine then_normal ?_
  exact hj1 _ _ h9 (s13.sub .nil)
theorem c_slices_ContainsFunc_int_int_frame_who_1 (k : Nat) (p1 : (List Int)) (r : Bool) (h0 : slices_ContainsFunc_int_int_frame_who_1 k p1 = some r) (ok : Ok) (w0 : World) (z0 : Value) (z1 : Value) (u0 : ((ksl (kint .i64)).V p1).holds ok w0 z0) (u1 : (is (.func (.func 157) #[] #[])).holds ok w0 z1) :
 Gives Try.prog 132 [z0, z1] ok w0 (resFact [kbool.V r]) := by
 unfold slices_ContainsFunc_int_int_frame_who_1 at h0
 refine enter (N := 9) Try.func132 rfl rfl (of_decide_eq_true rfl) (.cons u0 (.cons u1 .nil)) fun a1 s1 => ?_
 refine wp_seq_k fun K1 hK1 => wp_region_lit (qs s1 (.c1 rfl (ob_assign rfl opd_bool) (.ce (u 0 rfl (u 1 rfl .nil)))) fun _ _ s3 => wn hK1 ?_); clear s1
 obtain ⟨x1, e_x1, h1⟩ := bind_some h0; clear h0
 refine wp_seq_k fun K2 hK2 => wp_region_lit (qs s3 (.c1 rfl (mv rfl rfl) (.c1 rfl (mv rfl rfl) (.c1 rfl (ob_callD0 (args := [_, _]) rfl .direct hb152 (fun a w s => by exact c_slices_IndexFunc_int_int_frame_who_1 k _ _ e_x1 _ _ _ _ (s.arg (.tmp rfl)) (s.arg (.tmp rfl)))) (.c1 rfl (ob_geq rfl (.tmp rfl) (opd_int rfl)) (.c1 rfl (ob_assign rfl (.tmp rfl)) (.ce (u 4 rfl .nil))))))) fun _ _ s9 => wn hK2 ?_); clear s3
 refine wp_ret ?_
 obtain rfl := Option.some.inj h1
 exact leave s9 (.inl rfl) rfl (.cons (.tmp rfl) .nil)
theorem c_slices_Index_int_int (k : Nat) (p1 : (List Int)) (p2 : Int) (r : Int) (h0 : slices_Index_int_int k p1 p2 = some r) (ok : Ok) (w0 : World) (z0 : Value) (z1 : Value) (u0 : ((ksl (kint .i64)).V p1).holds ok w0 z0) (u1 : ((kint .i64).V p2).holds ok w0 z1) :
 Gives Try.prog 128 [z0, z1] ok w0 (resFact [(kint .i64).V r]) := by
 unfold slices_Index_int_int at h0
 refine enter (N := 19) Try.func128 rfl rfl (of_decide_eq_true rfl) (.cons u0 (.cons u1 .nil)) fun a1 s1 => ?_
 refine wp_seq_k fun K1 hK1 => wp_region_lit (qs s1 (.c1 rfl (ob_assign rfl (opd_int rfl)) (.ce (u 0 rfl (u 1 rfl .nil)))) fun _ _ s3 => wn hK1 ?_); clear s1
 refine wp_seq_k fun K2 hK2 => wp_seq_k fun K3 hK3 => ?_
 refine wp_region_lit (qs s3 (.c1 rfl (mv rfl rfl) (.c1 rfl (ob_lens rfl Try.underlying41 (.tmp rfl)) (.c1 rfl (ob_move rfl (opd_int rfl)) (.ce (u 0 rfl (u 1 rfl (u 7 rfl (u 8 rfl .nil)))))))) fun _ _ s7 => wn hK3 ?_); clear s3
 have hj1 : ∀ (a : Act) (w : World), (slices_Index_int_int.j1 k) = some r → St ⟨19, w0, ok, []⟩ [] [] a w → K2 a w := by
  intro a8 w8 h1 s8
  unfold slices_Index_int_int.j1 at h1
  refine hK2 _ _ ?_
  refine wp_seq_k fun K4 hK4 => wp_region_lit (qs s8 (.c1 rfl (ob_assign rfl (opd_int rfl)) (.ce (u 4 rfl .nil))) fun _ _ s10 => wn hK4 ?_); clear s8
  refine wp_ret ?_
  obtain rfl := Option.some.inj h1
  exact leave s10 (.inl rfl) rfl (.cons (.tmp rfl) .nil)
 refine wp_block ?_
 refine wp_loop_fuel (fun m (q : Int) => slices_Index_int_int.l1 k p1 p2 m q) r (fun _ => rfl) (fun q a w => St ⟨19, w0, ok, []⟩ [] [(0, ((ksl (kint .i64)).V p1)), (1, ((kint .i64).V p2)), (7, ((kint .i64).V (p1.length : Int))), (8, ((kint .i64).V q))] a w) ?_ k (0 : Int) _ _ h0 (s7.sub (.cons rfl (.cons rfl (.cons rfl (.cons rfl .nil)))))
 rintro n1 y1 a11 w11 h2 s11 K5 hK5
 replace h2 : slices_Index_int_int.l1 k p1 p2 (n1 + 1) y1 = some r := h2; rw [slices_Index_int_int.l1] at h2
 have h3 := h2; clear h2
 refine wp_seq_k fun K6 hK6 => wp_region_lit (qs s11 (.c1 rfl (ob_lss rfl (.tmp rfl) (.tmp rfl)) (.ce (u 0 rfl (u 1 rfl (u 7 rfl (u 8 rfl (u 9 rfl .nil))))))) fun _ _ s13 => wn hK6 ?_); clear s11
 refine wp_seq_k fun K7 hK7 => ?_
 refine cond_split s13 (.tmp rfl) (fun hc1 => ?_) (fun hc1 => ?_)
 ·have h4 := ite_t hc1 h3; clear h3
  refine wp_skip ?_
  refine then_normal (hK7 _ _ ?_)
  have s14 := s13.sub (u 0 rfl (u 1 rfl (u 7 rfl (u 8 rfl .nil)))); clear s13
  refine wp_seq_k fun K8 hK8 => wp_block ?_
  refine wp_seq_k fun K9 hK9 => wp_region_lit (qs s14 (.c1 rfl (mv rfl rfl) (.c1 rfl (ob_assign rfl (.tmp rfl)) (.ce (u 0 rfl (u 1 rfl (u 5 rfl (u 7 rfl (u 8 rfl .nil)))))))) fun _ _ s17 => wn hK9 ?_); clear s14
  obtain ⟨x1, e_x1, h5⟩ := bind_some h4; clear h4
  refine wp_seq_k fun K10 hK10 => wp_region_lit (qs s17 (.c1 rfl (mv rfl rfl) (.c1 rfl (mv rfl rfl) (.c1 rfl (mv rfl rfl) (.c1 rfl (ob_indexAddrs rfl Try.underlying41 sz3 (.tmp rfl) (.tmp rfl) e_x1) (.c1 rfl (ob_loadr rfl tk3 (.tmp rfl)) (.c1 rfl (ob_eql rfl (.tmp rfl) (.tmp rfl)) (.ce (u 0 rfl (u 1 rfl (u 5 rfl (u 7 rfl (u 8 rfl (u 16 rfl .nil))))))))))))) fun _ _ s24 => wn hK10 ?_); clear s17
  refine cond_split s24 (.tmp rfl) (fun hc2 => ?_) (fun hc2 => ?_)
  ·have h6 := ite_t hc2 h5; clear h5
   refine wp_seq_k fun K11 hK11 => wp_region_lit (qs s24 (.c1 rfl (mv rfl rfl) (.c1 rfl (ob_assign rfl (.tmp rfl)) (.ce (u 4 rfl .nil)))) fun _ _ s27 => wn hK11 ?_); clear s24
   refine wp_ret ?_
   obtain rfl := Option.some.inj h6
   exact leave s27 (.inl rfl) rfl (.cons (.tmp rfl) .nil)
  ·have h7 := ite_f hc2 h5; clear h5
   refine wp_skip ?_
   refine in_normal ?_
   refine then_normal (hK8 _ _ ?_)
   have s28 := s24.sub (u 0 rfl (u 1 rfl (u 7 rfl (u 8 rfl .nil)))); clear s24
   refine wp_region_lit (qs s28 (.c1 rfl (ob_add rfl (.tmp rfl) (opd_int rfl)) (.c1 rfl (mv rfl rfl) .cz)) fun _ _ s30 => ?_); clear s28
   refine wpList_nil ?_
   refine then_normal ?_
   exact hK5 (iadd .i64 y1 (1 : Int)) _ _ h7 (s30.sub (.cons rfl (.cons rfl (.cons rfl (.cons rfl .nil)))))
 ·have h8 := ite_f hc1 h3; clear h3
  refine wp_exit ?_
  refine (then_exit (then_exit (in_here ?_)))
  refine then_normal ?_
  exact hj1 _ _ h8 (s13.sub .nil)
theorem c_slices_Contains_int_int (k : Nat) (p1 : (List Int)) (p2 : Int) (r : Bool) (h0 : slices_Contains_int_int k p1 p2 = some r) (ok : Ok) (w0 : World) (z0 : Value) (z1 : Value) (u0 : ((ksl (kint .i64)).V p1).holds ok w0 z0) (u1 : ((kint .i64).V p2).holds ok w0 z1) :
 Gives Try.prog 83 [z0, z1] ok w0 (resFact [kbool.V r]) := by
 unfold slices_Contains_int_int at h0
 refine enter (N := 9) Try.func83 rfl rfl (of_decide_eq_true rfl) (.cons u0 (.cons u1 .nil)) fun a1 s1 => ?_
 refine wp_seq_k fun K1 hK1 => wp_region_lit (qs s1 (.c1 rfl (ob_assign rfl opd_bool) (.ce (u 0 rfl (u 1 rfl .nil)))) fun _ _ s3 => wn hK1 ?_); clear s1
 obtain ⟨x1, e_x1, h1⟩ := bind_some h0; clear h0
 refine wp_seq_k fun K2 hK2 => wp_region_lit (qs s3 (.c1 rfl (mv rfl rfl) (.c1 rfl (mv rfl rfl) (.c1 rfl (ob_callD0 (args := [_, _]) rfl .direct hb128 (fun a w s => by exact c_slices_Index_int_int k _ _ _ e_x1 _ _ _ _ (s.arg (.tmp rfl)) (s.arg (.tmp rfl)))) (.c1 rfl (ob_geq rfl (.tmp rfl) (opd_int rfl)) (.c1 rfl (ob_assign rfl (.tmp rfl)) (.ce (u 4 rfl .nil))))))) fun _ _ s9 => wn hK2 ?_); clear s3
 refine wp_ret ?_
 obtain rfl := Option.some.inj h1
 exact leave s9 (.inl rfl) rfl (.cons (.tmp rfl) .nil)
theorem c_frame_who (k : Nat) (p1 : api_Op) (r : Bool) (h0 : frame_who k p1 = some r) (ok : Ok) (w0 : World) (z0 : Value) (u0 : (k_api_Op.V p1).holds ok w0 z0) :
 Gives Try.prog 139 [z0] ok w0 (resFact [kbool.V r]) := by
 unfold frame_who at h0
 refine enter (N := 42) Try.func139 rfl rfl (of_decide_eq_true rfl) (.cons u0 .nil) fun a1 s1 => ?_
 refine wp_seq_k fun K1 hK1 => wp_region_lit ?_
 refine qx (B' := (fun b1 : Nat => [BF b1 44 k_api_Op p1])) s1 rfl (ob_box rfl (.tmp rfl)) fun b1 _ _ s2 => ?_; clear s1
 refine qs s2 (.c1 rfl (ob_assign rfl opd_bool) (.ce (u 1 rfl .nil))) fun _ _ s4 => wn hK1 ?_; clear s2
 refine wp_seq_k fun K2 hK2 => wp_seq_k fun K3 hK3 => ?_
 obtain ⟨x1, e_x1, h1⟩ := bind_some h0; clear h0
 obtain ⟨x2, e_x2, h2⟩ := bind_some h1; clear h1
 refine wp_region_lit (qs s4 (.c1 rfl (ob_fieldAddr (off' := 4) rfl Try.underlying44 rfl sz41 (by decide) (.tmp rfl) rfl) (.c1 rfl (ob_load rfl tk41 (.tmp rfl) (.head _) (lg_api_Op_Who p1)) (.c1 rfl (((ob_mkObj (K0 := (ko_frame_row_int__1 Value.nilFunc)) (K := (ko_frame_row_int__1 (Value.func (.func 155) #[] #[]))) (X := (⟨p1.Who, ()⟩ : frame_row_int_)) rfl Try.underlying170 zz170 rfl rfl pl170 (Zr.iso (f := to_frame_row_int__1) (x := (⟨[], ()⟩ : frame_row_int_)) (Zr.pair (Zr.sl _) (Zr.pair Zr.nilFn Zr.nil))) (.cons (.tmp rfl) rfl (LSK.of (lso_frame_row_int__1_l (⟨[], ()⟩ : frame_row_int_) p1.Who)) (.cons (.conv .func (is_kis rfl rfl rfl)) rfl (lsk_frame_row_int__1_to_1_at1 (⟨p1.Who, ()⟩ : frame_row_int_)) (.nil _ _)))).as (fun ok w v h => h) : Ob _ _ _ _ _ (k_frame_row_int_.V (⟨p1.Who, ()⟩ : frame_row_int_)))) (.c1 rfl (ob_callD0 (args := [_]) rfl .direct hb156 (fun a w s => by exact c_frame_row_int_rising k _ _ e_x1 _ _ _ (s.arg (.tmp rfl)))) (.c1 rfl (ob_not rfl (.tmp rfl)) (.c1 rfl (mv rfl rfl) (.cg rfl rfl rfl rfl (fun hb => ob_fieldAddr (off' := 4) rfl Try.underlying44 rfl sz41 (by decide) (.tmp rfl) rfl) (.cg rfl rfl rfl rfl (fun hb => (Ob.uncond (t := 9) hb rfl (ob_load rfl tk41 (.tmp rfl) (.head _) (lg_api_Op_Who p1)))) (.cg rfl rfl rfl rfl (fun hb => (Ob.uncond (t := 10) hb rfl (ob_callD0 (args := [_, _]) rfl .direct hb132 (fun a w s => by exact c_slices_ContainsFunc_int_int_frame_who_1 k _ _ (ite_t hb e_x2) _ _ _ _ (s.arg (.tmp rfl)) (s.arg .func))))) (.c1 rfl (ob_or2 rfl (.tmp rfl) opd_bool (.tmp rfl)) (.ce (u 1 rfl (u 12 rfl .nil))))))))))))) fun _ _ s15 => wn hK3 ?_); clear s4
 refine cond_split s15 (.tmp rfl) (fun hc1 => ?_) (fun hc1 => ?_)
 ·have h3 := ite_t hc1 h2; clear h2
  refine wp_seq_k fun K4 hK4 => wp_region_lit (qs s15 (.c1 rfl (ob_assign rfl opd_bool) (.ce (u 2 rfl .nil))) fun _ _ s17 => wn hK4 ?_); clear s15
  have s18 := St.drop (A := []) s17; clear s17
  refine wp_ret ?_
  obtain rfl := Option.some.inj h3
  exact leave s18 (.inl rfl) rfl (.cons (.tmp rfl) .nil)
 ·have h4 := ite_f hc1 h2; clear h2
  refine wp_skip ?_
  refine then_normal (hK2 _ _ ?_)
  have s19 := s15.sub (u 1 rfl .nil); clear s15
  refine wp_seq_k fun K5 hK5 => wp_seq_k fun K6 hK6 => ?_
  refine wp_region_lit (qs s19 (.c1 rfl (ob_fieldAddr (off' := 3) rfl Try.underlying44 rfl sz3 (by decide) (.tmp rfl) rfl) (.c1 rfl (ob_load rfl tk3 (.tmp rfl) (.head _) (lg_api_Op_Kind p1)) (.ce (u 1 rfl (u 14 rfl .nil))))) fun _ _ s22 => wn hK6 ?_); clear s19
  refine wp_block ?_
  refine wp_seq_k fun K7 hK7 => wp_region_lit (qs s22 (.c1 rfl (ob_eql rfl (.tmp rfl) (opd_int rfl)) (.c1 rfl (ob_assign rfl (.tmp rfl)) (.ce (u 1 rfl (u 14 rfl (u 15 rfl .nil)))))) fun _ _ s25 => wn hK7 ?_); clear s22
  refine cond_split s25 (.tmp rfl) (fun hc2 => ?_) (fun hc2 => ?_)
  ·have h5 := ite_t hc2 h4; clear h4
   obtain ⟨x3, e_x3, h6⟩ := bind_some h5; clear h5
   refine wp_seq_k fun K8 hK8 => wp_region_lit (qs s25 (.c1 rfl (ob_fieldAddr (off' := 4) rfl Try.underlying44 rfl sz41 (by decide) (.tmp rfl) rfl) (.c1 rfl (ob_load rfl tk41 (.tmp rfl) (.head _) (lg_api_Op_Who p1)) (.c1 rfl (ob_fieldAddr (off' := 0) rfl Try.underlying44 rfl sz3 (by decide) (.tmp rfl) rfl) (.c1 rfl (ob_load rfl tk3 (.tmp rfl) (.head _) (lg_api_Op_Author p1)) (.c1 rfl (ob_callD0 (args := [_, _]) rfl .direct hb83 (fun a w s => by exact c_slices_Contains_int_int k _ _ _ e_x3 _ _ _ _ (s.arg (.tmp rfl)) (s.arg (.tmp rfl)))) (.c1 rfl (ob_assign rfl (.tmp rfl)) (.ce (u 2 rfl .nil)))))))) fun _ _ s32 => wn hK8 ?_); clear s25
   have s33 := St.drop (A := []) s32; clear s32
   refine wp_ret ?_
   obtain rfl := Option.some.inj h6
   exact leave s33 (.inl rfl) rfl (.cons (.tmp rfl) .nil)
  ·have h7 := ite_f hc2 h4; clear h4
   refine wp_seq_k fun K9 hK9 => wp_seq_k fun K10 hK10 => ?_
   refine wp_region_lit (qs s25 (.c1 rfl (ob_eql rfl (.tmp rfl) (opd_int rfl)) (.c1 rfl (ob_assign rfl (.tmp rfl)) (.ce (u 1 rfl (u 14 rfl (u 22 rfl .nil)))))) fun _ _ s36 => wn hK10 ?_); clear s25
   have hj1 : ∀ (y1 : Bool) (a : Act) (w : World), (frame_who.j1 k p1) y1 = some r → St ⟨42, w0, ok, []⟩ [BF b1 44 k_api_Op p1] [(1, (ptrB b1 0)), (22, (kbool.V y1))] a w → K9 a w := by
    intro y1 a37 w37 h8 s37
    unfold frame_who.j1 at h8
    refine hK9 _ _ ?_
    refine cond_split s37 (.tmp rfl) (fun hc3 => ?_) (fun hc3 => ?_)
    ·have h9 := ite_t hc3 h8; clear h8
     refine wp_seq_k fun K11 hK11 => ?_
     obtain ⟨x4, e_x4, h10⟩ := bind_some h9; clear h9
     refine wp_goes (Fs := [(ptrB b1 4), ((ksl (kint .i64)).V p1.Who), ((kint .i64).V (p1.Who.length : Int)), (kbool.V ((p1.Who.length : Int) == (1 : Int))), (kbool.V ((p1.Who.length : Int) == (1 : Int))), (Fact.when (((p1.Who.length : Int) == (1 : Int)) == true) (ptrB b1 4)), (Fact.when (((p1.Who.length : Int) == (1 : Int)) == true) ((ksl (kint .i64)).V p1.Who)), (Fact.when (((p1.Who.length : Int) == (1 : Int)) == true) (ptrTo (kint .i64) x4)), (Fact.when (((p1.Who.length : Int) == (1 : Int)) == true) ((kint .i64).V x4)), (Fact.when (((p1.Who.length : Int) == (1 : Int)) == true) (ptrB b1 0)), (Fact.when (((p1.Who.length : Int) == (1 : Int)) == true) ((kint .i64).V p1.Author))]) (bits := [0, 1, 3, 7, 15, 31, 63, 127, 255, 31, 543, 2047, 4095, 8191]) (m := 11) (todo := 0) mx s37 ?_; clear s37
     refine goes_last (by kernel_rfl) rfl (oc (av 1 rfl rfl Av.nil) rfl rfl (ob_fieldAddr (off' := 4) rfl Try.underlying44 rfl sz41 (by decide) (.tmp rfl) rfl) (oc (an 0 rfl rfl rfl Av.nil) rfl rfl (ob_load rfl tk41 (.tmp rfl) (.head _) (lg_api_Op_Who p1)) (oc (an 1 rfl rfl rfl Av.nil) rfl rfl (ob_lens rfl Try.underlying41 (.tmp rfl)) (oc (an 2 rfl rfl rfl Av.nil) rfl rfl (ob_eql rfl (.tmp rfl) (opd_int rfl)) (oc (an 3 rfl rfl rfl Av.nil) rfl rfl (mv rfl rfl) (opsS_cons (.guarded _ (av 1 rfl rfl (an 4 rfl rfl rfl Av.nil)) rfl rfl rfl rfl (fun hb => ob_fieldAddr (off' := 4) rfl Try.underlying44 rfl sz41 (by decide) (.tmp rfl) rfl)) (opsS_cons (.guarded _ (an 4 rfl rfl rfl (an 5 rfl rfl rfl Av.nil)) rfl rfl rfl rfl (fun hb => (Ob.uncond (t := 30) hb rfl (ob_load rfl tk41 (.tmp rfl) (.head _) (lg_api_Op_Who p1))))) (opsS_cons (.guarded _ (an 4 rfl rfl rfl (an 6 rfl rfl rfl Av.nil)) rfl rfl rfl rfl (fun hb => (Ob.uncond (t := 31) hb rfl (ob_indexAddrs rfl Try.underlying41 sz3 (.tmp rfl) (opd_int rfl) (ite_t hb e_x4))))) (opsS_cons (.guarded _ (an 4 rfl rfl rfl (an 7 rfl rfl rfl Av.nil)) rfl rfl rfl rfl (fun hb => (Ob.uncond (t := 32) hb rfl (ob_loadr rfl tk3 (.tmp rfl))))) (opsS_cons (.guarded _ (av 1 rfl rfl (an 4 rfl rfl rfl Av.nil)) rfl rfl rfl rfl (fun hb => ob_fieldAddr (off' := 0) rfl Try.underlying44 rfl sz3 (by decide) (.tmp rfl) rfl)) (opsS_cons (.guarded _ (an 4 rfl rfl rfl (an 9 rfl rfl rfl Av.nil)) rfl rfl rfl rfl (fun hb => (Ob.uncond (t := 34) hb rfl (ob_load rfl tk3 (.tmp rfl) (.head _) (lg_api_Op_Author p1))))) opsS_nil))))))))))) (out_new (i := 4) (by decide) rfl rfl (out_new (i := 8) (by decide) rfl rfl (out_new (i := 10) (by decide) rfl rfl out_nil))) fun _ _ s38 => ?_
     obtain ⟨x5, e_x5, h11⟩ := bind_some h10; clear h10; replace e_x5 := Option.some.inj e_x5
     refine qs s38 (.cg rfl rfl rfl rfl (fun hb => (Ob.uncond (t := 35) hb rfl ((Ob.uncond (t := 33) hb rfl (ob_neq rfl (.tmp rfl) (.tmp rfl)))))) (.c1 rfl ((ob_and2 rfl (.tmp rfl) (.tmp rfl) opd_bool).nm e_x5) (.c1 rfl (ob_assign rfl (.tmp rfl)) (.ce (u 2 rfl .nil))))) fun _ _ s42 => wn hK11 ?_; clear s38
     have s43 := St.drop (A := []) s42; clear s42
     refine wp_ret ?_
     obtain rfl := Option.some.inj h11
     exact leave s43 (.inl rfl) rfl (.cons (.tmp rfl) .nil)
    ·have h12 := ite_f hc3 h8; clear h8
     refine wp_skip ?_
     refine in_normal ?_
     refine then_normal (hK5 _ _ ?_)
     have s44 := s37.sub (u 1 rfl .nil); clear s37
     refine wp_seq_k fun K12 hK12 => wp_region_lit (qs s44 (.c1 rfl (ob_fieldAddr (off' := 4) rfl Try.underlying44 rfl sz41 (by decide) (.tmp rfl) rfl) (.c1 rfl (ob_load rfl tk41 (.tmp rfl) (.head _) (lg_api_Op_Who p1)) (.c1 rfl (ob_lens rfl Try.underlying41 (.tmp rfl)) (.c1 rfl (ob_eql rfl (.tmp rfl) (opd_int rfl)) (.c1 rfl (ob_assign rfl (.tmp rfl)) (.ce (u 2 rfl .nil))))))) fun _ _ s50 => wn hK12 ?_); clear s44
     have s51 := St.drop (A := []) s50; clear s50
     refine wp_ret ?_
     obtain rfl := Option.some.inj h12
     exact leave s51 (.inl rfl) rfl (.cons (.tmp rfl) .nil)
   refine cond_split s36 (.tmp rfl) (fun hc4 => ?_) (fun hc4 => ?_)
   ·have h13 := ite_t hc4 h7; clear h7
    refine wp_skip ?_
    refine then_normal ?_
    exact hj1 (p1.Kind == (2 : Int)) _ _ h13 (s36.sub (.cons rfl (.cons rfl .nil)))
   ·have h14 := ite_f hc4 h7; clear h7
    refine wp_region_lit (qs s36 (.c1 rfl (ob_eql rfl (.tmp rfl) (opd_int rfl)) (.c1 rfl (ob_assign rfl (.tmp rfl)) .cz)) fun _ _ s53 => ?_); clear s36
    refine wpList_nil ?_
    refine then_normal ?_
    exact hj1 (p1.Kind == (3 : Int)) _ _ h14 (s53.sub (.cons rfl (.cons rfl .nil)))
theorem c_frame_boxes_1 (k : Nat) (p1 : api_Box) (p2 : api_Box) (r : Int) (h0 : frame_boxes_1 k p1 p2 = some r) (ok : Ok) (w0 : World) (z0 : Value) (z1 : Value) (u0 : (k_api_Box.V p1).holds ok w0 z0) (u1 : (k_api_Box.V p2).holds ok w0 z1) :
 Gives Try.prog 158 [z0, z1] ok w0 (resFact [(kint .i64).V r]) := by
 unfold frame_boxes_1 at h0
 refine enter (N := 10) Try.func158 rfl rfl (of_decide_eq_true rfl) (.cons u0 (.cons u1 .nil)) fun a1 s1 => ?_
 refine wp_seq_k fun K1 hK1 => wp_region_lit ?_
 refine qx (B' := (fun b1 : Nat => [BF b1 78 k_api_Box p1])) s1 rfl (ob_box rfl (.tmp rfl)) fun b1 _ _ s2 => ?_; clear s1
 refine qx (B' := (fun b2 : Nat => [BF b2 78 k_api_Box p2, BF b1 78 k_api_Box p1])) s2 rfl (ob_box rfl (.tmp rfl)) fun b2 _ _ s3 => ?_; clear s2
 refine qs s3 (.c1 rfl (ob_assign rfl (opd_int rfl)) (.ce (u 2 rfl (u 3 rfl .nil)))) fun _ _ s5 => wn hK1 ?_; clear s3
 obtain ⟨x1, e_x1, h1⟩ := bind_some h0; clear h0
 refine wp_seq_k fun K2 hK2 => wp_region_lit (qs s5 (.c1 rfl (ob_fieldAddr (off' := 0) rfl Try.underlying78 rfl sz3 (by decide) (.tmp rfl) rfl) (.c1 rfl (ob_load rfl tk3 (.tmp rfl) (.tail _ (.head _)) (lg_api_Box_To p1)) (.c1 rfl (ob_fieldAddr (off' := 0) rfl Try.underlying78 rfl sz3 (by decide) (.tmp rfl) rfl) (.c1 rfl (ob_load rfl tk3 (.tmp rfl) (.head _) (lg_api_Box_To p2)) (.c1 rfl (ob_callD0 (args := [_, _]) rfl .direct hb155 (fun a w s => by exact c_frame_byNumber k _ _ _ e_x1 _ _ _ _ (s.arg (.tmp rfl)) (s.arg (.tmp rfl)))) (.c1 rfl (ob_assign rfl (.tmp rfl)) (.ce (u 4 rfl .nil)))))))) fun _ _ s12 => wn hK2 ?_); clear s5
 have s13 := St.drop (A := []) s12; clear s12
 have s14 := St.drop (A := []) s13; clear s13
 refine wp_ret ?_
 obtain rfl := Option.some.inj h1
 exact leave s14 (.inl rfl) rfl (.cons (.tmp rfl) .nil)
theorem c_frame_row_api_Box_rising (k : Nat) (p1 : api_Box_) (r : Bool) (h0 : frame_row_api_Box_rising k p1 = some r) (ok : Ok) (w0 : World) (z0 : Value) (u0 : (k_api_Box_.V p1).holds ok w0 z0) :
 Gives Try.prog 159 [z0] ok w0 (resFact [kbool.V r]) := by
 unfold frame_row_api_Box_rising at h0
 refine enter (N := 26) Try.func159 rfl rfl (of_decide_eq_true rfl) (.cons u0 .nil) fun a1 s1 => ?_
 refine wp_seq_k fun K1 hK1 => wp_region_lit ?_
 refine qx (B' := (fun b1 : Nat => [BF b1 173 k_api_Box_ p1])) s1 rfl (ob_box rfl (.tmp rfl)) fun b1 _ _ s2 => ?_; clear s1
 refine qs s2 (.c1 rfl (ob_assign rfl opd_bool) (.ce (u 1 rfl .nil))) fun _ _ s4 => wn hK1 ?_; clear s2
 refine wp_seq_k fun K2 hK2 => wp_seq_k fun K3 hK3 => ?_
 refine wp_region_lit (qs s4 (.c1 rfl (ob_assign rfl (opd_int rfl)) (.ce (u 1 rfl (u 3 rfl .nil)))) fun _ _ s6 => wn hK3 ?_); clear s4
 have hj1 : ∀ (a : Act) (w : World), (frame_row_api_Box_rising.j1 k) = some r → St ⟨26, w0, ok, []⟩ [] [] a w → K2 a w := by
  intro a7 w7 h1 s7
  unfold frame_row_api_Box_rising.j1 at h1
  refine hK2 _ _ ?_
  refine wp_seq_k fun K4 hK4 => wp_region_lit (qs s7 (.c1 rfl (ob_assign rfl opd_bool) (.ce (u 2 rfl .nil))) fun _ _ s9 => wn hK4 ?_); clear s7
  refine wp_ret ?_
  obtain rfl := Option.some.inj h1
  exact leave s9 (.inl rfl) rfl (.cons (.tmp rfl) .nil)
 refine wp_block ?_
 refine wp_loop_fuel (fun m (q : Int) => frame_row_api_Box_rising.l1 k p1 m q) r (fun _ => rfl) (fun q a w => St ⟨26, w0, ok, []⟩ [BF b1 173 k_api_Box_ p1] [(1, (ptrB b1 0)), (3, ((kint .i64).V q))] a w) ?_ k (1 : Int) _ _ h0 (s6.sub (.cons rfl (.cons rfl .nil)))
 rintro n1 y1 a10 w10 h2 s10 K5 hK5
 replace h2 : frame_row_api_Box_rising.l1 k p1 (n1 + 1) y1 = some r := h2; rw [frame_row_api_Box_rising.l1] at h2
 have h3 := h2; clear h2
 refine wp_seq_k fun K6 hK6 => wp_seq_k fun K7 hK7 => ?_
 refine wp_region_lit (qs s10 (.c1 rfl (mv rfl rfl) (.c1 rfl (ob_fieldAddr (off' := 0) rfl Try.underlying173 rfl sz42 (by decide) (.tmp rfl) rfl) (.c1 rfl (ob_load rfl tk42 (.tmp rfl) (.head _) (lg_api_Box__l p1)) (.c1 rfl (ob_lens rfl Try.underlying42 (.tmp rfl)) (.c1 rfl (ob_lss rfl (.tmp rfl) (.tmp rfl)) (.ce (u 1 rfl (u 3 rfl (u 8 rfl .nil))))))))) fun _ _ s16 => wn hK7 ?_); clear s10
 refine cond_split s16 (.tmp rfl) (fun hc1 => ?_) (fun hc1 => ?_)
 ·have h4 := ite_t hc1 h3; clear h3
  refine wp_skip ?_
  refine then_normal (hK6 _ _ ?_)
  have s17 := s16.sub (u 1 rfl (u 3 rfl .nil)); clear s16
  refine wp_seq_k fun K8 hK8 => wp_block ?_
  refine wp_seq_k fun K9 hK9 => ?_
  obtain ⟨x1, e_x1, h5⟩ := bind_some h4; clear h4
  obtain ⟨x2, e_x2, h6⟩ := bind_some h5; clear h5
  refine wp_goes (Fs := [(ptrB b1 1), (is (.func (.func 158) #[] #[])), (ptrB b1 0), ((ksl k_api_Box).V p1.l), ((kint .i64).V y1), ((kint .i64).V (isub .i64 y1 (1 : Int))), (ptrTo k_api_Box x1), (k_api_Box.V x1), (ptrB b1 0), ((ksl k_api_Box).V p1.l), ((kint .i64).V y1), (ptrTo k_api_Box x2), (k_api_Box.V x2)]) (bits := [0, 1, 0, 4, 0, 16, 60, 124, 0, 256, 0, 1792, 3840, 8191, 16383]) (m := 13) (todo := 0) mx s17 ?_; clear s17
  refine goes_last (by kernel_rfl) rfl (oc (av 1 rfl rfl Av.nil) rfl rfl (ob_fieldAddr (off' := 1) rfl Try.underlying173 rfl sz171 (by decide) (.tmp rfl) rfl) (oc (an 0 rfl rfl rfl Av.nil) rfl rfl ((ob_load rfl tk171 (.tmp rfl) (.head _) (lg_api_Box__order p1)).as kis_is) (oc (av 1 rfl rfl Av.nil) rfl rfl (ob_fieldAddr (off' := 0) rfl Try.underlying173 rfl sz42 (by decide) (.tmp rfl) rfl) (oc (an 2 rfl rfl rfl Av.nil) rfl rfl (ob_load rfl tk42 (.tmp rfl) (.head _) (lg_api_Box__l p1)) (oc (av 3 rfl rfl Av.nil) rfl rfl (mv rfl rfl) (oc (an 4 rfl rfl rfl Av.nil) rfl rfl (ob_sub rfl (.tmp rfl) (opd_int rfl)) (oc (an 3 rfl rfl rfl (an 5 rfl rfl rfl Av.nil)) rfl rfl (ob_indexAddrs rfl Try.underlying42 sz78 (.tmp rfl) (.tmp rfl) e_x1) (oc (an 6 rfl rfl rfl Av.nil) rfl rfl (ob_loadr rfl tk78 (.tmp rfl)) (oc (av 1 rfl rfl Av.nil) rfl rfl (ob_fieldAddr (off' := 0) rfl Try.underlying173 rfl sz42 (by decide) (.tmp rfl) rfl) (oc (an 8 rfl rfl rfl Av.nil) rfl rfl (ob_load rfl tk42 (.tmp rfl) (.head _) (lg_api_Box__l p1)) (oc (av 3 rfl rfl Av.nil) rfl rfl (mv rfl rfl) (oc (an 9 rfl rfl rfl (an 10 rfl rfl rfl Av.nil)) rfl rfl (ob_indexAddrs rfl Try.underlying42 sz78 (.tmp rfl) (.tmp rfl) e_x2) (oc (an 11 rfl rfl rfl Av.nil) rfl rfl (ob_loadr rfl tk78 (.tmp rfl)) opsS_nil))))))))))))) (out_old (t := 1) rfl rfl (out_old (t := 3) rfl rfl (out_new (i := 1) (by decide) rfl rfl (out_new (i := 7) (by decide) rfl rfl (out_new (i := 12) (by decide) rfl rfl out_nil))))) fun _ _ s18 => ?_
  obtain ⟨x3, e_x3, h7⟩ := bind_some h6; clear h6
  refine qs s18 (.c1 rfl (ob_callD0 (args := [_, _]) rfl (.fn (.tmp rfl)) hb158 (fun a w s => by exact c_frame_boxes_1 k _ _ _ e_x3 _ _ _ _ (s.arg (.tmp rfl)) (s.arg (.tmp rfl)))) (.c1 rfl (ob_geq rfl (.tmp rfl) (opd_int rfl)) (.ce (u 1 rfl (u 3 rfl (u 25 rfl .nil)))))) fun _ _ s21 => wn hK9 ?_; clear s18
  refine cond_split s21 (.tmp rfl) (fun hc2 => ?_) (fun hc2 => ?_)
  ·have h8 := ite_t hc2 h7; clear h7
   refine wp_seq_k fun K10 hK10 => wp_region_lit (qs s21 (.c1 rfl (ob_assign rfl opd_bool) (.ce (u 2 rfl .nil))) fun _ _ s23 => wn hK10 ?_); clear s21
   have s24 := St.drop (A := []) s23; clear s23
   refine wp_ret ?_
   obtain rfl := Option.some.inj h8
   exact leave s24 (.inl rfl) rfl (.cons (.tmp rfl) .nil)
  ·have h9 := ite_f hc2 h7; clear h7
   refine wp_skip ?_
   refine in_normal ?_
   refine then_normal (hK8 _ _ ?_)
   have s25 := s21.sub (u 1 rfl (u 3 rfl .nil)); clear s21
   refine wp_region_lit (qs s25 (.c1 rfl (mv rfl rfl) (.c1 rfl (ob_add rfl (.tmp rfl) (opd_int rfl)) (.c1 rfl (ob_assign rfl (.tmp rfl)) .cz))) fun _ _ s28 => ?_); clear s25
   refine wpList_nil ?_
   refine then_normal ?_
   exact hK5 (iadd .i64 y1 (1 : Int)) _ _ h9 (s28.sub (.cons rfl (.cons rfl .nil)))
 ·have h10 := ite_f hc1 h3; clear h3
  refine wp_exit ?_
  refine (then_exit (then_exit (in_here ?_)))
  refine then_normal ?_
  have s29 := St.drop (A := []) s16; clear s16
  exact hj1 _ _ h10 (s29.sub .nil)
theorem c_frame_boxes_2 (k : Nat) (p1 : api_Box) (p2 : api_Op) (r : Bool) (h0 : frame_boxes_2 k p1 p2 = some r) (ok : Ok) (w0 : World) (z0 : Value) (z1 : Value) (u0 : (k_api_Box.V p1).holds ok w0 z0) (u1 : (ptrTo k_api_Op p2).holds ok w0 z1) :
 Gives Try.prog 161 [z0, z1] ok w0 (resFact [kbool.V r]) := by
 unfold frame_boxes_2 at h0
 refine enter (N := 21) Try.func161 rfl rfl (of_decide_eq_true rfl) (.cons u0 (.cons u1 .nil)) fun a1 s1 => ?_
 refine wp_seq_k fun K1 hK1 => wp_region_lit ?_
 refine qx (B' := (fun b1 : Nat => [BF b1 78 k_api_Box p1])) s1 rfl (ob_box rfl (.tmp rfl)) fun b1 _ _ s2 => ?_; clear s1
 refine qs s2 (.c1 rfl (ob_assign rfl opd_bool) (.ce (u 1 rfl (u 2 rfl .nil)))) fun _ _ s4 => wn hK1 ?_; clear s2
 obtain ⟨x1, e_x1, h1⟩ := bind_some h0; clear h0
 obtain ⟨x2, e_x2, h2⟩ := bind_some h1; clear h1; replace e_x2 := Option.some.inj e_x2
 refine wp_seq_k fun K2 hK2 => wp_region_lit (qs s4 (.c1 rfl (ob_fieldAddr (off' := 0) rfl Try.underlying78 rfl sz3 (by decide) (.tmp rfl) rfl) (.c1 rfl (ob_load rfl tk3 (.tmp rfl) (.head _) (lg_api_Box_To p1)) (.c1 rfl (ob_callD0 (args := [_]) rfl .direct hb136 (fun a w s => by exact c_frame_member k _ _ e_x1 _ _ _ (s.arg (.tmp rfl)))) (.c1 rfl (ob_not rfl (.tmp rfl)) (.c1 rfl (mv rfl rfl) (.cg rfl rfl rfl rfl (fun hb => ob_fieldAddr (off' := 0) rfl Try.underlying78 rfl sz3 (by decide) (.tmp rfl) rfl) (.cg rfl rfl rfl rfl (fun hb => (Ob.uncond (t := 9) hb rfl (ob_load rfl tk3 (.tmp rfl) (.head _) (lg_api_Box_To p1)))) (.cg rfl rfl rfl rfl (fun hb => ob_fieldAddrr rfl Try.underlying44 rfl sz3 (by decide) (.tmp rfl) (lg_api_Op_Author p2)) (.cg rfl rfl rfl rfl (fun hb => (Ob.uncond (t := 11) hb rfl (ob_loadr rfl tk3 (.tmp rfl)))) (.cg rfl rfl rfl rfl (fun hb => (Ob.uncond (t := 12) hb rfl ((Ob.uncond (t := 10) hb rfl (ob_eql rfl (.tmp rfl) (.tmp rfl)))))) (.c1 rfl (ob_or2 rfl (.tmp rfl) opd_bool (.tmp rfl)) (.c1 rfl (mv rfl rfl) (.cg rfl rfl rfl rfl (fun hb => ob_fieldAddr (off' := 35) rfl Try.underlying78 rfl sz9 (by decide) (.tmp rfl) rfl) (.cg rfl rfl rfl rfl (fun hb => (Ob.uncond (t := 16) hb rfl (ob_load rfl tk9 (.tmp rfl) (.head _) (lg_api_Box_Body p1)))) (.cg rfl rfl rfl rfl (fun hb => (Ob.uncond (t := 17) hb rfl (ob_lenStr rfl Try.underlying9 (.tmp rfl)))) (.cg rfl rfl rfl rfl (fun hb => (Ob.uncond (t := 18) hb rfl (ob_gtr rfl (.tmp rfl) (opd_int rfl)))) (.c1 rfl ((ob_or2 rfl (.tmp rfl) opd_bool (.tmp rfl)).nm e_x2) (.c1 rfl (ob_assign rfl (.tmp rfl)) (.ce (u 3 rfl .nil)))))))))))))))))))) fun _ _ s23 => wn hK2 ?_); clear s4
 have s24 := St.drop (A := []) s23; clear s23
 refine wp_ret ?_
 obtain rfl := Option.some.inj h2
 exact leave s24 (.inl rfl) rfl (.cons (.tmp rfl) .nil)
theorem c_slices_IndexFunc_api_Box_api_Box_frame_boxes_2 (k : Nat) (p1 : (List api_Box)) (p2 : api_Op) (r : Int) (h0 : slices_IndexFunc_api_Box_api_Box_frame_boxes_2 k p1 p2 = some r) (ok : Ok) (w0 : World) (z0 : Value) (z1 : Value) (u0 : ((ksl k_api_Box).V p1).holds ok w0 z0) (u1 : (cloF 161 [] [(ptrTo k_api_Op p2)]).holds ok w0 z1) :
 Gives Try.prog 184 [z0, z1] ok w0 (resFact [(kint .i64).V r]) := by
 unfold slices_IndexFunc_api_Box_api_Box_frame_boxes_2 at h0
 refine enter (N := 19) Try.func184 rfl rfl (of_decide_eq_true rfl) (.cons u0 (.cons u1 .nil)) fun a1 s1 => ?_
 refine wp_seq_k fun K1 hK1 => wp_region_lit (qs s1 (.c1 rfl (ob_assign rfl (opd_int rfl)) (.ce (u 0 rfl (u 1 rfl .nil)))) fun _ _ s3 => wn hK1 ?_); clear s1
 refine wp_seq_k fun K2 hK2 => wp_seq_k fun K3 hK3 => ?_
 refine wp_region_lit (qs s3 (.c1 rfl (mv rfl rfl) (.c1 rfl (ob_lens rfl Try.underlying42 (.tmp rfl)) (.c1 rfl (ob_move rfl (opd_int rfl)) (.ce (u 0 rfl (u 1 rfl (u 7 rfl (u 8 rfl .nil)))))))) fun _ _ s7 => wn hK3 ?_); clear s3
 have hj1 : ∀ (a : Act) (w : World), (slices_IndexFunc_api_Box_api_Box_frame_boxes_2.j1 k) = some r → St ⟨19, w0, ok, []⟩ [] [] a w → K2 a w := by
  intro a8 w8 h1 s8
  unfold slices_IndexFunc_api_Box_api_Box_frame_boxes_2.j1 at h1
  refine hK2 _ _ ?_
  refine wp_seq_k fun K4 hK4 => wp_region_lit (qs s8 (.c1 rfl (ob_assign rfl (opd_int rfl)) (.ce (u 4 rfl .nil))) fun _ _ s10 => wn hK4 ?_); clear s8
  refine wp_ret ?_
  obtain rfl := Option.some.inj h1
  exact leave s10 (.inl rfl) rfl (.cons (.tmp rfl) .nil)
 refine wp_block ?_
 refine wp_loop_fuel (fun m (q : Int) => slices_IndexFunc_api_Box_api_Box_frame_boxes_2.l1 k p1 p2 m q) r (fun _ => rfl) (fun q a w => St ⟨19, w0, ok, []⟩ [] [(0, ((ksl k_api_Box).V p1)), (1, (cloF 161 [] [(ptrTo k_api_Op p2)])), (7, ((kint .i64).V (p1.length : Int))), (8, ((kint .i64).V q))] a w) ?_ k (0 : Int) _ _ h0 (s7.sub (.cons rfl (.cons rfl (.cons rfl (.cons rfl .nil)))))
 rintro n1 y1 a11 w11 h2 s11 K5 hK5
 replace h2 : slices_IndexFunc_api_Box_api_Box_frame_boxes_2.l1 k p1 p2 (n1 + 1) y1 = some r := h2; rw [slices_IndexFunc_api_Box_api_Box_frame_boxes_2.l1] at h2
 have h3 := h2; clear h2
 refine wp_seq_k fun K6 hK6 => wp_region_lit (qs s11 (.c1 rfl (ob_lss rfl (.tmp rfl) (.tmp rfl)) (.ce (u 0 rfl (u 1 rfl (u 7 rfl (u 8 rfl (u 9 rfl .nil))))))) fun _ _ s13 => wn hK6 ?_); clear s11
 refine wp_seq_k fun K7 hK7 => ?_
 refine cond_split s13 (.tmp rfl) (fun hc1 => ?_) (fun hc1 => ?_)
 ·have h4 := ite_t hc1 h3; clear h3
  refine wp_skip ?_
  refine then_normal (hK7 _ _ ?_)
  have s14 := s13.sub (u 0 rfl (u 1 rfl (u 7 rfl (u 8 rfl .nil)))); clear s13
  refine wp_seq_k fun K8 hK8 => wp_block ?_
  refine wp_seq_k fun K9 hK9 => wp_region_lit (qs s14 (.c1 rfl (mv rfl rfl) (.c1 rfl (ob_assign rfl (.tmp rfl)) (.ce (u 0 rfl (u 1 rfl (u 5 rfl (u 7 rfl (u 8 rfl .nil)))))))) fun _ _ s17 => wn hK9 ?_); clear s14
  obtain ⟨x1, e_x1, h5⟩ := bind_some h4; clear h4
  obtain ⟨x2, e_x2, h6⟩ := bind_some h5; clear h5
  refine wp_seq_k fun K10 hK10 => wp_region_lit (qs s17 (.c1 rfl (mv rfl rfl) (.c1 rfl (mv rfl rfl) (.c1 rfl (mv rfl rfl) (.c1 rfl (ob_indexAddrs rfl Try.underlying42 sz78 (.tmp rfl) (.tmp rfl) e_x1) (.c1 rfl (ob_loadr rfl tk78 (.tmp rfl)) (.c1 rfl (ob_callD (args := [_]) rfl (.clo (.tmp rfl)) hb161 (fun a w s fs gs hf hg => by obtain rfl := hf.unnil; obtain ⟨u0, _, rfl, fu0, hg⟩ := hg.uncons; obtain rfl := hg.unnil; exact c_frame_boxes_2 k _ _ _ e_x2 _ _ _ _ (s.arg (.tmp rfl)) fu0)) (.ce (u 0 rfl (u 1 rfl (u 5 rfl (u 7 rfl (u 8 rfl (u 16 rfl .nil))))))))))))) fun _ _ s24 => wn hK10 ?_); clear s17
  refine cond_split s24 (.tmp rfl) (fun hc2 => ?_) (fun hc2 => ?_)
  ·have h7 := ite_t hc2 h6; clear h6
   refine wp_seq_k fun K11 hK11 => wp_region_lit (qs s24 (.c1 rfl (mv rfl rfl) (.c1 rfl (ob_assign rfl (.tmp rfl)) (.ce (u 4 rfl .nil)))) fun _ _ s27 => wn hK11 ?_); clear s24
   refine wp_ret ?_
   obtain rfl := Option.some.inj h7
   exact leave s27 (.inl rfl) rfl (.cons (.tmp rfl) .nil)
  ·have h8 := ite_f hc2 h6; clear h6
   refine wp_skip ?_
   refine in_normal ?_
   refine then_normal (hK8 _ _ ?_)
   have s28 := s24.sub (u 0 rfl (u 1 rfl (u 7 rfl (u 8 rfl .nil)))); clear s24
   refine wp_region_lit (qs s28 (.c1 rfl (ob_add rfl (.tmp rfl) (opd_int rfl)) (.c1 rfl (mv rfl rfl) .cz)) fun _ _ s30 => ?_); clear s28
   refine wpList_nil ?_
   refine then_normal ?_
   exact hK5 (iadd .i64 y1 (1 : Int)) _ _ h8 (s30.sub (.cons rfl (.cons rfl (.cons rfl (.cons rfl .nil)))))
 ·have h9 := ite_f hc1 h3; clear h3
  refine wp_exit ?_
  refine (then_exit (then_exit (in_here ?_)))
  refine then_normal ?_
  exact hj1 _ _ h9 (s13.sub .nil)
theorem c_slices_ContainsFunc_api_Box_api_Box_frame_boxes_2 (k : Nat) (p1 : (List api_Box)) (p2 : api_Op) (r : Bool) (h0 : slices_ContainsFunc_api_Box_api_Box_frame_boxes_2 k p1 p2 = some r) (ok : Ok) (w0 : World) (z0 : Value) (z1 : Value) (u0 : ((ksl k_api_Box).V p1).holds ok w0 z0) (u1 : (cloF 161 [] [(ptrTo k_api_Op p2)]).holds ok w0 z1) :
 Gives Try.prog 160 [z0, z1] ok w0 (resFact [kbool.V r]) := by
 unfold slices_ContainsFunc_api_Box_api_Box_frame_boxes_2 at h0
 refine enter (N := 9) Try.func160 rfl rfl (of_decide_eq_true rfl) (.cons u0 (.cons u1 .nil)) fun a1 s1 => ?_
 refine wp_seq_k fun K1 hK1 => wp_region_lit (qs s1 (.c1 rfl (ob_assign rfl opd_bool) (.ce (u 0 rfl (u 1 rfl .nil)))) fun _ _ s3 => wn hK1 ?_); clear s1
 obtain ⟨x1, e_x1, h1⟩ := bind_some h0; clear h0
 refine wp_seq_k fun K2 hK2 => wp_region_lit (qs s3 (.c1 rfl (mv rfl rfl) (.c1 rfl (mv rfl rfl) (.c1 rfl (ob_callD0 (args := [_, _]) rfl .direct hb184 (fun a w s => by exact c_slices_IndexFunc_api_Box_api_Box_frame_boxes_2 k _ _ _ e_x1 _ _ _ _ (s.arg (.tmp rfl)) (s.arg (.tmp rfl)))) (.c1 rfl (ob_geq rfl (.tmp rfl) (opd_int rfl)) (.c1 rfl (ob_assign rfl (.tmp rfl)) (.ce (u 4 rfl .nil))))))) fun _ _ s9 => wn hK2 ?_); clear s3
 refine wp_ret ?_
 obtain rfl := Option.some.inj h1
 exact leave s9 (.inl rfl) rfl (.cons (.tmp rfl) .nil)
theorem c_frame_boxes (k : Nat) (p1 : api_Op) (r : Bool) (h0 : frame_boxes k p1 = some r) (ok : Ok) (w0 : World) (z0 : Value) (u0 : (k_api_Op.V p1).holds ok w0 z0) :
 Gives Try.prog 140 [z0] ok w0 (resFact [kbool.V r]) := by
 unfold frame_boxes at h0
 refine enter (N := 20) Try.func140 rfl rfl (of_decide_eq_true rfl) (.cons u0 .nil) fun a1 s1 => ?_
 refine wp_seq_k fun K1 hK1 => wp_region_lit ?_
 refine qx (B' := (fun b1 : Nat => [BF b1 44 k_api_Op p1])) s1 rfl (ob_box rfl (.tmp rfl)) fun b1 _ _ s2 => ?_; clear s1
 refine qs s2 (.c1 rfl (ob_assign rfl opd_bool) (.ce (u 1 rfl .nil))) fun _ _ s4 => wn hK1 ?_; clear s2
 obtain ⟨x1, e_x1, h1⟩ := bind_some h0; clear h0
 obtain ⟨x2, e_x2, h2⟩ := bind_some h1; clear h1
 obtain ⟨x3, e_x3, h3⟩ := bind_some h2; clear h2; replace e_x3 := Option.some.inj e_x3
 refine wp_seq_k fun K2 hK2 => wp_region_lit (qs s4 (.c1 rfl (ob_fieldAddr (off' := 70) rfl Try.underlying44 rfl sz42 (by decide) (.tmp rfl) rfl) (.c1 rfl (ob_load rfl tk42 (.tmp rfl) (.head _) (lg_api_Op_Boxes p1)) (.c1 rfl (ob_lens rfl Try.underlying42 (.tmp rfl)) (.c1 rfl (ob_leq rfl (.tmp rfl) (opd_int rfl)) (.c1 rfl (mv rfl rfl) (.cg rfl rfl rfl rfl (fun hb => ob_fieldAddr (off' := 70) rfl Try.underlying44 rfl sz42 (by decide) (.tmp rfl) rfl) (.cg rfl rfl rfl rfl (fun hb => (Ob.uncond (t := 8) hb rfl (ob_load rfl tk42 (.tmp rfl) (.head _) (lg_api_Op_Boxes p1)))) (.cg rfl rfl rfl rfl (fun hb => (Ob.uncond (t := 9) hb rfl (((ob_mkObj (K0 := (ko_api_Box__1 Value.nilFunc)) (K := (ko_api_Box__1 (Value.func (.func 158) #[] #[]))) (X := (⟨p1.Boxes, ()⟩ : api_Box_)) rfl Try.underlying173 zz173 rfl rfl pl173 (Zr.iso (f := to_api_Box__1) (x := (⟨[], ()⟩ : api_Box_)) (Zr.pair (Zr.sl _) (Zr.pair Zr.nilFn Zr.nil))) (.cons (.tmp rfl) rfl (LSK.of (lso_api_Box__1_l (⟨[], ()⟩ : api_Box_) p1.Boxes)) (.cons (.conv .func (is_kis rfl rfl rfl)) rfl (lsk_api_Box__1_to_1_at1 (⟨p1.Boxes, ()⟩ : api_Box_)) (.nil _ _)))).as (fun ok w v h => h) : Ob _ _ _ _ _ (k_api_Box_.V (⟨p1.Boxes, ()⟩ : api_Box_)))))) (.cg rfl rfl rfl rfl (fun hb => (Ob.uncond (t := 10) hb rfl (ob_callD0 (args := [_]) rfl .direct hb159 (fun a w s => by exact c_frame_row_api_Box_rising k _ _ (ite_t hb e_x1) _ _ _ (s.arg (.tmp rfl)))))) (.c1 rfl (ob_and2 rfl (.tmp rfl) (.tmp rfl) opd_bool) (.c1 rfl (mv rfl rfl) (.cg rfl rfl rfl rfl (fun hb => ob_fieldAddr (off' := 70) rfl Try.underlying44 rfl sz42 (by decide) (.tmp rfl) rfl) (.cg rfl rfl rfl rfl (fun hb => (Ob.uncond (t := 14) hb rfl (ob_load rfl tk42 (.tmp rfl) (.head _) (lg_api_Op_Boxes p1)))) (.cg rfl rfl rfl rfl (fun hb => ob_makeFn (xs := []) (ys := [_]) rfl .nil (.cons (.tmp rfl) .nil)) (.cg rfl rfl rfl rfl (fun hb => (Ob.uncond (t := 16) hb rfl ((Ob.uncond (t := 15) hb rfl ((ob_lendG (L := [_]) (List.Perm.refl _) (.cons (t := 16) rfl (lendClo .nil (.cons (lendPtrB (.head _) (LG.refl _ _)) .nil)) .nil) (Flat.res1 (Flat.V KFlat.bool)) (fun _ => ob_callD0 (args := [_, _]) rfl .direct hb160 (fun a w s => by exact c_slices_ContainsFunc_api_Box_api_Box_frame_boxes_2 k _ _ _ (ite_t hb e_x2) _ _ _ _ (s.arg (.tmp rfl)) (s.arg (.tmp rfl)))))))))) (.cg rfl rfl rfl rfl (fun hb => (Ob.uncond (t := 17) hb rfl (ob_not rfl (.tmp rfl)))) (.c1 rfl ((ob_and2 rfl (.tmp rfl) (.tmp rfl) opd_bool).nm e_x3) (.c1 rfl (ob_assign rfl (.tmp rfl)) (.ce (u 2 rfl .nil)))))))))))))))))))) fun _ _ s23 => wn hK2 ?_); clear s4
 have s24 := St.drop (A := []) s23; clear s23
 refine wp_ret ?_
 obtain rfl := Option.some.inj h3
 exact leave s24 (.inl rfl) rfl (.cons (.tmp rfl) .nil)
theorem c_frame_Right (k : Nat) (p1 : api_Op) (r : Bool) (h0 : frame_Right k p1 = some r) (ok : Ok) (w0 : World) (z0 : Value) (u0 : (k_api_Op.V p1).holds ok w0 z0) :
 Gives Try.prog 91 [z0] ok w0 (resFact [kbool.V r]) := by
 unfold frame_Right at h0
 refine enter (N := 105) Try.func91 rfl rfl (of_decide_eq_true rfl) (.cons u0 .nil) fun a1 s1 => ?_
 refine wp_seq_k fun K1 hK1 => wp_region_lit ?_
 refine qx (B' := (fun b1 : Nat => [BF b1 44 k_api_Op p1])) s1 rfl (ob_box rfl (.tmp rfl)) fun b1 _ _ s2 => ?_; clear s1
 refine qs s2 (.c1 rfl (ob_assign rfl opd_bool) (.ce (u 1 rfl .nil))) fun _ _ s4 => wn hK1 ?_; clear s2
 obtain ⟨x1, e_x1, h1⟩ := bind_some h0; clear h0; replace e_x1 := Option.some.inj e_x1
 refine wp_seq_k fun K2 hK2 => wp_region_lit (qs s4 (.c1 rfl (((ob_mkArr (k := (kint .u8)) rfl Try.underlying39 zz39 sz5 (Zr.arr 32 (Zr.int .u8)) (.nil _) : Ob _ _ _ _ _ ((karr 32 (kint .u8)).V ([(0 : Int), 0, 0, 0, 0, 0, 0, 0, 0, 0, 0, 0, 0, 0, 0, 0, 0, 0, 0, 0, 0, 0, 0, 0, 0, 0, 0, 0, 0, 0, 0, 0] : (List Int))))).nm e_x1) .cz) fun _ _ s5 => ?_); clear s4
 refine qx (B' := (fun b2 : Nat => [BF b2 39 (karr 32 (kint .u8)) (List.replicate 32 (0 : Int)), BF b1 44 k_api_Op p1])) s5 rfl (ob_new (k := (karr 32 (kint .u8))) rfl zz39 (Zr.arr 32 (Zr.int .u8))) fun b2 _ _ s6 => ?_; clear s5
 refine seq_opx0 (B' := (fun _ : Unit => [BF b2 39 (karr 32 (kint .u8)) x1, BF b1 44 k_api_Op p1])) s6 rfl rfl (ob_store (A := []) rfl tk39 (.tmp rfl) (.tmp rfl) rfl (LS.refl _ _ _) rfl) fun _ a7 w7 s7 => ?_; clear s6
 refine wn hK2 ?_
 have s8 := s7.sub (u 1 rfl (u 3 rfl .nil)); clear s7
 refine wp_seq_k fun K3 hK3 => ?_
 refine wp_goes (Fs := [(ptrB b1 3), ((kint .i64).V p1.Kind), (kbool.V (p1.Kind == (5 : Int))), (kbool.V (p1.Kind == (5 : Int))), (Fact.when ((p1.Kind == (5 : Int)) == false) (ptrB b1 3)), (Fact.when ((p1.Kind == (5 : Int)) == false) ((kint .i64).V p1.Kind)), (Fact.when ((p1.Kind == (5 : Int)) == false) (kbool.V (p1.Kind == (6 : Int)))), (kbool.V (if (p1.Kind == (5 : Int)) then true else (p1.Kind == (6 : Int)))), (ptrB b1 3), ((kint .i64).V p1.Kind), (kbool.V (p1.Kind == (7 : Int))), (ptrB b1 3), ((kint .i64).V p1.Kind), (kbool.V (p1.Kind == (1 : Int))), (kbool.V (if (p1.Kind == (5 : Int)) then true else (p1.Kind == (6 : Int)))), (kbool.V (p1.Kind == (7 : Int)))]) (bits := [0, 1, 3, 7, 15, 31, 63, 127, 0, 256, 768, 0, 2048, 6144, 255, 18431, 65535]) (m := 16) (todo := 0) mx s8 ?_; clear s8
 refine goes_last (by kernel_rfl) rfl (oc (av 1 rfl rfl Av.nil) rfl rfl (ob_fieldAddr (off' := 3) rfl Try.underlying44 rfl sz3 (by decide) (.tmp rfl) rfl) (oc (an 0 rfl rfl rfl Av.nil) rfl rfl (ob_load rfl tk3 (.tmp rfl) (.tail _ (.head _)) (lg_api_Op_Kind p1)) (oc (an 1 rfl rfl rfl Av.nil) rfl rfl (ob_eql rfl (.tmp rfl) (opd_int rfl)) (oc (an 2 rfl rfl rfl Av.nil) rfl rfl (mv rfl rfl) (opsS_cons (.guarded _ (av 1 rfl rfl (an 3 rfl rfl rfl Av.nil)) rfl rfl rfl rfl (fun hb => ob_fieldAddr (off' := 3) rfl Try.underlying44 rfl sz3 (by decide) (.tmp rfl) rfl)) (opsS_cons (.guarded _ (an 3 rfl rfl rfl (an 4 rfl rfl rfl Av.nil)) rfl rfl rfl rfl (fun hb => (Ob.uncond (t := 12) hb rfl (ob_load rfl tk3 (.tmp rfl) (.tail _ (.head _)) (lg_api_Op_Kind p1))))) (opsS_cons (.guarded _ (an 3 rfl rfl rfl (an 5 rfl rfl rfl Av.nil)) rfl rfl rfl rfl (fun hb => (Ob.uncond (t := 13) hb rfl (ob_eql rfl (.tmp rfl) (opd_int rfl))))) (oc (an 3 rfl rfl rfl (an 6 rfl rfl rfl Av.nil)) rfl rfl (ob_or2 rfl (.tmp rfl) opd_bool (.tmp rfl)) (oc (av 1 rfl rfl Av.nil) rfl rfl (ob_fieldAddr (off' := 3) rfl Try.underlying44 rfl sz3 (by decide) (.tmp rfl) rfl) (oc (an 8 rfl rfl rfl Av.nil) rfl rfl (ob_load rfl tk3 (.tmp rfl) (.tail _ (.head _)) (lg_api_Op_Kind p1)) (oc (an 9 rfl rfl rfl Av.nil) rfl rfl (ob_eql rfl (.tmp rfl) (opd_int rfl)) (oc (av 1 rfl rfl Av.nil) rfl rfl (ob_fieldAddr (off' := 3) rfl Try.underlying44 rfl sz3 (by decide) (.tmp rfl) rfl) (oc (an 11 rfl rfl rfl Av.nil) rfl rfl (ob_load rfl tk3 (.tmp rfl) (.tail _ (.head _)) (lg_api_Op_Kind p1)) (oc (an 12 rfl rfl rfl Av.nil) rfl rfl (ob_eql rfl (.tmp rfl) (opd_int rfl)) (oc (an 7 rfl rfl rfl Av.nil) rfl rfl (ob_assign rfl (.tmp rfl)) (oc (an 10 rfl rfl rfl Av.nil) rfl rfl (ob_assign rfl (.tmp rfl)) opsS_nil)))))))))))))))) (out_old (t := 1) rfl rfl (out_old (t := 3) rfl rfl (out_new (i := 14) (by decide) rfl rfl (out_new (i := 15) (by decide) rfl rfl (out_new (i := 13) (by decide) rfl rfl out_nil))))) fun _ _ s9 => ?_
 refine qs s9 (.c1 rfl (ob_assign rfl (.tmp rfl)) (.ce (u 1 rfl (u 3 rfl (u 4 rfl (u 5 rfl (u 6 rfl .nil))))))) fun _ _ s11 => wn hK3 ?_; clear s9
 refine wp_seq_k fun K4 hK4 => wp_block ?_
 obtain ⟨x2, e_x2, h2⟩ := bind_some h1; clear h1
 obtain ⟨x3, e_x3, h3⟩ := bind_some h2; clear h2; replace e_x3 := Option.some.inj e_x3
 refine wp_seq_k fun K5 hK5 => wp_region_lit (qs s11 (.c1 rfl (ob_fieldAddr (off' := 0) rfl Try.underlying44 rfl sz3 (by decide) (.tmp rfl) rfl) (.c1 rfl (ob_load rfl tk3 (.tmp rfl) (.tail _ (.head _)) (lg_api_Op_Author p1)) (.c1 rfl (ob_callD0 (args := [_]) rfl .direct hb136 (fun a w s => by exact c_frame_member k _ _ e_x2 _ _ _ (s.arg (.tmp rfl)))) (.c1 rfl (ob_not rfl (.tmp rfl)) (.c1 rfl (mv rfl rfl) (.cg rfl rfl rfl rfl (fun hb => ob_fieldAddr (off' := 1) rfl Try.underlying44 rfl sz25 (by decide) (.tmp rfl) rfl) (.cg rfl rfl rfl rfl (fun hb => (Ob.uncond (t := 28) hb rfl (ob_load rfl tk25 (.tmp rfl) (.tail _ (.head _)) (lg_api_Op_Seq p1)))) (.cg rfl rfl rfl rfl (fun hb => (Ob.uncond (t := 29) hb rfl (ob_eql rfl (.tmp rfl) (opd_int rfl)))) (.c1 rfl (ob_or2 rfl (.tmp rfl) opd_bool (.tmp rfl)) (.c1 rfl (mv rfl rfl) (.cg rfl rfl rfl rfl (fun hb => ob_fieldAddr (off' := 3) rfl Try.underlying44 rfl sz3 (by decide) (.tmp rfl) rfl) (.cg rfl rfl rfl rfl (fun hb => (Ob.uncond (t := 33) hb rfl (ob_load rfl tk3 (.tmp rfl) (.tail _ (.head _)) (lg_api_Op_Kind p1)))) (.cg rfl rfl rfl rfl (fun hb => (Ob.uncond (t := 34) hb rfl (ob_lss rfl (.tmp rfl) (opd_int rfl)))) (.c1 rfl ((ob_or2 rfl (.tmp rfl) opd_bool (.tmp rfl)).nm e_x3) (.c1 rfl (mv rfl rfl) (.cg rfl rfl rfl rfl (fun hb => ob_fieldAddr (off' := 3) rfl Try.underlying44 rfl sz3 (by decide) (.tmp rfl) rfl) (.cg rfl rfl rfl rfl (fun hb => (Ob.uncond (t := 38) hb rfl (ob_load rfl tk3 (.tmp rfl) (.tail _ (.head _)) (lg_api_Op_Kind p1)))) (.cg rfl rfl rfl rfl (fun hb => (Ob.uncond (t := 39) hb rfl (ob_gtr rfl (.tmp rfl) (opd_int rfl)))) (.c1 rfl (ob_or2 rfl (.tmp rfl) opd_bool (.tmp rfl)) (.c1 rfl (ob_assign rfl (.tmp rfl)) (.ce (u 1 rfl (u 3 rfl (u 4 rfl (u 5 rfl (u 6 rfl (u 22 rfl .nil))))))))))))))))))))))))))) fun _ _ s32 => wn hK5 ?_); clear s11
 refine cond_split s32 (.tmp rfl) (fun hc1 => ?_) (fun hc1 => ?_)
 ·have h4 := ite_t hc1 h3; clear h3
  refine wp_seq_k fun K6 hK6 => wp_region_lit (qs s32 (.c1 rfl (ob_assign rfl opd_bool) (.ce (u 2 rfl .nil))) fun _ _ s34 => wn hK6 ?_); clear s32
  have s35 := St.drop (A := []) s34; clear s34
  have s36 := St.drop (A := []) s35; clear s35
  refine wp_ret ?_
  obtain rfl := Option.some.inj h4
  exact leave s36 (.inl rfl) rfl (.cons (.tmp rfl) .nil)
 ·have h5 := ite_f hc1 h3; clear h3
  obtain ⟨x4, e_x4, h6⟩ := bind_some h5; clear h5
  obtain ⟨x5, e_x5, h7⟩ := bind_some h6; clear h6; replace e_x5 := Option.some.inj e_x5
  obtain ⟨x6, e_x6, h8⟩ := bind_some h7; clear h7; replace e_x6 := Option.some.inj e_x6
  refine wp_seq_k fun K7 hK7 => wp_region_lit (qs s32 (.c1 rfl (ob_fieldAddr (off' := 2) rfl Try.underlying44 rfl sz40 (by decide) (.tmp rfl) rfl) (.c1 rfl (ob_load rfl tk40 (.tmp rfl) (.tail _ (.head _)) (lg_api_Op_Parents p1)) (.c1 rfl (ob_lens rfl Try.underlying40 (.tmp rfl)) (.c1 rfl (ob_gtr rfl (.tmp rfl) (opd_int rfl)) (.c1 rfl (mv rfl rfl) (.cg rfl rfl rfl rfl (fun hb => ob_fieldAddr (off' := 2) rfl Try.underlying44 rfl sz40 (by decide) (.tmp rfl) rfl) (.cg rfl rfl rfl rfl (fun hb => (Ob.uncond (t := 48) hb rfl (ob_load rfl tk40 (.tmp rfl) (.tail _ (.head _)) (lg_api_Op_Parents p1)))) (.cg rfl rfl rfl rfl (fun hb => (Ob.uncond (t := 49) hb rfl (((ob_mkObj (K0 := (ko_api_Key__1 Value.nilFunc)) (K := (ko_api_Key__1 (Value.func (.func 137) #[] #[]))) (X := (⟨p1.Parents, ()⟩ : api_Key_)) rfl Try.underlying156 zz156 rfl rfl pl156 (Zr.iso (f := to_api_Key__1) (x := (⟨[], ()⟩ : api_Key_)) (Zr.pair (Zr.sl _) (Zr.pair Zr.nilFn Zr.nil))) (.cons (.tmp rfl) rfl (LSK.of (lso_api_Key__1_l (⟨[], ()⟩ : api_Key_) p1.Parents)) (.cons (.conv .func (is_kis rfl rfl rfl)) rfl (lsk_api_Key__1_to_1_at1 (⟨p1.Parents, ()⟩ : api_Key_)) (.nil _ _)))).as (fun ok w v h => h) : Ob _ _ _ _ _ (k_api_Key_.V (⟨p1.Parents, ()⟩ : api_Key_)))))) (.cg rfl rfl rfl rfl (fun hb => (Ob.uncond (t := 50) hb rfl (ob_callD0 (args := [_]) rfl .direct hb138 (fun a w s => by exact c_frame_row_api_Key_rising k _ _ (ite_t hb e_x4) _ _ _ (s.arg (.tmp rfl)))))) (.cg rfl rfl rfl rfl (fun hb => (Ob.uncond (t := 51) hb rfl (ob_not rfl (.tmp rfl)))) (.c1 rfl ((ob_or2 rfl (.tmp rfl) opd_bool (.tmp rfl)).nm e_x5) (.c1 rfl (mv rfl rfl) (.cg rfl rfl rfl rfl (fun hb => ob_move rfl (.tmp rfl)) (.cg rfl rfl rfl rfl (fun hb => ob_fieldAddr (off' := 2) rfl Try.underlying44 rfl sz40 (by decide) (.tmp rfl) rfl) (.cg rfl rfl rfl rfl (fun hb => (Ob.uncond (t := 56) hb rfl (ob_load rfl tk40 (.tmp rfl) (.tail _ (.head _)) (lg_api_Op_Parents p1)))) (.cg rfl rfl rfl rfl (fun hb => (Ob.uncond (t := 57) hb rfl (ob_lens rfl Try.underlying40 (.tmp rfl)))) (.cg rfl rfl rfl rfl (fun hb => (Ob.uncond (t := 58) hb rfl (ob_eql rfl (.tmp rfl) (opd_int rfl)))) (.cg rfl rfl rfl rfl (fun hb => (Ob.uncond (t := 59) hb rfl ((Ob.uncond (t := 55) hb rfl ((ob_bneq rfl Try.underlying4 (.tmp rfl) (.tmp rfl)).nm e_x6))))) (.c1 rfl (ob_or2 rfl (.tmp rfl) opd_bool (.tmp rfl)) (.c1 rfl (mv rfl rfl) (.cg rfl rfl rfl rfl (fun hb => ob_move rfl (.tmp rfl)) (.cg rfl rfl rfl rfl (fun hb => (Ob.uncond (t := 63) hb rfl (mv rfl rfl))) .cz)))))))))))))))))))))) fun _ _ s58 => ?_); clear s32
  refine seq_opg2 s58 rfl rfl rfl rfl (of_decide_eq_true rfl) (fun hb => ob_fieldAddr (off' := 1) rfl Try.underlying44 rfl sz25 (by decide) (.tmp rfl) rfl) fun _ _ s59 => ?_; clear s58
  refine seq_opg2 s59 rfl rfl rfl rfl (of_decide_eq_true rfl) (fun hb => (Ob.uncond (t := 65) hb rfl (ob_load rfl tk25 (.tmp rfl) (.tail _ (.head _)) (lg_api_Op_Seq p1)))) fun _ _ s60 => ?_; clear s59
  refine seq_opg2 s60 rfl rfl rfl rfl (of_decide_eq_true rfl) (fun hb => (Ob.uncond (t := 66) hb rfl (ob_neq rfl (.tmp rfl) (opd_int rfl)))) fun _ _ s61 => ?_; clear s60
  obtain ⟨x7, e_x7, h9⟩ := bind_some h8; clear h8; replace e_x7 := Option.some.inj e_x7
  refine qs s61 (.cg rfl rfl rfl rfl (fun hb => (Ob.uncond (t := 64) hb rfl (ob_and3 hb rfl (.tmp rfl) (.tmp rfl) opd_bool))) (.c1 rfl ((ob_or2 rfl (.tmp rfl) opd_bool (.tmp rfl)).nm e_x7) (.c1 rfl (ob_assign rfl (.tmp rfl)) (.ce (u 1 rfl (u 3 rfl (u 4 rfl (u 5 rfl (u 42 rfl .nil))))))))) fun _ _ s65 => wn hK7 ?_; clear s61
  refine cond_split s65 (.tmp rfl) (fun hc2 => ?_) (fun hc2 => ?_)
  ·have h10 := ite_t hc2 h9; clear h9
   refine wp_seq_k fun K8 hK8 => wp_region_lit (qs s65 (.c1 rfl (ob_assign rfl opd_bool) (.ce (u 2 rfl .nil))) fun _ _ s67 => wn hK8 ?_); clear s65
   have s68 := St.drop (A := []) s67; clear s67
   have s69 := St.drop (A := []) s68; clear s68
   refine wp_ret ?_
   obtain rfl := Option.some.inj h10
   exact leave s69 (.inl rfl) rfl (.cons (.tmp rfl) .nil)
  ·have h11 := ite_f hc2 h9; clear h9
   obtain ⟨x8, e_x8, h12⟩ := bind_some h11; clear h11; replace e_x8 := Option.some.inj e_x8
   obtain ⟨x9, e_x9, h13⟩ := bind_some h12; clear h12; replace e_x9 := Option.some.inj e_x9
   obtain ⟨x10, e_x10, h14⟩ := bind_some h13; clear h13; replace e_x10 := Option.some.inj e_x10
   obtain ⟨x11, e_x11, h15⟩ := bind_some h14; clear h14; replace e_x11 := Option.some.inj e_x11
   refine wp_seq_k fun K9 hK9 => wp_region_lit (qs s65 (.c1 rfl (mv rfl rfl) (.c1 rfl (ob_fieldAddr (off' := 5) rfl Try.underlying44 rfl sz39 (by decide) (.tmp rfl) rfl) (.c1 rfl (ob_load rfl tk39 (.tmp rfl) (.tail _ (.head _)) (lg_api_Op_Of p1)) (.c1 rfl (ob_load rfl tk39 (.tmp rfl) (.head _) (LG.refl _ _)) (.c1 rfl (ob_neqAgg rfl rfl (by kernel_rfl) eq39 (by decide) (.tmp rfl) (.tmp rfl)) (.c1 rfl ((ob_bneq rfl Try.underlying4 (.tmp rfl) (.tmp rfl)).nm e_x8) (.c1 rfl (mv rfl rfl) (.cg rfl rfl rfl rfl (fun hb => ob_move rfl (.tmp rfl)) (.cg rfl rfl rfl rfl (fun hb => ob_fieldAddr (off' := 37) rfl Try.underlying44 rfl sz39 (by decide) (.tmp rfl) rfl) (.cg rfl rfl rfl rfl (fun hb => (Ob.uncond (t := 79) hb rfl (ob_load rfl tk39 (.tmp rfl) (.tail _ (.head _)) (lg_api_Op_Check p1)))) (.cg rfl rfl rfl rfl (fun hb => ob_load rfl tk39 (.tmp rfl) (.head _) (LG.refl _ _)) (.cg rfl rfl rfl rfl (fun hb => (Ob.uncond (t := 81) hb rfl ((Ob.uncond (t := 80) hb rfl (ob_neqAgg rfl rfl (by kernel_rfl) eq39 (by decide) (.tmp rfl) (.tmp rfl)))))) (.cg rfl rfl rfl rfl (fun hb => (Ob.uncond (t := 82) hb rfl ((Ob.uncond (t := 78) hb rfl (ob_beql rfl Try.underlying4 (.tmp rfl) (.tmp rfl)))))) (.c1 rfl ((ob_or2 rfl (.tmp rfl) opd_bool (.tmp rfl)).nm e_x9) (.c1 rfl (mv rfl rfl) (.cg rfl rfl rfl rfl (fun hb => ob_move rfl (.tmp rfl)) (.cg rfl rfl rfl rfl (fun hb => ob_fieldAddr (off' := 69) rfl Try.underlying44 rfl sz9 (by decide) (.tmp rfl) rfl) (.cg rfl rfl rfl rfl (fun hb => (Ob.uncond (t := 87) hb rfl (ob_load rfl tk9 (.tmp rfl) (.tail _ (.head _)) (lg_api_Op_Text p1)))) (.cg rfl rfl rfl rfl (fun hb => (Ob.uncond (t := 88) hb rfl (ob_lenStr rfl Try.underlying9 (.tmp rfl)))) (.cg rfl rfl rfl rfl (fun hb => (Ob.uncond (t := 89) hb rfl (ob_gtr rfl (.tmp rfl) (opd_int rfl)))) (.cg rfl rfl rfl rfl (fun hb => (Ob.uncond (t := 90) hb rfl ((Ob.uncond (t := 86) hb rfl ((ob_bneq rfl Try.underlying4 (.tmp rfl) (.tmp rfl)).nm e_x10))))) (.c1 rfl (ob_or2 rfl (.tmp rfl) opd_bool (.tmp rfl)) (.c1 rfl (mv rfl rfl) (.cg rfl rfl rfl rfl (fun hb => ob_fieldAddr (off' := 69) rfl Try.underlying44 rfl sz9 (by decide) (.tmp rfl) rfl) (.cg rfl rfl rfl rfl (fun hb => (Ob.uncond (t := 94) hb rfl (ob_load rfl tk9 (.tmp rfl) (.tail _ (.head _)) (lg_api_Op_Text p1)))) (.cg rfl rfl rfl rfl (fun hb => (Ob.uncond (t := 95) hb rfl (ob_lenStr rfl Try.underlying9 (.tmp rfl)))) (.cg rfl rfl rfl rfl (fun hb => (Ob.uncond (t := 96) hb rfl (ob_gtr rfl (.tmp rfl) (opd_int rfl)))) (.c1 rfl ((ob_or2 rfl (.tmp rfl) opd_bool (.tmp rfl)).nm e_x11) (.c1 rfl (ob_assign rfl (.tmp rfl)) (.ce (u 1 rfl (u 70 rfl .nil)))))))))))))))))))))))))))))))) fun _ _ s99 => wn hK9 ?_); clear s65
   have s100 := St.drop (A := []) s99; clear s99
   refine cond_split s100 (.tmp rfl) (fun hc3 => ?_) (fun hc3 => ?_)
   ·have h16 := ite_t hc3 h15; clear h15
    refine wp_seq_k fun K10 hK10 => wp_region_lit (qs s100 (.c1 rfl (ob_assign rfl opd_bool) (.ce (u 2 rfl .nil))) fun _ _ s102 => wn hK10 ?_); clear s100
    have s103 := St.drop (A := []) s102; clear s102
    refine wp_ret ?_
    obtain rfl := Option.some.inj h16
    exact leave s103 (.inl rfl) rfl (.cons (.tmp rfl) .nil)
   ·have h17 := ite_f hc3 h15; clear h15
    refine wp_skip ?_
    refine in_normal ?_
    refine then_normal (hK4 _ _ ?_)
    have s104 := s100.sub (u 1 rfl .nil); clear s100
    obtain ⟨x12, e_x12, h18⟩ := bind_some h17; clear h17
    obtain ⟨x13, e_x13, h19⟩ := bind_some h18; clear h18
    refine wp_seq_k fun K11 hK11 => wp_region_lit (qs s104 (.c1 rfl (ob_load rfl tk44 (.tmp rfl) (.head _) (LG.refl _ _)) (.c1 rfl (ob_callD0 (args := [_]) rfl .direct hb139 (fun a w s => by exact c_frame_who k _ _ e_x12 _ _ _ (s.arg (.tmp rfl)))) (.c1 rfl (mv rfl rfl) (.cg rfl rfl rfl rfl (fun hb => ob_load rfl tk44 (.tmp rfl) (.head _) (LG.refl _ _)) (.cg rfl rfl rfl rfl (fun hb => (Ob.uncond (t := 102) hb rfl (ob_callD0 (args := [_]) rfl .direct hb140 (fun a w s => by exact c_frame_boxes k _ _ (ite_t hb e_x13) _ _ _ (s.arg (.tmp rfl)))))) (.c1 rfl (ob_and2 rfl (.tmp rfl) (.tmp rfl) opd_bool) (.c1 rfl (ob_assign rfl (.tmp rfl)) (.ce (u 2 rfl .nil))))))))) fun _ _ s112 => wn hK11 ?_); clear s104
    have s113 := St.drop (A := []) s112; clear s112
    refine wp_ret ?_
    obtain rfl := Option.some.inj h19
    exact leave s113 (.inl rfl) rfl (.cons (.tmp rfl) .nil)
theorem c_queue_Right (k : Nat) (p1 : (List api_Held)) (r : Bool) (h0 : queue_Right k p1 = some r) (ok : Ok) (w0 : World) (z0 : Value) (u0 : ((ksl k_api_Held).V p1).holds ok w0 z0) :
 Gives Try.prog 71 [z0] ok w0 (resFact [kbool.V r]) := by
 unfold queue_Right at h0
 refine enter (N := 29) Try.func71 rfl rfl (of_decide_eq_true rfl) (.cons u0 .nil) fun a1 s1 => ?_
 refine wp_seq_k fun K1 hK1 => wp_region_lit (qs s1 (.c1 rfl (ob_assign rfl opd_bool) (.ce (u 0 rfl .nil))) fun _ _ s3 => wn hK1 ?_); clear s1
 refine wp_seq_k fun K2 hK2 => wp_seq_k fun K3 hK3 => ?_
 refine wp_region_lit (qs s3 (.c1 rfl (mv rfl rfl) (.c1 rfl (ob_lens rfl Try.underlying85 (.tmp rfl)) (.c1 rfl (ob_gtr rfl (.tmp rfl) (opd_int rfl)) (.ce (u 0 rfl (u 7 rfl .nil)))))) fun _ _ s7 => wn hK3 ?_); clear s3
 refine cond_split s7 (.tmp rfl) (fun hc1 => ?_) (fun hc1 => ?_)
 ·have h1 := ite_t hc1 h0; clear h0
  refine wp_seq_k fun K4 hK4 => wp_region_lit (qs s7 (.c1 rfl (ob_assign rfl opd_bool) (.ce (u 2 rfl .nil))) fun _ _ s9 => wn hK4 ?_); clear s7
  refine wp_ret ?_
  obtain rfl := Option.some.inj h1
  exact leave s9 (.inl rfl) rfl (.cons (.tmp rfl) .nil)
 ·have h2 := ite_f hc1 h0; clear h0
  refine wp_skip ?_
  refine then_normal (hK2 _ _ ?_)
  have s10 := s7.sub (u 0 rfl .nil); clear s7
  refine wp_seq_k fun K5 hK5 => wp_seq_k fun K6 hK6 => ?_
  refine wp_region_lit (qs s10 (.c1 rfl (mv rfl rfl) (.c1 rfl (ob_lens rfl Try.underlying85 (.tmp rfl)) (.c1 rfl (ob_move rfl (opd_int rfl)) (.ce (u 0 rfl (u 8 rfl (u 9 rfl (u 10 rfl .nil)))))))) fun _ _ s14 => wn hK6 ?_); clear s10
  have hj1 : ∀ (a : Act) (w : World), (queue_Right.j1 k) = some r → St ⟨29, w0, ok, []⟩ [] [] a w → K5 a w := by
   intro a15 w15 h3 s15
   unfold queue_Right.j1 at h3
   refine hK5 _ _ ?_
   refine wp_seq_k fun K7 hK7 => wp_region_lit (qs s15 (.c1 rfl (ob_assign rfl opd_bool) (.ce (u 2 rfl .nil))) fun _ _ s17 => wn hK7 ?_); clear s15
   refine wp_ret ?_
   obtain rfl := Option.some.inj h3
   exact leave s17 (.inl rfl) rfl (.cons (.tmp rfl) .nil)
  refine wp_block ?_
  refine wp_loop_fuel (fun m (q : Int) => queue_Right.l1 k p1 m q) r (fun _ => rfl) (fun q a w => St ⟨29, w0, ok, []⟩ [] [(0, ((ksl k_api_Held).V p1)), (8, ((ksl k_api_Held).V p1)), (9, ((kint .i64).V (p1.length : Int))), (10, ((kint .i64).V q))] a w) ?_ k (0 : Int) _ _ h2 (s14.sub (.cons rfl (.cons rfl (.cons rfl (.cons rfl .nil)))))
  rintro n1 y1 a18 w18 h4 s18 K8 hK8
  replace h4 : queue_Right.l1 k p1 (n1 + 1) y1 = some r := h4; rw [queue_Right.l1] at h4
  have h5 := h4; clear h4
  refine wp_seq_k fun K9 hK9 => wp_region_lit (qs s18 (.c1 rfl (ob_lss rfl (.tmp rfl) (.tmp rfl)) (.ce (u 0 rfl (u 8 rfl (u 9 rfl (u 10 rfl (u 11 rfl .nil))))))) fun _ _ s20 => wn hK9 ?_); clear s18
  refine wp_seq_k fun K10 hK10 => ?_
  refine cond_split s20 (.tmp rfl) (fun hc2 => ?_) (fun hc2 => ?_)
  ·have h6 := ite_t hc2 h5; clear h5
   refine wp_skip ?_
   refine then_normal (hK10 _ _ ?_)
   have s21 := s20.sub (u 0 rfl (u 8 rfl (u 9 rfl (u 10 rfl .nil)))); clear s20
   refine wp_seq_k fun K11 hK11 => wp_block ?_
   obtain ⟨x1, e_x1, h7⟩ := bind_some h6; clear h6
   refine wp_seq_k fun K12 hK12 => wp_region_lit (qs s21 (.c1 rfl (mv rfl rfl) (.c1 rfl (ob_indexAddrs rfl Try.underlying85 sz91 (.tmp rfl) (.tmp rfl) e_x1) (.c1 rfl (ob_loadr rfl tk91 (.tmp rfl)) .cz))) fun _ _ s24 => ?_); clear s21
   refine qx (B' := (fun b1 : Nat => [BF b1 91 k_api_Held (⟨(List.replicate 32 (0 : Int)), (⟨(0 : Int), (0 : Int), [], (0 : Int), [], (List.replicate 32 (0 : Int)), (List.replicate 32 (0 : Int)), [], []⟩ : api_Op), []⟩ : api_Held)])) s24 rfl (ob_new (k := k_api_Held) rfl zz91 (Zr.iso (f := t_api_Held) (x := (⟨(List.replicate 32 (0 : Int)), (⟨(0 : Int), (0 : Int), [], (0 : Int), [], (List.replicate 32 (0 : Int)), (List.replicate 32 (0 : Int)), [], []⟩ : api_Op), []⟩ : api_Held)) (Zr.pair (Zr.arr 32 (Zr.int .u8)) (Zr.pair (Zr.iso (f := t_api_Op) (x := (⟨(0 : Int), (0 : Int), [], (0 : Int), [], (List.replicate 32 (0 : Int)), (List.replicate 32 (0 : Int)), [], []⟩ : api_Op)) (Zr.pair (Zr.int .i64) (Zr.pair (Zr.int .u32) (Zr.pair (Zr.sl _) (Zr.pair (Zr.int .i64) (Zr.pair (Zr.sl _) (Zr.pair (Zr.arr 32 (Zr.int .u8)) (Zr.pair (Zr.arr 32 (Zr.int .u8)) (Zr.pair Zr.str (Zr.pair (Zr.sl _) Zr.nil)))))))))) (Zr.pair (Zr.sl _) Zr.nil))))) fun b1 _ _ s25 => ?_; clear s24
   refine qs s25 (.c1 rfl (ob_assign rfl (.tmp rfl)) .cz) fun _ _ s26 => ?_; clear s25
   refine seq_opx0 (B' := (fun _ : Unit => [BF b1 91 k_api_Held x1])) s26 rfl rfl (ob_store (A := []) rfl tk91 (.tmp rfl) (.tmp rfl) rfl (LS.refl _ _ _) rfl) fun _ a27 w27 s27 => ?_; clear s26
   refine wn hK12 ?_
   have s28 := s27.sub (u 0 rfl (u 3 rfl (u 4 rfl (u 8 rfl (u 9 rfl (u 10 rfl .nil)))))); clear s27
   refine wp_seq_k fun K13 hK13 => ?_
   obtain ⟨x2, e_x2, h8⟩ := bind_some h7; clear h7
   refine wp_goes (Fs := [((ksl k_api_Held).V p1), ((kint .i64).V y1), ((ksl k_api_Held).V x2), (ptrB b1 0), ((karr 32 (kint .u8)).V x1.Id)]) (bits := [0, 0, 3, 0, 8, 31, 63, 127, 255, 511, 1023, 2047, 4095]) (m := 5) (todo := 0) mx s28 ?_; clear s28
   refine goes_last (by kernel_rfl) rfl (oc (av 0 rfl rfl Av.nil) rfl rfl (mv rfl rfl) (oc (av 3 rfl rfl Av.nil) rfl rfl (mv rfl rfl) (oc (an 0 rfl rfl rfl (an 1 rfl rfl rfl Av.nil)) rfl rfl (ob_cuts rfl Try.underlying85 sz91 (.tmp rfl) .none (.some (.tmp rfl)) e_x2) (oc (av 4 rfl rfl Av.nil) rfl rfl (ob_fieldAddr (off' := 0) rfl Try.underlying91 rfl sz39 (by decide) (.tmp rfl) rfl) (oc (an 3 rfl rfl rfl Av.nil) rfl rfl (ob_load rfl tk39 (.tmp rfl) (.head _) (lg_api_Held_Id x1)) opsS_nil))))) (out_old (t := 0) rfl rfl (out_old (t := 4) rfl rfl (out_old (t := 8) rfl rfl (out_old (t := 9) rfl rfl (out_old (t := 10) rfl rfl (out_new (i := 2) (by decide) rfl rfl (out_new (i := 4) (by decide) rfl rfl out_nil))))))) fun _ _ s29 => ?_
   obtain ⟨x3, e_x3, h9⟩ := bind_some h8; clear h8
   obtain ⟨x4, e_x4, h10⟩ := bind_some h9; clear h9
   refine qs s29 (.c1 rfl (ob_callD0 (args := [_, _]) rfl .direct hb72 (fun a w s => by exact c_queue_Find k _ _ _ e_x3 _ _ _ _ (s.arg (.tmp rfl)) (s.arg (.tmp rfl)))) (.c1 rfl (ob_geq rfl (.tmp rfl) (opd_int rfl)) (.c1 rfl (mv rfl rfl) (.cg rfl rfl rfl rfl (fun hb => ob_fieldAddr (off' := 32) rfl Try.underlying91 rfl sz44 (by decide) (.tmp rfl) rfl) (.cg rfl rfl rfl rfl (fun hb => (Ob.uncond (t := 23) hb rfl (ob_load rfl tk44 (.tmp rfl) (.head _) (lg_api_Held_Op x1)))) (.cg rfl rfl rfl rfl (fun hb => (Ob.uncond (t := 24) hb rfl (ob_callD0 (args := [_]) rfl .direct hb91 (fun a w s => by exact c_frame_Right k _ _ (ite_t hb e_x4) _ _ _ (s.arg (.tmp rfl)))))) (.cg rfl rfl rfl rfl (fun hb => (Ob.uncond (t := 25) hb rfl (ob_not rfl (.tmp rfl)))) (.c1 rfl (ob_or2 rfl (.tmp rfl) opd_bool (.tmp rfl)) (.ce (u 0 rfl (u 8 rfl (u 9 rfl (u 10 rfl (u 27 rfl .nil)))))))))))))) fun _ _ s38 => wn hK13 ?_; clear s29
   have s39 := St.drop (A := []) s38; clear s38
   refine cond_split s39 (.tmp rfl) (fun hc3 => ?_) (fun hc3 => ?_)
   ·have h11 := ite_t hc3 h10; clear h10
    refine wp_seq_k fun K14 hK14 => wp_region_lit (qs s39 (.c1 rfl (ob_assign rfl opd_bool) (.ce (u 2 rfl .nil))) fun _ _ s41 => wn hK14 ?_); clear s39
    refine wp_ret ?_
    obtain rfl := Option.some.inj h11
    exact leave s41 (.inl rfl) rfl (.cons (.tmp rfl) .nil)
   ·have h12 := ite_f hc3 h10; clear h10
    refine wp_skip ?_
    refine in_normal ?_
    refine then_normal (hK11 _ _ ?_)
    have s42 := s39.sub (u 0 rfl (u 8 rfl (u 9 rfl (u 10 rfl .nil)))); clear s39
    refine wp_region_lit (qs s42 (.c1 rfl (ob_add rfl (.tmp rfl) (opd_int rfl)) (.c1 rfl (mv rfl rfl) .cz)) fun _ _ s44 => ?_); clear s42
    refine wpList_nil ?_
    refine then_normal ?_
    exact hK8 (iadd .i64 y1 (1 : Int)) _ _ h12 (s44.sub (.cons rfl (.cons rfl (.cons rfl (.cons rfl .nil)))))
  ·have h13 := ite_f hc2 h5; clear h5
   refine wp_exit ?_
   refine (then_exit (then_exit (in_here ?_)))
   refine then_normal ?_
   exact hj1 _ _ h13 (s20.sub .nil)
theorem c_slices_Clone_api_Key_api_Key (k : Nat) (p1 : (List (List Int))) (r : (List (List Int))) (h0 : slices_Clone_api_Key_api_Key k p1 = some r) (ok : Ok) (w0 : World) (z0 : Value) (u0 : ((ksl (karr 32 (kint .u8))).V p1).holds ok w0 z0) :
 GivesX Try.prog 142 [z0] ok w0 [] (fun g : Value => resFact [is g]) (fun g : Value => [RowF (g) 39 (karr 32 (kint .u8)) r]) := by
 unfold slices_Clone_api_Key_api_Key at h0
 refine enterX (N := 8) Try.func142 rfl rfl (of_decide_eq_true rfl) (.cons u0 .nil) List.nodup_nil (fun _ h => by cases h) (fun _ h => by cases h) fun a1 s1 => ?_
 refine wp_seq_k fun K1 hK1 => wp_region_lit (qs s1 (.c1 rfl (ob_assign rfl opd_is) .cz) fun _ _ s2 => ?_); clear s1
 have s3 := St.adopt s2 (G := RowF (nilRow 7) 39 (karr 32 (kint .u8)) []) rfl (rowNilN _ _ _ _ _); clear s2
 refine wn hK1 ?_
 have s4 := s3.sub (u 0 rfl .nil); clear s3
 have s5 := St.drop (A := []) s4; clear s4
 refine wp_seq_k fun K2 hK2 => wp_seq_k fun K3 hK3 => ?_
 refine wp_region_lit (qs s5 (.c1 rfl (mv rfl rfl) (.c1 rfl (ob_slNil rfl Try.underlying40 (.tmp rfl)) (.ce (u 0 rfl (u 4 rfl .nil))))) fun _ _ s8 => wn hK3 ?_); clear s5
 refine cond_nil s8 (.tmp rfl) (fun hnil => ?_) ?_
 ·subst hnil
  have h1 : some ([] : (List (List Int))) = some r := by first | exact h0 | simpa using h0
  refine wp_seq_k fun K4 hK4 => wp_region_lit (qs s8 (.c1 rfl (ob_assign rfl opd_is) .cz) fun _ _ s9 => ?_); clear s8
  have s10 := St.adopt s9 (G := RowF (nilRow 8) 39 (karr 32 (kint .u8)) []) rfl (rowNilN _ _ _ _ _); clear s9
  refine wn hK4 ?_
  have s11 := s10.sub (u 2 rfl .nil); clear s10
  refine wp_ret ?_
  obtain rfl := Option.some.inj h1
  exact leaveXD (D := []) (nilRow 8) s11 rfl (.inl rfl) rfl (.cons (.tmp rfl) .nil) rfl
 ·
  refine wp_skip ?_
  refine then_normal (hK2 _ _ ?_)
  have s12 := s8.sub (u 0 rfl .nil); clear s8
  refine wp_seq_k fun K5 hK5 => wp_region_lit ?_
  refine qx (B' := (fun v1 : Value => [RowF v1 39 (karr 32 (kint .u8)) ([] : List (List Int))])) s12 rfl (ob_emptyRow (k := (karr 32 (kint .u8))) rfl Try.underlying40 sz39) fun v1 _ _ s13 => ?_; clear s12
  obtain ⟨g1, h2⟩ := guard_some h0; clear h0
  refine qs s13 (.c1 rfl (mv rfl rfl) .cz) fun _ _ s14 => ?_; clear s13
  refine qx (B' := (fun v2 : Value => [RowF v2 39 (karr 32 (kint .u8)) (([] : List (List Int)) ++ p1)])) s14 rfl (ob_appendL2 (A := []) rfl Try.underlying40 ap39 (Zr.arr 32 (Zr.int .u8)) (by decide) (.tmp rfl) (.tmp rfl) rfl g1) fun v2 _ _ s15 => ?_; clear s14
  refine qs s15 (.c1 rfl (ob_assign rfl (.tmp rfl)) (.ce (u 2 rfl .nil))) fun _ _ s17 => wn hK5 ?_; clear s15
  refine wp_ret ?_
  obtain rfl := Option.some.inj h2
  exact leaveXD (D := []) v2 s17 rfl (.inl rfl) rfl (.cons (.tmp rfl) .nil) rfl
theorem c_slices_Clone_int_int (k : Nat) (p1 : (List Int)) (r : (List Int)) (h0 : slices_Clone_int_int k p1 = some r) (ok : Ok) (w0 : World) (z0 : Value) (u0 : ((ksl (kint .i64)).V p1).holds ok w0 z0) :
 GivesX Try.prog 80 [z0] ok w0 [] (fun g : Value => resFact [is g]) (fun g : Value => [RowF (g) 3 (kint .i64) r]) := by
 unfold slices_Clone_int_int at h0
 refine enterX (N := 8) Try.func80 rfl rfl (of_decide_eq_true rfl) (.cons u0 .nil) List.nodup_nil (fun _ h => by cases h) (fun _ h => by cases h) fun a1 s1 => ?_
 refine wp_seq_k fun K1 hK1 => wp_region_lit (qs s1 (.c1 rfl (ob_assign rfl opd_is) .cz) fun _ _ s2 => ?_); clear s1
 have s3 := St.adopt s2 (G := RowF (nilRow 9) 3 (kint .i64) []) rfl (rowNilN _ _ _ _ _); clear s2
 refine wn hK1 ?_
 have s4 := s3.sub (u 0 rfl .nil); clear s3
 have s5 := St.drop (A := []) s4; clear s4
 refine wp_seq_k fun K2 hK2 => wp_seq_k fun K3 hK3 => ?_
 refine wp_region_lit (qs s5 (.c1 rfl (mv rfl rfl) (.c1 rfl (ob_slNil rfl Try.underlying41 (.tmp rfl)) (.ce (u 0 rfl (u 4 rfl .nil))))) fun _ _ s8 => wn hK3 ?_); clear s5
 refine cond_nil s8 (.tmp rfl) (fun hnil => ?_) ?_
 ·subst hnil
  have h1 : some ([] : (List Int)) = some r := by first | exact h0 | simpa using h0
  refine wp_seq_k fun K4 hK4 => wp_region_lit (qs s8 (.c1 rfl (ob_assign rfl opd_is) .cz) fun _ _ s9 => ?_); clear s8
  have s10 := St.adopt s9 (G := RowF (nilRow 10) 3 (kint .i64) []) rfl (rowNilN _ _ _ _ _); clear s9
  refine wn hK4 ?_
  have s11 := s10.sub (u 2 rfl .nil); clear s10
  refine wp_ret ?_
  obtain rfl := Option.some.inj h1
  exact leaveXD (D := []) (nilRow 10) s11 rfl (.inl rfl) rfl (.cons (.tmp rfl) .nil) rfl
 ·
  refine wp_skip ?_
  refine then_normal (hK2 _ _ ?_)
  have s12 := s8.sub (u 0 rfl .nil); clear s8
  refine wp_seq_k fun K5 hK5 => wp_region_lit ?_
  refine qx (B' := (fun v1 : Value => [RowF v1 3 (kint .i64) ([] : List Int)])) s12 rfl (ob_emptyRow (k := (kint .i64)) rfl Try.underlying41 sz3) fun v1 _ _ s13 => ?_; clear s12
  obtain ⟨g1, h2⟩ := guard_some h0; clear h0
  refine qs s13 (.c1 rfl (mv rfl rfl) .cz) fun _ _ s14 => ?_; clear s13
  refine qx (B' := (fun v2 : Value => [RowF v2 3 (kint .i64) (([] : List Int) ++ p1)])) s14 rfl (ob_appendL2 (A := []) rfl Try.underlying41 ap3 (Zr.int .i64) (by decide) (.tmp rfl) (.tmp rfl) rfl g1) fun v2 _ _ s15 => ?_; clear s14
  refine qs s15 (.c1 rfl (ob_assign rfl (.tmp rfl)) (.ce (u 2 rfl .nil))) fun _ _ s17 => wn hK5 ?_; clear s15
  refine wp_ret ?_
  obtain rfl := Option.some.inj h2
  exact leaveXD (D := []) v2 s17 rfl (.inl rfl) rfl (.cons (.tmp rfl) .nil) rfl
theorem c_slices_Clone_api_Box_api_Box (k : Nat) (p1 : (List api_Box)) (r : (List api_Box)) (h0 : slices_Clone_api_Box_api_Box k p1 = some r) (ok : Ok) (w0 : World) (z0 : Value) (u0 : ((ksl k_api_Box).V p1).holds ok w0 z0) :
 GivesX Try.prog 143 [z0] ok w0 [] (fun g : Value => resFact [is g]) (fun g : Value => [RowF (g) 78 k_api_Box r]) := by
 unfold slices_Clone_api_Box_api_Box at h0
 refine enterX (N := 8) Try.func143 rfl rfl (of_decide_eq_true rfl) (.cons u0 .nil) List.nodup_nil (fun _ h => by cases h) (fun _ h => by cases h) fun a1 s1 => ?_
 refine wp_seq_k fun K1 hK1 => wp_region_lit (qs s1 (.c1 rfl (ob_assign rfl opd_is) .cz) fun _ _ s2 => ?_); clear s1
 have s3 := St.adopt s2 (G := RowF (nilRow 11) 78 k_api_Box []) rfl (rowNilN _ _ _ _ _); clear s2
 refine wn hK1 ?_
 have s4 := s3.sub (u 0 rfl .nil); clear s3
 have s5 := St.drop (A := []) s4; clear s4
 refine wp_seq_k fun K2 hK2 => wp_seq_k fun K3 hK3 => ?_
 refine wp_region_lit (qs s5 (.c1 rfl (mv rfl rfl) (.c1 rfl (ob_slNil rfl Try.underlying42 (.tmp rfl)) (.ce (u 0 rfl (u 4 rfl .nil))))) fun _ _ s8 => wn hK3 ?_); clear s5
 refine cond_nil s8 (.tmp rfl) (fun hnil => ?_) ?_
 ·subst hnil
  have h1 : some ([] : (List api_Box)) = some r := by first | exact h0 | simpa using h0
  refine wp_seq_k fun K4 hK4 => wp_region_lit (qs s8 (.c1 rfl (ob_assign rfl opd_is) .cz) fun _ _ s9 => ?_); clear s8
  have s10 := St.adopt s9 (G := RowF (nilRow 12) 78 k_api_Box []) rfl (rowNilN _ _ _ _ _); clear s9
  refine wn hK4 ?_
  have s11 := s10.sub (u 2 rfl .nil); clear s10
  refine wp_ret ?_
  obtain rfl := Option.some.inj h1
  exact leaveXD (D := []) (nilRow 12) s11 rfl (.inl rfl) rfl (.cons (.tmp rfl) .nil) rfl
 ·
  refine wp_skip ?_
  refine then_normal (hK2 _ _ ?_)
  have s12 := s8.sub (u 0 rfl .nil); clear s8
  refine wp_seq_k fun K5 hK5 => wp_region_lit ?_
  refine qx (B' := (fun v1 : Value => [RowF v1 78 k_api_Box ([] : List api_Box)])) s12 rfl (ob_emptyRow (k := k_api_Box) rfl Try.underlying42 sz78) fun v1 _ _ s13 => ?_; clear s12
  obtain ⟨g1, h2⟩ := guard_some h0; clear h0
  refine qs s13 (.c1 rfl (mv rfl rfl) .cz) fun _ _ s14 => ?_; clear s13
  refine qx (B' := (fun v2 : Value => [RowF v2 78 k_api_Box (([] : List api_Box) ++ p1)])) s14 rfl (ob_appendL2 (A := []) rfl Try.underlying42 ap78 (Zr.iso (f := t_api_Box) (x := (⟨(0 : Int), (⟨(List.replicate 32 (0 : Int)), (0 : Int), (0 : Int)⟩ : api_Head), []⟩ : api_Box)) (Zr.pair (Zr.int .i64) (Zr.pair (Zr.iso (f := t_api_Head) (x := (⟨(List.replicate 32 (0 : Int)), (0 : Int), (0 : Int)⟩ : api_Head)) (Zr.pair (Zr.arr 32 (Zr.int .u8)) (Zr.pair (Zr.int .u32) (Zr.pair (Zr.int .u32) Zr.nil)))) (Zr.pair Zr.str Zr.nil)))) (by decide) (.tmp rfl) (.tmp rfl) rfl g1) fun v2 _ _ s15 => ?_; clear s14
  refine qs s15 (.c1 rfl (ob_assign rfl (.tmp rfl)) (.ce (u 2 rfl .nil))) fun _ _ s17 => wn hK5 ?_; clear s15
  refine wp_ret ?_
  obtain rfl := Option.some.inj h2
  exact leaveXD (D := []) v2 s17 rfl (.inl rfl) rfl (.cons (.tmp rfl) .nil) rfl
theorem c_queue_clone (k : Nat) (p1 : api_Held) (r : api_Held) (h0 : queue_clone k p1 = some r) (ok : Ok) (w0 : World) (z0 : Value) (u0 : (k_api_Held.V p1).holds ok w0 z0) :
 Gives Try.prog 118 [z0] ok w0 (resFact [k_api_Held.V r]) := by
 unfold queue_clone at h0
 refine enter (N := 26) Try.func118 rfl rfl (of_decide_eq_true rfl) (.cons u0 .nil) fun a1 s1 => ?_
 refine wp_seq_k fun K1 hK1 => wp_region_lit ?_
 refine qx (B' := (fun b1 : Nat => [BF b1 91 k_api_Held p1])) s1 rfl (ob_box rfl (.tmp rfl)) fun b1 _ _ s2 => ?_; clear s1
 refine qx (B' := (fun b2 : Nat => [BF b2 91 k_api_Held (⟨(List.replicate 32 (0 : Int)), (⟨(0 : Int), (0 : Int), [], (0 : Int), [], (List.replicate 32 (0 : Int)), (List.replicate 32 (0 : Int)), [], []⟩ : api_Op), []⟩ : api_Held), BF b1 91 k_api_Held p1])) s2 rfl (ob_new (k := k_api_Held) rfl zz91 (Zr.iso (f := t_api_Held) (x := (⟨(List.replicate 32 (0 : Int)), (⟨(0 : Int), (0 : Int), [], (0 : Int), [], (List.replicate 32 (0 : Int)), (List.replicate 32 (0 : Int)), [], []⟩ : api_Op), []⟩ : api_Held)) (Zr.pair (Zr.arr 32 (Zr.int .u8)) (Zr.pair (Zr.iso (f := t_api_Op) (x := (⟨(0 : Int), (0 : Int), [], (0 : Int), [], (List.replicate 32 (0 : Int)), (List.replicate 32 (0 : Int)), [], []⟩ : api_Op)) (Zr.pair (Zr.int .i64) (Zr.pair (Zr.int .u32) (Zr.pair (Zr.sl _) (Zr.pair (Zr.int .i64) (Zr.pair (Zr.sl _) (Zr.pair (Zr.arr 32 (Zr.int .u8)) (Zr.pair (Zr.arr 32 (Zr.int .u8)) (Zr.pair Zr.str (Zr.pair (Zr.sl _) Zr.nil)))))))))) (Zr.pair (Zr.sl _) Zr.nil))))) fun b2 _ _ s3 => ?_; clear s2
 refine wn hK1 ?_
 have s4 := s3.sub (u 1 rfl (u 2 rfl .nil)); clear s3
 refine wp_seq_k fun K2 hK2 => ?_
 obtain ⟨x1, e_x1, h1⟩ := bind_some h0; clear h0
 obtain ⟨x2, e_x2, h2⟩ := bind_some h1; clear h1
 obtain ⟨x3, e_x3, h3⟩ := bind_some h2; clear h2
 obtain ⟨x4, e_x4, h4⟩ := bind_some h3; clear h3
 refine wp_goes (Fs := [(ptrB b1 32), (ptrB b1 34), ((ksl (karr 32 (kint .u8))).V p1.Op.Parents), ((ksl (karr 32 (kint .u8))).V x1), (ptrB b1 32), (ptrB b1 36), ((ksl (kint .i64)).V p1.Op.Who), ((ksl (kint .i64)).V x2), (ptrB b1 32), (ptrB b1 102), ((ksl k_api_Box).V p1.Op.Boxes), ((ksl k_api_Box).V x3), (ptrB b1 103), ((ksl (karr 32 (kint .u8))).V p1.Got), ((ksl (karr 32 (kint .u8))).V x4), (ptrB b1 32), (ptrB b1 34)]) (bits := [0, 1, 3, 7, 0, 16, 48, 127, 0, 256, 768, 2047, 0, 4096, 16383, 14207, 46975, 131071, 262143, 524287, 1048575, 2097151, 4194303, 8388607, 16777215, 33554431]) (m := 17) (todo := 0) mx s4 ?_; clear s4
 refine goes_last (by kernel_rfl) rfl (oc (av 1 rfl rfl Av.nil) rfl rfl (ob_fieldAddr (off' := 32) rfl Try.underlying91 rfl sz44 (by decide) (.tmp rfl) rfl) (oc (an 0 rfl rfl rfl Av.nil) rfl rfl (ob_fieldAddr (off' := 34) rfl Try.underlying44 rfl sz40 (by decide) (.tmp rfl) rfl) (oc (an 1 rfl rfl rfl Av.nil) rfl rfl (ob_load rfl tk40 (.tmp rfl) (.tail _ (.head _)) (LG.trans (lg_api_Held_Op p1) (lg_api_Op_Parents p1.Op) (by decide))) (oc (an 2 rfl rfl rfl Av.nil) rfl rfl ((ObF.ob (ob_callF (F := resFact [((ksl (karr 32 (kint .u8))).V x1)]) (args := [_]) rfl .direct hb142 (fun a w s fs gs hf hg => by obtain rfl := hf.unnil; obtain rfl := hg.unnil; exact c_slices_Clone_api_Key_api_Key k _ _ e_x1 _ _ _ (s.arg (.tmp rfl))) (by exact fun g => ResF.all (.row (.head _) (KFlat.arr (KFlat.int _)) .nil))))) (oc (av 1 rfl rfl Av.nil) rfl rfl (ob_fieldAddr (off' := 32) rfl Try.underlying91 rfl sz44 (by decide) (.tmp rfl) rfl) (oc (an 4 rfl rfl rfl Av.nil) rfl rfl (ob_fieldAddr (off' := 36) rfl Try.underlying44 rfl sz41 (by decide) (.tmp rfl) rfl) (oc (an 5 rfl rfl rfl Av.nil) rfl rfl (ob_load rfl tk41 (.tmp rfl) (.tail _ (.head _)) (LG.trans (lg_api_Held_Op p1) (lg_api_Op_Who p1.Op) (by decide))) (oc (an 6 rfl rfl rfl Av.nil) rfl rfl ((ObF.ob (ob_callF (F := resFact [((ksl (kint .i64)).V x2)]) (args := [_]) rfl .direct hb80 (fun a w s fs gs hf hg => by obtain rfl := hf.unnil; obtain rfl := hg.unnil; exact c_slices_Clone_int_int k _ _ e_x2 _ _ _ (s.arg (.tmp rfl))) (by exact fun g => ResF.all (.row (.head _) (KFlat.int _) .nil))))) (oc (av 1 rfl rfl Av.nil) rfl rfl (ob_fieldAddr (off' := 32) rfl Try.underlying91 rfl sz44 (by decide) (.tmp rfl) rfl) (oc (an 8 rfl rfl rfl Av.nil) rfl rfl (ob_fieldAddr (off' := 102) rfl Try.underlying44 rfl sz42 (by decide) (.tmp rfl) rfl) (oc (an 9 rfl rfl rfl Av.nil) rfl rfl (ob_load rfl tk42 (.tmp rfl) (.tail _ (.head _)) (LG.trans (lg_api_Held_Op p1) (lg_api_Op_Boxes p1.Op) (by decide))) (oc (an 10 rfl rfl rfl Av.nil) rfl rfl ((ObF.ob (ob_callF (F := resFact [((ksl k_api_Box).V x3)]) (args := [_]) rfl .direct hb143 (fun a w s fs gs hf hg => by obtain rfl := hf.unnil; obtain rfl := hg.unnil; exact c_slices_Clone_api_Box_api_Box k _ _ e_x3 _ _ _ (s.arg (.tmp rfl))) (by exact fun g => ResF.all (.row (.head _) kf_api_Box .nil))))) (oc (av 1 rfl rfl Av.nil) rfl rfl (ob_fieldAddr (off' := 103) rfl Try.underlying91 rfl sz40 (by decide) (.tmp rfl) rfl) (oc (an 12 rfl rfl rfl Av.nil) rfl rfl (ob_load rfl tk40 (.tmp rfl) (.tail _ (.head _)) (lg_api_Held_Got p1)) (oc (an 13 rfl rfl rfl Av.nil) rfl rfl ((ObF.ob (ob_callF (F := resFact [((ksl (karr 32 (kint .u8))).V x4)]) (args := [_]) rfl .direct hb142 (fun a w s fs gs hf hg => by obtain rfl := hf.unnil; obtain rfl := hg.unnil; exact c_slices_Clone_api_Key_api_Key k _ _ e_x4 _ _ _ (s.arg (.tmp rfl))) (by exact fun g => ResF.all (.row (.head _) (KFlat.arr (KFlat.int _)) .nil))))) (oc (av 1 rfl rfl Av.nil) rfl rfl (ob_fieldAddr (off' := 32) rfl Try.underlying91 rfl sz44 (by decide) (.tmp rfl) rfl) (oc (an 15 rfl rfl rfl Av.nil) rfl rfl (ob_fieldAddr (off' := 34) rfl Try.underlying44 rfl sz40 (by decide) (.tmp rfl) rfl) opsS_nil))))))))))))))))) (out_old (t := 1) rfl rfl (out_old (t := 2) rfl rfl (out_new (i := 3) (by decide) rfl rfl (out_new (i := 7) (by decide) rfl rfl (out_new (i := 11) (by decide) rfl rfl (out_new (i := 14) (by decide) rfl rfl (out_new (i := 16) (by decide) rfl rfl out_nil))))))) fun _ _ s5 => ?_
 refine seq_opx0 (B' := (fun _ : Unit => [BF b2 91 k_api_Held (⟨(List.replicate 32 (0 : Int)), (⟨(0 : Int), (0 : Int), [], (0 : Int), [], (List.replicate 32 (0 : Int)), (List.replicate 32 (0 : Int)), [], []⟩ : api_Op), []⟩ : api_Held), BF b1 91 k_api_Held ({ p1 with Op := { p1.Op with Parents := x1 } })])) s5 rfl rfl (ob_store (A := [_]) rfl tk40 (.tmp rfl) (.tmp rfl) rfl (LS.trans (lg_api_Held_Op p1) (ls_api_Op_Parents p1.Op x1) (ls_api_Held_Op p1 ({ p1.Op with Parents := x1 }))) rfl) fun _ a6 w6 s6 => ?_; clear s5
 obtain ⟨x5, e_x5, h5⟩ := bind_some h4; clear h4; replace e_x5 := Option.some.inj e_x5
 obtain ⟨x6, e_x6, h6⟩ := bind_some h5; clear h5; replace e_x6 := Option.some.inj e_x6
 refine qs s6 (.c1 rfl (ob_fieldAddr (off' := 32) rfl Try.underlying91 rfl sz44 (by decide) (.tmp rfl) rfl) (.c1 rfl (ob_fieldAddr (off' := 36) rfl Try.underlying44 rfl sz41 (by decide) (.tmp rfl) rfl) .cz)) fun _ _ s8 => ?_; clear s6
 refine seq_opx0 (B' := (fun _ : Unit => [BF b2 91 k_api_Held (⟨(List.replicate 32 (0 : Int)), (⟨(0 : Int), (0 : Int), [], (0 : Int), [], (List.replicate 32 (0 : Int)), (List.replicate 32 (0 : Int)), [], []⟩ : api_Op), []⟩ : api_Held), BF b1 91 k_api_Held x6])) s8 rfl rfl (ob_store (A := [_]) rfl tk41 (.tmp rfl) (.tmp rfl) rfl (LS.trans (lg_api_Held_Op ({ p1 with Op := { p1.Op with Parents := x1 } })) (LS.to (ls_api_Op_Who (({ p1 with Op := { p1.Op with Parents := x1 } }).Op) x2) e_x5) (LS.to (ls_api_Held_Op ({ p1 with Op := { p1.Op with Parents := x1 } }) x5) e_x6)) rfl) fun _ a9 w9 s9 => ?_; clear s8
 refine qs s9 (.c1 rfl (ob_fieldAddr (off' := 32) rfl Try.underlying91 rfl sz44 (by decide) (.tmp rfl) rfl) (.c1 rfl (ob_fieldAddr (off' := 102) rfl Try.underlying44 rfl sz42 (by decide) (.tmp rfl) rfl) .cz)) fun _ _ s11 => ?_; clear s9
 refine seq_opx0 (B' := (fun _ : Unit => [BF b2 91 k_api_Held (⟨(List.replicate 32 (0 : Int)), (⟨(0 : Int), (0 : Int), [], (0 : Int), [], (List.replicate 32 (0 : Int)), (List.replicate 32 (0 : Int)), [], []⟩ : api_Op), []⟩ : api_Held), BF b1 91 k_api_Held ({ x6 with Op := { x6.Op with Boxes := x3 } })])) s11 rfl rfl (ob_store (A := [_]) rfl tk42 (.tmp rfl) (.tmp rfl) rfl (LS.trans (lg_api_Held_Op x6) (ls_api_Op_Boxes x6.Op x3) (ls_api_Held_Op x6 ({ x6.Op with Boxes := x3 }))) rfl) fun _ a12 w12 s12 => ?_; clear s11
 obtain ⟨x7, e_x7, h7⟩ := bind_some h6; clear h6; replace e_x7 := Option.some.inj e_x7
 refine qs s12 (.c1 rfl (ob_fieldAddr (off' := 103) rfl Try.underlying91 rfl sz40 (by decide) (.tmp rfl) rfl) .cz) fun _ _ s13 => ?_; clear s12
 refine seq_opx0 (B' := (fun _ : Unit => [BF b2 91 k_api_Held (⟨(List.replicate 32 (0 : Int)), (⟨(0 : Int), (0 : Int), [], (0 : Int), [], (List.replicate 32 (0 : Int)), (List.replicate 32 (0 : Int)), [], []⟩ : api_Op), []⟩ : api_Held), BF b1 91 k_api_Held x7])) s13 rfl rfl (ob_store (A := [_]) rfl tk40 (.tmp rfl) (.tmp rfl) rfl (LS.to (ls_api_Held_Got ({ x6 with Op := { x6.Op with Boxes := x3 } }) x4) e_x7) rfl) fun _ a14 w14 s14 => ?_; clear s13
 refine wn hK2 ?_
 have s15 := s14.sub (u 1 rfl (u 2 rfl .nil)); clear s14
 refine wp_seq_k fun K3 hK3 => wp_region_lit (qs s15 (.c1 rfl (ob_load rfl tk91 (.tmp rfl) (.tail _ (.head _)) (LG.refl _ _)) .cz) fun _ _ s16 => ?_); clear s15
 refine seq_opx0 (B' := (fun _ : Unit => [BF b2 91 k_api_Held x7, BF b1 91 k_api_Held x7])) s16 rfl rfl (ob_store (A := []) rfl tk91 (.tmp rfl) (.tmp rfl) rfl (LS.refl _ _ _) rfl) fun _ a17 w17 s17 => ?_; clear s16
 refine wn hK3 ?_
 have s18 := s17.sub (u 2 rfl .nil); clear s17
 have s19 := St.drop (A := [_]) s18; clear s18
 refine wp_ret ?_
 obtain rfl := Option.some.inj h7
 exact leave s19 (.inl rfl) rfl (.cons (.cell rfl tk91 (.head _) (LG.refl _ _)) .nil)
theorem c_queue_copied (k : Nat) (p1 : (List api_Held)) (p2 : Int) (r : (List api_Held)) (h0 : queue_copied k p1 p2 = some r) (ok : Ok) (w0 : World) (z0 : Value) (z1 : Value) (u0 : ((ksl k_api_Held).V p1).holds ok w0 z0) (u1 : ((kint .i64).V p2).holds ok w0 z1) :
 GivesX Try.prog 117 [z0, z1] ok w0 [] (fun g : Value => resFact [is g]) (fun g : Value => [RowF (g) 91 k_api_Held r]) := by
 unfold queue_copied at h0
 refine enterX (N := 25) Try.func117 rfl rfl (of_decide_eq_true rfl) (.cons u0 (.cons u1 .nil)) List.nodup_nil (fun _ h => by cases h) (fun _ h => by cases h) fun a1 s1 => ?_
 refine wp_seq_k fun K1 hK1 => wp_region_lit (qs s1 (.c1 rfl (ob_assign rfl opd_is) .cz) fun _ _ s2 => ?_); clear s1
 have s3 := St.adopt s2 (G := RowF (nilRow 5) 91 k_api_Held []) rfl (rowNilN _ _ _ _ _); clear s2
 refine wn hK1 ?_
 have s4 := s3.sub (u 0 rfl (u 1 rfl .nil)); clear s3
 have s5 := St.drop (A := []) s4; clear s4
 refine wp_seq_k fun K2 hK2 => wp_region_lit (qs s5 (.c1 rfl (ob_assign rfl opd_is) .cz) fun _ _ s6 => ?_); clear s5
 have s7 := St.adopt s6 (G := RowF (nilRow 6) 91 k_api_Held []) rfl (rowNilN _ _ _ _ _); clear s6
 refine wn hK2 ?_
 have s8 := s7.sub (u 0 rfl (u 1 rfl (u 5 rfl .nil))); clear s7
 refine wp_seq_k fun K3 hK3 => wp_seq_k fun K4 hK4 => ?_
 refine wp_region_lit (qs s8 (.c1 rfl (mv rfl rfl) (.c1 rfl (ob_lens rfl Try.underlying85 (.tmp rfl)) (.c1 rfl (ob_move rfl (opd_int rfl)) (.ce (u 1 rfl (u 5 rfl (u 8 rfl (u 9 rfl (u 10 rfl .nil))))))))) fun _ _ s12 => wn hK4 ?_); clear s8
 have hj1 : ∀ (y1 : (List api_Held)) (v1 : Value) (a : Act) (w : World), (queue_copied.j1 k) y1 = some r → St ⟨25, w0, ok, (idsOf [])⟩ [RowF v1 91 k_api_Held y1] [(5, (is v1))] a w → K3 a w := by
  intro y1 v1 a13 w13 h1 s13
  unfold queue_copied.j1 at h1
  refine hK3 _ _ ?_
  refine wp_seq_k fun K5 hK5 => wp_region_lit (qs s13 (.c1 rfl (mv rfl rfl) (.c1 rfl (ob_assign rfl (.tmp rfl)) (.ce (u 4 rfl .nil)))) fun _ _ s16 => wn hK5 ?_); clear s13
  refine wp_ret ?_
  obtain rfl := Option.some.inj h1
  exact leaveXD (D := []) v1 s16 rfl (.inl rfl) rfl (.cons (.tmp rfl) .nil) rfl
 refine wp_block ?_
 refine wp_loop_fuel (fun m (q : Int × (List api_Held)) => queue_copied.l1 k p1 p2 m q.1 q.2) r (fun _ => rfl) (fun q a w => ∃ (v2 : Value), St ⟨25, w0, ok, (idsOf [])⟩ [RowF v2 91 k_api_Held q.2] [(1, ((kint .i64).V p2)), (5, (is v2)), (8, ((ksl k_api_Held).V p1)), (9, ((kint .i64).V (p1.length : Int))), (10, ((kint .i64).V q.1))] a w) ?_ k ((0 : Int), ([] : (List api_Held))) _ _ h0 ⟨(nilRow 6), (s12.sub (.cons rfl (.cons rfl (.cons rfl (.cons rfl (.cons rfl .nil))))))⟩
 rintro n1 ⟨y2, y3⟩ a17 w17 h2 ⟨v2, s17⟩ K6 hK6
 replace h2 : queue_copied.l1 k p1 p2 (n1 + 1) y2 y3 = some r := h2; rw [queue_copied.l1] at h2
 have h3 := h2; clear h2
 refine wp_seq_k fun K7 hK7 => wp_region_lit (qs s17 (.c1 rfl (ob_lss rfl (.tmp rfl) (.tmp rfl)) (.ce (u 1 rfl (u 5 rfl (u 8 rfl (u 9 rfl (u 10 rfl (u 11 rfl .nil)))))))) fun _ _ s19 => wn hK7 ?_); clear s17
 refine wp_seq_k fun K8 hK8 => ?_
 refine cond_split s19 (.tmp rfl) (fun hc1 => ?_) (fun hc1 => ?_)
 ·have h4 := ite_t hc1 h3; clear h3
  refine wp_skip ?_
  refine then_normal (hK8 _ _ ?_)
  have s20 := s19.sub (u 1 rfl (u 5 rfl (u 8 rfl (u 9 rfl (u 10 rfl .nil))))); clear s19
  refine wp_seq_k fun K9 hK9 => ?_
  have hj2 : ∀ (y4 : (List api_Held)) (v3 : Value) (a : Act) (w : World), (queue_copied.j2 k y2 (queue_copied.l1 k p1 p2 n1)) y4 = some r → St ⟨25, w0, ok, (idsOf [])⟩ [RowF v3 91 k_api_Held y4] [(1, ((kint .i64).V p2)), (5, (is v3)), (8, ((ksl k_api_Held).V p1)), (9, ((kint .i64).V (p1.length : Int))), (10, ((kint .i64).V y2))] a w → K9 a w := by
   intro y4 v3 a21 w21 h5 s21
   unfold queue_copied.j2 at h5
   refine hK9 _ _ ?_
   refine wp_region_lit (qs s21 (.c1 rfl (ob_add rfl (.tmp rfl) (opd_int rfl)) (.c1 rfl (mv rfl rfl) .cz)) fun _ _ s23 => ?_); clear s21
   refine wpList_nil ?_
   refine then_normal ?_
   exact hK6 ((iadd .i64 y2 (1 : Int)), y4) _ _ h5 ⟨v3, (s23.sub (.cons rfl (.cons rfl (.cons rfl (.cons rfl (.cons rfl .nil))))))⟩
  refine wp_block ?_
  obtain ⟨x1, e_x1, h6⟩ := bind_some h4; clear h4
  refine wp_seq_k fun K10 hK10 => wp_region_lit (qs s20 (.c1 rfl (mv rfl rfl) (.c1 rfl (ob_indexAddrs rfl Try.underlying85 sz91 (.tmp rfl) (.tmp rfl) e_x1) (.c1 rfl (ob_loadr rfl tk91 (.tmp rfl)) .cz))) fun _ _ s26 => ?_); clear s20
  refine qx (B' := (fun b1 : Nat => [BF b1 91 k_api_Held (⟨(List.replicate 32 (0 : Int)), (⟨(0 : Int), (0 : Int), [], (0 : Int), [], (List.replicate 32 (0 : Int)), (List.replicate 32 (0 : Int)), [], []⟩ : api_Op), []⟩ : api_Held), RowF v2 91 k_api_Held y3])) s26 rfl (ob_new (k := k_api_Held) rfl zz91 (Zr.iso (f := t_api_Held) (x := (⟨(List.replicate 32 (0 : Int)), (⟨(0 : Int), (0 : Int), [], (0 : Int), [], (List.replicate 32 (0 : Int)), (List.replicate 32 (0 : Int)), [], []⟩ : api_Op), []⟩ : api_Held)) (Zr.pair (Zr.arr 32 (Zr.int .u8)) (Zr.pair (Zr.iso (f := t_api_Op) (x := (⟨(0 : Int), (0 : Int), [], (0 : Int), [], (List.replicate 32 (0 : Int)), (List.replicate 32 (0 : Int)), [], []⟩ : api_Op)) (Zr.pair (Zr.int .i64) (Zr.pair (Zr.int .u32) (Zr.pair (Zr.sl _) (Zr.pair (Zr.int .i64) (Zr.pair (Zr.sl _) (Zr.pair (Zr.arr 32 (Zr.int .u8)) (Zr.pair (Zr.arr 32 (Zr.int .u8)) (Zr.pair Zr.str (Zr.pair (Zr.sl _) Zr.nil)))))))))) (Zr.pair (Zr.sl _) Zr.nil))))) fun b1 _ _ s27 => ?_; clear s26
  refine qs s27 (.c1 rfl (ob_assign rfl (.tmp rfl)) .cz) fun _ _ s28 => ?_; clear s27
  refine seq_opx0 (B' := (fun _ : Unit => [BF b1 91 k_api_Held x1, RowF v2 91 k_api_Held y3])) s28 rfl rfl (ob_store (A := []) rfl tk91 (.tmp rfl) (.tmp rfl) rfl (LS.refl _ _ _) rfl) fun _ a29 w29 s29 => ?_; clear s28
  refine wn hK10 ?_
  have s30 := s29.sub (u 1 rfl (u 5 rfl (u 6 rfl (u 7 rfl (u 8 rfl (u 9 rfl (u 10 rfl .nil))))))); clear s29
  refine wp_seq_k fun K11 hK11 => wp_region_lit (qs s30 (.c1 rfl (mv rfl rfl) (.c1 rfl (mv rfl rfl) (.c1 rfl (ob_neq rfl (.tmp rfl) (.tmp rfl)) (.ce (u 1 rfl (u 5 rfl (u 7 rfl (u 8 rfl (u 9 rfl (u 10 rfl (u 17 rfl .nil))))))))))) fun _ _ s34 => wn hK11 ?_); clear s30
  refine cond_split s34 (.tmp rfl) (fun hc2 => ?_) (fun hc2 => ?_)
  ·have h7 := ite_t hc2 h6; clear h6
   obtain ⟨x2, e_x2, h8⟩ := bind_some h7; clear h7
   obtain ⟨g1, h9⟩ := guard_some h8; clear h8
   refine wp_region_lit (qs s34 (.c1 rfl (mv rfl rfl) (.c1 rfl (ob_load rfl tk91 (.tmp rfl) (.head _) (LG.refl _ _)) (.c1 rfl (ob_callD0 (args := [_]) rfl .direct hb118 (fun a w s => by exact c_queue_clone k _ _ e_x2 _ _ _ (s.arg (.tmp rfl)))) (.c1 rfl (ob_mkSlice (k := k_api_Held) (xs := ([x2] : (List api_Held))) rfl Try.underlying85 zz91 sz91 (Zr.iso (f := t_api_Held) (x := (⟨(List.replicate 32 (0 : Int)), (⟨(0 : Int), (0 : Int), [], (0 : Int), [], (List.replicate 32 (0 : Int)), (List.replicate 32 (0 : Int)), [], []⟩ : api_Op), []⟩ : api_Held)) (Zr.pair (Zr.arr 32 (Zr.int .u8)) (Zr.pair (Zr.iso (f := t_api_Op) (x := (⟨(0 : Int), (0 : Int), [], (0 : Int), [], (List.replicate 32 (0 : Int)), (List.replicate 32 (0 : Int)), [], []⟩ : api_Op)) (Zr.pair (Zr.int .i64) (Zr.pair (Zr.int .u32) (Zr.pair (Zr.sl _) (Zr.pair (Zr.int .i64) (Zr.pair (Zr.sl _) (Zr.pair (Zr.arr 32 (Zr.int .u8)) (Zr.pair (Zr.arr 32 (Zr.int .u8)) (Zr.pair Zr.str (Zr.pair (Zr.sl _) Zr.nil)))))))))) (Zr.pair (Zr.sl _) Zr.nil)))) (by decide) (by decide) (.cons (.tmp rfl) rfl (LS.arr' (i := 0) (ys := ([x2] : (List api_Held))) (by simp) (by rfl)) (.nil _))) .cz)))) fun _ _ s38 => ?_); clear s34
   refine qx (B' := (fun v4 : Value => [BF b1 91 k_api_Held x1, RowF v4 91 k_api_Held (y3 ++ ([x2] : (List api_Held)))])) s38 rfl (ob_appendL2 (A := [_]) rfl Try.underlying85 ap91 (Zr.iso (f := t_api_Held) (x := (⟨(List.replicate 32 (0 : Int)), (⟨(0 : Int), (0 : Int), [], (0 : Int), [], (List.replicate 32 (0 : Int)), (List.replicate 32 (0 : Int)), [], []⟩ : api_Op), []⟩ : api_Held)) (Zr.pair (Zr.arr 32 (Zr.int .u8)) (Zr.pair (Zr.iso (f := t_api_Op) (x := (⟨(0 : Int), (0 : Int), [], (0 : Int), [], (List.replicate 32 (0 : Int)), (List.replicate 32 (0 : Int)), [], []⟩ : api_Op)) (Zr.pair (Zr.int .i64) (Zr.pair (Zr.int .u32) (Zr.pair (Zr.sl _) (Zr.pair (Zr.int .i64) (Zr.pair (Zr.sl _) (Zr.pair (Zr.arr 32 (Zr.int .u8)) (Zr.pair (Zr.arr 32 (Zr.int .u8)) (Zr.pair Zr.str (Zr.pair (Zr.sl _) Zr.nil)))))))))) (Zr.pair (Zr.sl _) Zr.nil)))) (by decide) (.tmp rfl) (.tmp rfl) rfl g1) fun v4 _ _ s39 => ?_; clear s38
   refine qs s39 (.c1 rfl (ob_assign rfl (.tmp rfl)) .cz) fun _ _ s40 => ?_; clear s39
   refine wpList_nil ?_
   refine in_normal ?_
   refine then_normal ?_
   have s41 := St.drop (A := []) s40; clear s40
   exact hj2 (y3 ++ ([x2] : (List api_Held))) v4 _ _ h9 (s41.sub (.cons rfl (.cons rfl (.cons rfl (.cons rfl (.cons rfl .nil))))))
  ·have h10 := ite_f hc2 h6; clear h6
   refine wp_skip ?_
   refine in_normal ?_
   refine then_normal ?_
   have s42 := St.drop (A := []) s34; clear s34
   exact hj2 y3 v2 _ _ h10 (s42.sub (.cons rfl (.cons rfl (.cons rfl (.cons rfl (.cons rfl .nil))))))
 ·have h11 := ite_f hc1 h3; clear h3
  refine wp_exit ?_
  refine (then_exit (then_exit (in_here ?_)))
  refine then_normal ?_
  exact hj1 y3 v2 _ _ h11 (s19.sub (.cons rfl .nil))
theorem c_queue_Put (k : Nat) (p1 : (List api_Held)) (p2 : api_Held) (r : ((List api_Held) × Int)) (h0 : queue_Put k p1 p2 = some r) (ok : Ok) (w0 : World) (z0 : Value) (z1 : Value) (u0 : ((ksl k_api_Held).V p1).holds ok w0 z0) (u1 : (k_api_Held.V p2).holds ok w0 z1) :
 GivesX Try.prog 66 [z0, z1] ok w0 [] (fun g : Value => resFact [is g, (kint .i64).V r.2]) (fun g : Value => [RowF (g) 91 k_api_Held r.1]) := by
 unfold queue_Put at h0
 refine enterX (N := 32) Try.func66 rfl rfl (of_decide_eq_true rfl) (.cons u0 (.cons u1 .nil)) List.nodup_nil (fun _ h => by cases h) (fun _ h => by cases h) fun a1 s1 => ?_
 refine wp_seq_k fun K1 hK1 => wp_region_lit ?_
 refine qx (B' := (fun b1 : Nat => [BF b1 91 k_api_Held p2])) s1 rfl (ob_box rfl (.tmp rfl)) fun b1 _ _ s2 => ?_; clear s1
 refine qs s2 (.c1 rfl (ob_assign rfl opd_is) .cz) fun _ _ s3 => ?_; clear s2
 have s4 := St.adopt s3 (G := RowF (nilRow 1) 91 k_api_Held []) rfl (rowNilN _ _ _ _ _); clear s3
 refine qs s4 (.c1 rfl (ob_assign rfl (opd_int rfl)) (.ce (u 0 rfl (u 3 rfl .nil)))) fun _ _ s6 => wn hK1 ?_; clear s4
 have s7 := St.drop (A := []) s6; clear s6
 refine wp_seq_k fun K2 hK2 => wp_block ?_
 obtain ⟨x1, e_x1, h1⟩ := bind_some h0; clear h0
 obtain ⟨x2, e_x2, h2⟩ := bind_some h1; clear h1
 refine wp_seq_k fun K3 hK3 => wp_region_lit (qs s7 (.c1 rfl (mv rfl rfl) (.c1 rfl (ob_callD0 (args := [_]) rfl .direct hb71 (fun a w s => by exact c_queue_Right k _ _ e_x1 _ _ _ (s.arg (.tmp rfl)))) (.c1 rfl (ob_not rfl (.tmp rfl)) (.c1 rfl (mv rfl rfl) (.cg rfl rfl rfl rfl (fun hb => ob_fieldAddr (off' := 32) rfl Try.underlying91 rfl sz44 (by decide) (.tmp rfl) rfl) (.cg rfl rfl rfl rfl (fun hb => (Ob.uncond (t := 11) hb rfl (ob_load rfl tk44 (.tmp rfl) (.head _) (lg_api_Held_Op p2)))) (.cg rfl rfl rfl rfl (fun hb => (Ob.uncond (t := 12) hb rfl (ob_callD0 (args := [_]) rfl .direct hb91 (fun a w s => by exact c_frame_Right k _ _ (ite_t hb e_x2) _ _ _ (s.arg (.tmp rfl)))))) (.cg rfl rfl rfl rfl (fun hb => (Ob.uncond (t := 13) hb rfl (ob_not rfl (.tmp rfl)))) (.c1 rfl (ob_or2 rfl (.tmp rfl) opd_bool (.tmp rfl)) (.c1 rfl (ob_assign rfl (.tmp rfl)) (.ce (u 0 rfl (u 3 rfl (u 6 rfl .nil)))))))))))))) fun _ _ s18 => wn hK3 ?_); clear s7
 refine cond_split s18 (.tmp rfl) (fun hc1 => ?_) (fun hc1 => ?_)
 ·have h3 := ite_t hc1 h2; clear h2
  refine wp_seq_k fun K4 hK4 => wp_region_lit (qs s18 (.c1 rfl (ob_assign rfl opd_is) .cz) fun _ _ s19 => ?_); clear s18
  have s20 := St.adopt s19 (G := RowF (nilRow 2) 91 k_api_Held []) rfl (rowNilN _ _ _ _ _); clear s19
  refine qs s20 (.c1 rfl (ob_assign rfl (opd_int rfl)) (.ce (u 4 rfl (u 5 rfl .nil)))) fun _ _ s22 => wn hK4 ?_; clear s20
  have s23 := St.drop (A := [_]) s22; clear s22
  refine wp_ret ?_
  obtain rfl := Option.some.inj h3
  exact leaveXD (D := []) (nilRow 2) s23 rfl (.inl rfl) rfl (.cons (.tmp rfl) (.cons (.tmp rfl) .nil)) rfl
 ·have h4 := ite_f hc1 h2; clear h2
  obtain ⟨x3, e_x3, h5⟩ := bind_some h4; clear h4
  refine wp_seq_k fun K5 hK5 => wp_region_lit (qs s18 (.c1 rfl (mv rfl rfl) (.c1 rfl (ob_fieldAddr (off' := 0) rfl Try.underlying91 rfl sz39 (by decide) (.tmp rfl) rfl) (.c1 rfl (ob_load rfl tk39 (.tmp rfl) (.head _) (lg_api_Held_Id p2)) (.c1 rfl (ob_callD0 (args := [_, _]) rfl .direct hb72 (fun a w s => by exact c_queue_Find k _ _ _ e_x3 _ _ _ _ (s.arg (.tmp rfl)) (s.arg (.tmp rfl)))) (.c1 rfl (ob_geq rfl (.tmp rfl) (opd_int rfl)) (.c1 rfl (ob_assign rfl (.tmp rfl)) (.ce (u 0 rfl (u 3 rfl (u 16 rfl .nil)))))))))) fun _ _ s30 => wn hK5 ?_); clear s18
  refine cond_split s30 (.tmp rfl) (fun hc2 => ?_) (fun hc2 => ?_)
  ·have h6 := ite_t hc2 h5; clear h5
   refine wp_seq_k fun K6 hK6 => wp_region_lit (qs s30 (.c1 rfl (ob_assign rfl opd_is) .cz) fun _ _ s31 => ?_); clear s30
   have s32 := St.adopt s31 (G := RowF (nilRow 3) 91 k_api_Held []) rfl (rowNilN _ _ _ _ _); clear s31
   refine qs s32 (.c1 rfl (ob_assign rfl (opd_int rfl)) (.ce (u 4 rfl (u 5 rfl .nil)))) fun _ _ s34 => wn hK6 ?_; clear s32
   have s35 := St.drop (A := [_]) s34; clear s34
   refine wp_ret ?_
   obtain rfl := Option.some.inj h6
   exact leaveXD (D := []) (nilRow 3) s35 rfl (.inl rfl) rfl (.cons (.tmp rfl) (.cons (.tmp rfl) .nil)) rfl
  ·have h7 := ite_f hc2 h5; clear h5
   refine wp_seq_k fun K7 hK7 => wp_region_lit (qs s30 (.c1 rfl (mv rfl rfl) (.c1 rfl (ob_lens rfl Try.underlying85 (.tmp rfl)) (.c1 rfl (ob_eql rfl (.tmp rfl) (opd_int rfl)) (.c1 rfl (ob_assign rfl (.tmp rfl)) (.ce (u 0 rfl (u 3 rfl (u 22 rfl .nil)))))))) fun _ _ s40 => wn hK7 ?_); clear s30
   refine cond_split s40 (.tmp rfl) (fun hc3 => ?_) (fun hc3 => ?_)
   ·have h8 := ite_t hc3 h7; clear h7
    refine wp_seq_k fun K8 hK8 => wp_region_lit (qs s40 (.c1 rfl (ob_assign rfl opd_is) .cz) fun _ _ s41 => ?_); clear s40
    have s42 := St.adopt s41 (G := RowF (nilRow 4) 91 k_api_Held []) rfl (rowNilN _ _ _ _ _); clear s41
    refine qs s42 (.c1 rfl (ob_assign rfl (opd_int rfl)) (.ce (u 4 rfl (u 5 rfl .nil)))) fun _ _ s44 => wn hK8 ?_; clear s42
    have s45 := St.drop (A := [_]) s44; clear s44
    refine wp_ret ?_
    obtain rfl := Option.some.inj h8
    exact leaveXD (D := []) (nilRow 4) s45 rfl (.inl rfl) rfl (.cons (.tmp rfl) (.cons (.tmp rfl) .nil)) rfl
   ·have h9 := ite_f hc3 h7; clear h7
    refine wp_skip ?_
    refine in_normal ?_
    refine then_normal (hK2 _ _ ?_)
    have s46 := s40.sub (u 0 rfl (u 3 rfl .nil)); clear s40
    refine wp_seq_k fun K9 hK9 => ?_
    obtain ⟨x4, e_x4, h10⟩ := bind_some h9; clear h9
    refine wp_goes (Fs := [((ksl k_api_Held).V p1), nofact, (k_api_Held.V p2)]) (bits := [0, 1, 0, 7, 15, 31, 63, 127]) (m := 3) (todo := 2) mx s46 ?_; clear s46
    refine goes_turn (B' := (fun v1 : Value => [RowF v1 91 k_api_Held x4, BF b1 91 k_api_Held p2])) (Fs' := (fun v1 : Value => setAll ([((ksl k_api_Held).V p1), nofact, (k_api_Held.V p2)]) [(1, (is v1))])) 1 2 3 0 (by kernel_rfl) rfl rfl rfl (oc (av 0 rfl rfl Av.nil) rfl rfl (mv rfl rfl) (opsS_skip (by rfl) (oc (av 3 rfl rfl Av.nil) rfl rfl (ob_load rfl tk91 (.tmp rfl) (.head _) (LG.refl _ _)) opsS_nil))) (.plain _ (an 0 rfl rfl rfl Av.nil) rfl (fun _ => rfl) (fun R => ob_callL0 (args := [_, _]) (L := []) rfl .direct hb117 (List.Perm.refl _) (fun a w s => by exact c_queue_copied k _ _ _ e_x4 _ _ _ _ (s.arg (.tmp rfl)) (s.arg (opd_int rfl))) (by exact fun _ => rfl))) (setAll_same (us := (fun v1 : Value => [(1, (is v1))])) fun _ => by kernel_rfl) fun v1 => ?_
    refine goes_last (by kernel_rfl) rfl (opsS_skip (by rfl) (opsS_skip (by rfl) (oc (av 3 rfl rfl Av.nil) rfl rfl (ob_load rfl tk91 (.tmp rfl) (.tail _ (.head _)) (LG.refl _ _)) opsS_nil))) (out_new (i := 1) (by decide) rfl rfl (out_new (i := 2) (by decide) rfl rfl out_nil)) fun _ _ s47 => ?_
    obtain ⟨x5, e_x5, h11⟩ := bind_some h10; clear h10
    obtain ⟨g1, h12⟩ := guard_some h11; clear h11
    refine qs s47 (.c1 rfl (ob_callD0 (args := [_]) rfl .direct hb118 (fun a w s => by exact c_queue_clone k _ _ e_x5 _ _ _ (s.arg (.tmp rfl)))) (.c1 rfl (ob_mkSlice (k := k_api_Held) (xs := ([x5] : (List api_Held))) rfl Try.underlying85 zz91 sz91 (Zr.iso (f := t_api_Held) (x := (⟨(List.replicate 32 (0 : Int)), (⟨(0 : Int), (0 : Int), [], (0 : Int), [], (List.replicate 32 (0 : Int)), (List.replicate 32 (0 : Int)), [], []⟩ : api_Op), []⟩ : api_Held)) (Zr.pair (Zr.arr 32 (Zr.int .u8)) (Zr.pair (Zr.iso (f := t_api_Op) (x := (⟨(0 : Int), (0 : Int), [], (0 : Int), [], (List.replicate 32 (0 : Int)), (List.replicate 32 (0 : Int)), [], []⟩ : api_Op)) (Zr.pair (Zr.int .i64) (Zr.pair (Zr.int .u32) (Zr.pair (Zr.sl _) (Zr.pair (Zr.int .i64) (Zr.pair (Zr.sl _) (Zr.pair (Zr.arr 32 (Zr.int .u8)) (Zr.pair (Zr.arr 32 (Zr.int .u8)) (Zr.pair Zr.str (Zr.pair (Zr.sl _) Zr.nil)))))))))) (Zr.pair (Zr.sl _) Zr.nil)))) (by decide) (by decide) (.cons (.tmp rfl) rfl (LS.arr' (i := 0) (ys := ([x5] : (List api_Held))) (by simp) (by rfl)) (.nil _))) .cz)) fun _ _ s49 => ?_; clear s47
    refine qx (B' := (fun v2 : Value => [RowF v2 91 k_api_Held (x4 ++ ([x5] : (List api_Held))), BF b1 91 k_api_Held p2])) s49 rfl (ob_appendL2 (A := []) rfl Try.underlying85 ap91 (Zr.iso (f := t_api_Held) (x := (⟨(List.replicate 32 (0 : Int)), (⟨(0 : Int), (0 : Int), [], (0 : Int), [], (List.replicate 32 (0 : Int)), (List.replicate 32 (0 : Int)), [], []⟩ : api_Op), []⟩ : api_Held)) (Zr.pair (Zr.arr 32 (Zr.int .u8)) (Zr.pair (Zr.iso (f := t_api_Op) (x := (⟨(0 : Int), (0 : Int), [], (0 : Int), [], (List.replicate 32 (0 : Int)), (List.replicate 32 (0 : Int)), [], []⟩ : api_Op)) (Zr.pair (Zr.int .i64) (Zr.pair (Zr.int .u32) (Zr.pair (Zr.sl _) (Zr.pair (Zr.int .i64) (Zr.pair (Zr.sl _) (Zr.pair (Zr.arr 32 (Zr.int .u8)) (Zr.pair (Zr.arr 32 (Zr.int .u8)) (Zr.pair Zr.str (Zr.pair (Zr.sl _) Zr.nil)))))))))) (Zr.pair (Zr.sl _) Zr.nil)))) (by decide) (.tmp rfl) (.tmp rfl) rfl g1) fun v2 _ _ s50 => ?_; clear s49
    refine qs s50 (.c1 rfl (ob_assign rfl (.tmp rfl)) (.c1 rfl (ob_assign rfl (opd_int rfl)) (.ce (u 4 rfl (u 5 rfl .nil))))) fun _ _ s53 => wn hK9 ?_; clear s50
    have s54 := St.drop (A := [_]) s53; clear s53
    refine wp_ret ?_
    obtain rfl := Option.some.inj h12
    exact leaveXD (D := []) v2 s54 rfl (.inl rfl) rfl (.cons (.tmp rfl) (.cons (.tmp rfl) .nil)) rfl
theorem c_graph_Find_1 (k : Nat) (p1 : api_Node) (p2 : (List Int)) (r : Bool) (h0 : graph_Find_1 k p1 p2 = some r) (ok : Ok) (w0 : World) (z0 : Value) (z1 : Value) (u0 : (k_api_Node.V p1).holds ok w0 z0) (u1 : (ptrTo (karr 32 (kint .u8)) p2).holds ok w0 z1) :
 Gives Try.prog 99 [z0, z1] ok w0 (resFact [kbool.V r]) := by
 unfold graph_Find_1 at h0
 refine enter (N := 8) Try.func99 rfl rfl (of_decide_eq_true rfl) (.cons u0 (.cons u1 .nil)) fun a1 s1 => ?_
 refine wp_seq_k fun K1 hK1 => wp_region_lit ?_
 refine qx (B' := (fun b1 : Nat => [BF b1 46 k_api_Node p1])) s1 rfl (ob_box rfl (.tmp rfl)) fun b1 _ _ s2 => ?_; clear s1
 refine qs s2 (.c1 rfl (ob_assign rfl opd_bool) (.ce (u 1 rfl (u 2 rfl .nil)))) fun _ _ s4 => wn hK1 ?_; clear s2
 refine wp_seq_k fun K2 hK2 => wp_region_lit (qs s4 (.c1 rfl (ob_fieldAddr (off' := 0) rfl Try.underlying46 rfl sz39 (by decide) (.tmp rfl) rfl) (.c1 rfl (ob_load rfl tk39 (.tmp rfl) (.head _) (lg_api_Node_Id p1)) (.c1 rfl (ob_loadr rfl tk39 (.tmp rfl)) (.c1 rfl (ob_eqAgg rfl rfl (by kernel_rfl) eq39 (by decide) (.tmp rfl) (.tmp rfl)) (.c1 rfl (ob_assign rfl (.tmp rfl)) (.ce (u 3 rfl .nil))))))) fun _ _ s10 => wn hK2 ?_); clear s4
 have s11 := St.drop (A := []) s10; clear s10
 refine wp_ret ?_
 obtain rfl := Option.some.inj h0
 exact leave s11 (.inl rfl) rfl (.cons (.tmp rfl) .nil)
theorem c_slices_IndexFunc_api_Node_api_Node_graph_Find_1 (k : Nat) (p1 : (List api_Node)) (p2 : (List Int)) (r : Int) (h0 : slices_IndexFunc_api_Node_api_Node_graph_Find_1 k p1 p2 = some r) (ok : Ok) (w0 : World) (z0 : Value) (z1 : Value) (u0 : ((ksl k_api_Node).V p1).holds ok w0 z0) (u1 : (cloF 99 [] [(ptrTo (karr 32 (kint .u8)) p2)]).holds ok w0 z1) :
 Gives Try.prog 98 [z0, z1] ok w0 (resFact [(kint .i64).V r]) := by
 unfold slices_IndexFunc_api_Node_api_Node_graph_Find_1 at h0
 refine enter (N := 19) Try.func98 rfl rfl (of_decide_eq_true rfl) (.cons u0 (.cons u1 .nil)) fun a1 s1 => ?_
 refine wp_seq_k fun K1 hK1 => wp_region_lit (qs s1 (.c1 rfl (ob_assign rfl (opd_int rfl)) (.ce (u 0 rfl (u 1 rfl .nil)))) fun _ _ s3 => wn hK1 ?_); clear s1
 refine wp_seq_k fun K2 hK2 => wp_seq_k fun K3 hK3 => ?_
 refine wp_region_lit (qs s3 (.c1 rfl (mv rfl rfl) (.c1 rfl (ob_lens rfl Try.underlying22 (.tmp rfl)) (.c1 rfl (ob_move rfl (opd_int rfl)) (.ce (u 0 rfl (u 1 rfl (u 7 rfl (u 8 rfl .nil)))))))) fun _ _ s7 => wn hK3 ?_); clear s3
 have hj1 : ∀ (a : Act) (w : World), (slices_IndexFunc_api_Node_api_Node_graph_Find_1.j1 k) = some r → St ⟨19, w0, ok, []⟩ [] [] a w → K2 a w := by
  intro a8 w8 h1 s8
  unfold slices_IndexFunc_api_Node_api_Node_graph_Find_1.j1 at h1
  refine hK2 _ _ ?_
  refine wp_seq_k fun K4 hK4 => wp_region_lit (qs s8 (.c1 rfl (ob_assign rfl (opd_int rfl)) (.ce (u 4 rfl .nil))) fun _ _ s10 => wn hK4 ?_); clear s8
  refine wp_ret ?_
  obtain rfl := Option.some.inj h1
  exact leave s10 (.inl rfl) rfl (.cons (.tmp rfl) .nil)
 refine wp_block ?_
 refine wp_loop_fuel (fun m (q : Int) => slices_IndexFunc_api_Node_api_Node_graph_Find_1.l1 k p1 p2 m q) r (fun _ => rfl) (fun q a w => St ⟨19, w0, ok, []⟩ [] [(0, ((ksl k_api_Node).V p1)), (1, (cloF 99 [] [(ptrTo (karr 32 (kint .u8)) p2)])), (7, ((kint .i64).V (p1.length : Int))), (8, ((kint .i64).V q))] a w) ?_ k (0 : Int) _ _ h0 (s7.sub (.cons rfl (.cons rfl (.cons rfl (.cons rfl .nil)))))
 rintro n1 y1 a11 w11 h2 s11 K5 hK5
 replace h2 : slices_IndexFunc_api_Node_api_Node_graph_Find_1.l1 k p1 p2 (n1 + 1) y1 = some r := h2; rw [slices_IndexFunc_api_Node_api_Node_graph_Find_1.l1] at h2
 have h3 := h2; clear h2
 refine wp_seq_k fun K6 hK6 => wp_region_lit (qs s11 (.c1 rfl (ob_lss rfl (.tmp rfl) (.tmp rfl)) (.ce (u 0 rfl (u 1 rfl (u 7 rfl (u 8 rfl (u 9 rfl .nil))))))) fun _ _ s13 => wn hK6 ?_); clear s11
 refine wp_seq_k fun K7 hK7 => ?_
 refine cond_split s13 (.tmp rfl) (fun hc1 => ?_) (fun hc1 => ?_)
 ·have h4 := ite_t hc1 h3; clear h3
  refine wp_skip ?_
  refine then_normal (hK7 _ _ ?_)
  have s14 := s13.sub (u 0 rfl (u 1 rfl (u 7 rfl (u 8 rfl .nil)))); clear s13
  refine wp_seq_k fun K8 hK8 => wp_block ?_
  refine wp_seq_k fun K9 hK9 => wp_region_lit (qs s14 (.c1 rfl (mv rfl rfl) (.c1 rfl (ob_assign rfl (.tmp rfl)) (.ce (u 0 rfl (u 1 rfl (u 5 rfl (u 7 rfl (u 8 rfl .nil)))))))) fun _ _ s17 => wn hK9 ?_); clear s14
  obtain ⟨x1, e_x1, h5⟩ := bind_some h4; clear h4
  obtain ⟨x2, e_x2, h6⟩ := bind_some h5; clear h5
  refine wp_seq_k fun K10 hK10 => wp_region_lit (qs s17 (.c1 rfl (mv rfl rfl) (.c1 rfl (mv rfl rfl) (.c1 rfl (mv rfl rfl) (.c1 rfl (ob_indexAddrs rfl Try.underlying22 sz46 (.tmp rfl) (.tmp rfl) e_x1) (.c1 rfl (ob_loadr rfl tk46 (.tmp rfl)) (.c1 rfl (ob_callD (args := [_]) rfl (.clo (.tmp rfl)) hb99 (fun a w s fs gs hf hg => by obtain rfl := hf.unnil; obtain ⟨u0, _, rfl, fu0, hg⟩ := hg.uncons; obtain rfl := hg.unnil; exact c_graph_Find_1 k _ _ _ e_x2 _ _ _ _ (s.arg (.tmp rfl)) fu0)) (.ce (u 0 rfl (u 1 rfl (u 5 rfl (u 7 rfl (u 8 rfl (u 16 rfl .nil))))))))))))) fun _ _ s24 => wn hK10 ?_); clear s17
  refine cond_split s24 (.tmp rfl) (fun hc2 => ?_) (fun hc2 => ?_)
  ·have h7 := ite_t hc2 h6; clear h6
   refine wp_seq_k fun K11 hK11 => wp_region_lit (qs s24 (.c1 rfl (mv rfl rfl) (.c1 rfl (ob_assign rfl (.tmp rfl)) (.ce (u 4 rfl .nil)))) fun _ _ s27 => wn hK11 ?_); clear s24
   refine wp_ret ?_
   obtain rfl := Option.some.inj h7
   exact leave s27 (.inl rfl) rfl (.cons (.tmp rfl) .nil)
  ·have h8 := ite_f hc2 h6; clear h6
   refine wp_skip ?_
   refine in_normal ?_
   refine then_normal (hK8 _ _ ?_)
   have s28 := s24.sub (u 0 rfl (u 1 rfl (u 7 rfl (u 8 rfl .nil)))); clear s24
   refine wp_region_lit (qs s28 (.c1 rfl (ob_add rfl (.tmp rfl) (opd_int rfl)) (.c1 rfl (mv rfl rfl) .cz)) fun _ _ s30 => ?_); clear s28
   refine wpList_nil ?_
   refine then_normal ?_
   exact hK5 (iadd .i64 y1 (1 : Int)) _ _ h8 (s30.sub (.cons rfl (.cons rfl (.cons rfl (.cons rfl .nil)))))
 ·have h9 := ite_f hc1 h3; clear h3
  refine wp_exit ?_
  refine (then_exit (then_exit (in_here ?_)))
  refine then_normal ?_
  exact hj1 _ _ h9 (s13.sub .nil)
theorem c_graph_Find (k : Nat) (p1 : (List api_Node)) (p2 : (List Int)) (r : Int) (h0 : graph_Find k p1 p2 = some r) (ok : Ok) (w0 : World) (z0 : Value) (z1 : Value) (u0 : ((ksl k_api_Node).V p1).holds ok w0 z0) (u1 : ((karr 32 (kint .u8)).V p2).holds ok w0 z1) :
 Gives Try.prog 48 [z0, z1] ok w0 (resFact [(kint .i64).V r]) := by
 unfold graph_Find at h0
 refine enter (N := 8) Try.func48 rfl rfl (of_decide_eq_true rfl) (.cons u0 (.cons u1 .nil)) fun a1 s1 => ?_
 refine wp_seq_k fun K1 hK1 => wp_region_lit ?_
 refine qx (B' := (fun b1 : Nat => [BF b1 39 (karr 32 (kint .u8)) p2])) s1 rfl (ob_box rfl (.tmp rfl)) fun b1 _ _ s2 => ?_; clear s1
 refine qs s2 (.c1 rfl (ob_assign rfl (opd_int rfl)) (.ce (u 0 rfl (u 3 rfl .nil)))) fun _ _ s4 => wn hK1 ?_; clear s2
 obtain ⟨x1, e_x1, h1⟩ := bind_some h0; clear h0
 refine wp_seq_k fun K2 hK2 => wp_region_lit (qs s4 (.c1 rfl (mv rfl rfl) (.c1 rfl (ob_makeFn (xs := []) (ys := [_]) rfl .nil (.cons (.tmp rfl) .nil)) (.c1 rfl ((ob_lendG (L := [_]) (List.Perm.refl _) (.cons (t := 6) rfl (lendClo .nil (.cons (lendPtrB (.head _) (LG.refl _ _)) .nil)) .nil) (Flat.res1 (Flat.V (KFlat.int _))) (fun _ => ob_callD0 (args := [_, _]) rfl .direct hb98 (fun a w s => by exact c_slices_IndexFunc_api_Node_api_Node_graph_Find_1 k _ _ _ e_x1 _ _ _ _ (s.arg (.tmp rfl)) (s.arg (.tmp rfl)))))) (.c1 rfl (ob_assign rfl (.tmp rfl)) (.ce (u 4 rfl .nil)))))) fun _ _ s9 => wn hK2 ?_); clear s4
 have s10 := St.drop (A := []) s9; clear s9
 refine wp_ret ?_
 obtain rfl := Option.some.inj h1
 exact leave s10 (.inl rfl) rfl (.cons (.tmp rfl) .nil)
theorem c_graph_past (k : Nat) (p1 : (List api_Node)) (p2 : (List (List Int))) (r : ((List Int) × Int)) (h0 : graph_past k p1 p2 = some r) (ok : Ok) (w0 : World) (z0 : Value) (z1 : Value) (u0 : ((ksl k_api_Node).V p1).holds ok w0 z0) (u1 : ((ksl (karr 32 (kint .u8))).V p2).holds ok w0 z1) :
 GivesX Try.prog 92 [z0, z1] ok w0 [] (fun g : Value => resFact [is g, (kint .i64).V r.2]) (fun g : Value => [RowF (g) 3 (kint .i64) r.1]) := by
 unfold graph_past at h0
 refine enterX (N := 56) Try.func92 rfl rfl (of_decide_eq_true rfl) (.cons u0 (.cons u1 .nil)) List.nodup_nil (fun _ h => by cases h) (fun _ h => by cases h) fun a1 s1 => ?_
 refine wp_seq_k fun K1 hK1 => wp_region_lit (qs s1 (.c1 rfl (ob_assign rfl opd_is) .cz) fun _ _ s2 => ?_); clear s1
 have s3 := St.adopt s2 (G := RowF (nilRow 14) 3 (kint .i64) []) rfl (rowNilN _ _ _ _ _); clear s2
 refine qs s3 (.c1 rfl (ob_assign rfl (opd_int rfl)) (.ce (u 0 rfl (u 1 rfl .nil)))) fun _ _ s5 => wn hK1 ?_; clear s3
 have s6 := St.drop (A := []) s5; clear s5
 refine wp_seq_k fun K2 hK2 => wp_region_lit ?_
 refine qx (B' := (fun b1 : Nat => [MapF b1 .i64 ([] : List (Int × Bool))])) s6 rfl (ob_makeMap (ik := .i64) rfl) fun b1 _ _ s7 => ?_; clear s6
 refine qs s7 (.c1 rfl (ob_assign rfl (.tmp rfl)) (.ce (u 0 rfl (u 1 rfl (u 6 rfl .nil))))) fun _ _ s9 => wn hK2 ?_; clear s7
 refine wp_seq_k fun K3 hK3 => wp_seq_k fun K4 hK4 => ?_
 refine wp_region_lit (qs s9 (.c1 rfl (mv rfl rfl) (.c1 rfl (ob_lens rfl Try.underlying40 (.tmp rfl)) (.c1 rfl (ob_move rfl (opd_int rfl)) (.ce (u 0 rfl (u 6 rfl (u 15 rfl (u 16 rfl (u 17 rfl .nil))))))))) fun _ _ s13 => wn hK4 ?_); clear s9
 have hj1 : ∀ (y1 : (List (Int × Bool))) (a : Act) (w : World), (graph_past.j1 k p1) y1 = some r → St ⟨56, w0, ok, (idsOf [])⟩ [MapF b1 .i64 y1] [(0, ((ksl k_api_Node).V p1)), (6, (is (.map (some b1))))] a w → K3 a w := by
  intro y1 a14 w14 h1 s14
  unfold graph_past.j1 at h1
  refine hK3 _ _ ?_
  refine wp_seq_k fun K5 hK5 => wp_region_lit (qs s14 (.c1 rfl (ob_assign rfl opd_is) .cz) fun _ _ s15 => ?_); clear s14
  have s16 := St.adopt s15 (G := RowF (nilRow 16) 3 (kint .i64) []) rfl (rowNilN _ _ _ _ _); clear s15
  refine wn hK5 ?_
  have s17 := s16.sub (u 0 rfl (u 6 rfl (u 12 rfl .nil))); clear s16
  refine wp_seq_k fun K6 hK6 => wp_seq_k fun K7 hK7 => ?_
  refine wp_region_lit (qs s17 (.c1 rfl (mv rfl rfl) (.c1 rfl (ob_lens rfl Try.underlying22 (.tmp rfl)) (.c1 rfl (ob_move rfl (opd_int rfl)) (.ce (u 6 rfl (u 12 rfl (u 43 rfl (u 44 rfl .nil)))))))) fun _ _ s21 => wn hK7 ?_); clear s17
  have hj2 : ∀ (y2 : (List Int)) (v1 : Value) (a : Act) (w : World), (graph_past.j2 k) y2 = some r → St ⟨56, w0, ok, (idsOf [])⟩ [RowF v1 3 (kint .i64) y2] [(12, (is v1))] a w → K6 a w := by
   intro y2 v1 a22 w22 h2 s22
   unfold graph_past.j2 at h2
   refine hK6 _ _ ?_
   refine wp_seq_k fun K8 hK8 => wp_region_lit (qs s22 (.c1 rfl (mv rfl rfl) (.c1 rfl (ob_assign rfl (.tmp rfl)) (.c1 rfl (ob_assign rfl (opd_int rfl)) (.ce (u 4 rfl (u 5 rfl .nil)))))) fun _ _ s26 => wn hK8 ?_); clear s22
   refine wp_ret ?_
   obtain rfl := Option.some.inj h2
   exact leaveXD (D := []) v1 s26 rfl (.inl rfl) rfl (.cons (.tmp rfl) (.cons (.tmp rfl) .nil)) rfl
  refine wp_block ?_
  have s27 := s21.perm (toFront [_] (toFront [] (List.Perm.refl _))); clear s21
  refine wp_loop_fuel (fun m (q : Int × (List Int)) => graph_past.l1 k p1 y1 m q.1 q.2) r (fun _ => rfl) (fun q a w => ∃ (v2 : Value), St ⟨56, w0, ok, (idsOf [])⟩ [MapF b1 .i64 y1, RowF v2 3 (kint .i64) q.2] [(6, (is (.map (some b1)))), (12, (is v2)), (43, ((kint .i64).V (p1.length : Int))), (44, ((kint .i64).V q.1))] a w) ?_ k ((0 : Int), ([] : (List Int))) _ _ h1 ⟨(nilRow 16), (s27.sub (.cons rfl (.cons rfl (.cons rfl (.cons rfl .nil)))))⟩
  rintro n1 ⟨y3, y4⟩ a28 w28 h3 ⟨v2, s28⟩ K9 hK9
  replace h3 : graph_past.l1 k p1 y1 (n1 + 1) y3 y4 = some r := h3; rw [graph_past.l1] at h3
  have h4 := h3; clear h3
  refine wp_seq_k fun K10 hK10 => wp_region_lit (qs s28 (.c1 rfl (ob_lss rfl (.tmp rfl) (.tmp rfl)) (.ce (u 6 rfl (u 12 rfl (u 43 rfl (u 44 rfl (u 45 rfl .nil))))))) fun _ _ s30 => wn hK10 ?_); clear s28
  refine wp_seq_k fun K11 hK11 => ?_
  refine cond_split s30 (.tmp rfl) (fun hc1 => ?_) (fun hc1 => ?_)
  ·have h5 := ite_t hc1 h4; clear h4
   refine wp_skip ?_
   refine then_normal (hK11 _ _ ?_)
   have s31 := s30.sub (u 6 rfl (u 12 rfl (u 43 rfl (u 44 rfl .nil)))); clear s30
   refine wp_seq_k fun K12 hK12 => ?_
   have hj3 : ∀ (y5 : (List Int)) (v3 : Value) (a : Act) (w : World), (graph_past.j3 k y3 (graph_past.l1 k p1 y1 n1)) y5 = some r → St ⟨56, w0, ok, (idsOf [])⟩ [MapF b1 .i64 y1, RowF v3 3 (kint .i64) y5] [(6, (is (.map (some b1)))), (12, (is v3)), (43, ((kint .i64).V (p1.length : Int))), (44, ((kint .i64).V y3))] a w → K12 a w := by
    intro y5 v3 a32 w32 h6 s32
    unfold graph_past.j3 at h6
    refine hK12 _ _ ?_
    refine wp_region_lit (qs s32 (.c1 rfl (ob_add rfl (.tmp rfl) (opd_int rfl)) (.c1 rfl (mv rfl rfl) .cz)) fun _ _ s34 => ?_); clear s32
    refine wpList_nil ?_
    refine then_normal ?_
    exact hK9 ((iadd .i64 y3 (1 : Int)), y5) _ _ h6 ⟨v3, (s34.sub (.cons rfl (.cons rfl (.cons rfl (.cons rfl .nil)))))⟩
   refine wp_block ?_
   refine wp_seq_k fun K13 hK13 => wp_region_lit (qs s31 (.c1 rfl (mv rfl rfl) (.c1 rfl (ob_assign rfl (.tmp rfl)) (.ce (u 6 rfl (u 12 rfl (u 13 rfl (u 43 rfl (u 44 rfl .nil)))))))) fun _ _ s37 => wn hK13 ?_); clear s31
   refine wp_seq_k fun K14 hK14 => wp_region_lit (qs s37 (.c1 rfl (mv rfl rfl) (.c1 rfl (mv rfl rfl) (.c1 rfl (ob_lookup rfl Try.underlying122 Try.underlying3 zz4 (.tmp rfl) (.tmp rfl) (.head _)) (.ce (u 6 rfl (u 12 rfl (u 13 rfl (u 43 rfl (u 44 rfl (u 49 rfl .nil)))))))))) fun _ _ s41 => wn hK14 ?_); clear s37
   refine cond_split s41 (.tmp rfl) (fun hc2 => ?_) (fun hc2 => ?_)
   ·have h7 := ite_t hc2 h5; clear h5
    obtain ⟨g1, h8⟩ := guard_some h7; clear h7
    refine wp_region_lit (qs s41 (.c1 rfl (mv rfl rfl) (.c1 rfl (mv rfl rfl) (.c1 rfl (ob_mkSlice (k := (kint .i64)) (xs := ([y3] : (List Int))) rfl Try.underlying41 zz3 sz3 (Zr.int .i64) (by decide) (by decide) (.cons (.tmp rfl) rfl (LS.arr' (i := 0) (ys := ([y3] : (List Int))) (by simp) (by rfl)) (.nil _))) .cz))) fun _ _ s44 => ?_); clear s41
    refine qx (B' := (fun v4 : Value => [MapF b1 .i64 y1, RowF v4 3 (kint .i64) (y4 ++ ([y3] : (List Int)))])) s44 rfl (ob_appendL2 (A := [_]) rfl Try.underlying41 ap3 (Zr.int .i64) (by decide) (.tmp rfl) (.tmp rfl) rfl g1) fun v4 _ _ s45 => ?_; clear s44
    refine qs s45 (.c1 rfl (ob_assign rfl (.tmp rfl)) .cz) fun _ _ s46 => ?_; clear s45
    refine wpList_nil ?_
    refine in_normal ?_
    refine then_normal ?_
    exact hj3 (y4 ++ ([y3] : (List Int))) v4 _ _ h8 (s46.sub (.cons rfl (.cons rfl (.cons rfl (.cons rfl .nil)))))
   ·have h9 := ite_f hc2 h5; clear h5
    refine wp_skip ?_
    refine in_normal ?_
    refine then_normal ?_
    exact hj3 y4 v2 _ _ h9 (s41.sub (.cons rfl (.cons rfl (.cons rfl (.cons rfl .nil)))))
  ·have h10 := ite_f hc1 h4; clear h4
   refine wp_exit ?_
   refine (then_exit (then_exit (in_here ?_)))
   refine then_normal ?_
   have s47 := St.drop (A := []) s30; clear s30
   exact hj2 y4 v2 _ _ h10 (s47.sub (.cons rfl .nil))
 refine wp_block ?_
 refine wp_loop_fuel (fun m (q : Int × (List (Int × Bool))) => graph_past.l2 k p2 p1 m q.1 q.2) r (fun _ => rfl) (fun q a w => St ⟨56, w0, ok, (idsOf [])⟩ [MapF b1 .i64 q.2] [(0, ((ksl k_api_Node).V p1)), (6, (is (.map (some b1)))), (15, ((ksl (karr 32 (kint .u8))).V p2)), (16, ((kint .i64).V (p2.length : Int))), (17, ((kint .i64).V q.1))] a w) ?_ k ((0 : Int), ([] : List (Int × Bool))) _ _ h0 (s13.sub (.cons rfl (.cons rfl (.cons rfl (.cons rfl (.cons rfl .nil))))))
 rintro n2 ⟨y6, y7⟩ a48 w48 h11 s48 K15 hK15
 replace h11 : graph_past.l2 k p2 p1 (n2 + 1) y6 y7 = some r := h11; rw [graph_past.l2] at h11
 have h12 := h11; clear h11
 refine wp_seq_k fun K16 hK16 => wp_region_lit (qs s48 (.c1 rfl (ob_lss rfl (.tmp rfl) (.tmp rfl)) (.ce (u 0 rfl (u 6 rfl (u 15 rfl (u 16 rfl (u 17 rfl (u 18 rfl .nil)))))))) fun _ _ s50 => wn hK16 ?_); clear s48
 refine wp_seq_k fun K17 hK17 => ?_
 refine cond_split s50 (.tmp rfl) (fun hc3 => ?_) (fun hc3 => ?_)
 ·have h13 := ite_t hc3 h12; clear h12
  refine wp_skip ?_
  refine then_normal (hK17 _ _ ?_)
  have s51 := s50.sub (u 0 rfl (u 6 rfl (u 15 rfl (u 16 rfl (u 17 rfl .nil))))); clear s50
  refine wp_seq_k fun K18 hK18 => ?_
  have hj4 : ∀ (y8 : (List (Int × Bool))) (a : Act) (w : World), (graph_past.j4 k y6 (graph_past.l2 k p2 p1 n2)) y8 = some r → St ⟨56, w0, ok, (idsOf [])⟩ [MapF b1 .i64 y8] [(0, ((ksl k_api_Node).V p1)), (6, (is (.map (some b1)))), (15, ((ksl (karr 32 (kint .u8))).V p2)), (16, ((kint .i64).V (p2.length : Int))), (17, ((kint .i64).V y6))] a w → K18 a w := by
   intro y8 a52 w52 h14 s52
   unfold graph_past.j4 at h14
   refine hK18 _ _ ?_
   refine wp_region_lit (qs s52 (.c1 rfl (ob_add rfl (.tmp rfl) (opd_int rfl)) (.c1 rfl (mv rfl rfl) .cz)) fun _ _ s54 => ?_); clear s52
   refine wpList_nil ?_
   refine then_normal ?_
   exact hK15 ((iadd .i64 y6 (1 : Int)), y8) _ _ h14 (s54.sub (.cons rfl (.cons rfl (.cons rfl (.cons rfl (.cons rfl .nil))))))
  refine wp_block ?_
  obtain ⟨x1, e_x1, h15⟩ := bind_some h13; clear h13
  refine wp_seq_k fun K19 hK19 => wp_region_lit (qs s51 (.c1 rfl (ob_indexAddrs rfl Try.underlying40 sz39 (.tmp rfl) (.tmp rfl) e_x1) (.c1 rfl (ob_loadr rfl tk39 (.tmp rfl)) .cz)) fun _ _ s56 => ?_); clear s51
  refine qx (B' := (fun b2 : Nat => [BF b2 39 (karr 32 (kint .u8)) (List.replicate 32 (0 : Int)), MapF b1 .i64 y7])) s56 rfl (ob_new (k := (karr 32 (kint .u8))) rfl zz39 (Zr.arr 32 (Zr.int .u8))) fun b2 _ _ s57 => ?_; clear s56
  refine seq_opx0 (B' := (fun _ : Unit => [BF b2 39 (karr 32 (kint .u8)) x1, MapF b1 .i64 y7])) s57 rfl rfl (ob_store (A := []) rfl tk39 (.tmp rfl) (.tmp rfl) rfl (LS.refl _ _ _) rfl) fun _ a58 w58 s58 => ?_; clear s57
  refine wn hK19 ?_
  have s59 := s58.sub (u 0 rfl (u 6 rfl (u 8 rfl (u 15 rfl (u 16 rfl (u 17 rfl .nil)))))); clear s58
  obtain ⟨x2, e_x2, h16⟩ := bind_some h15; clear h15
  refine wp_seq_k fun K20 hK20 => wp_region_lit (qs s59 (.c1 rfl (mv rfl rfl) (.c1 rfl (ob_load rfl tk39 (.tmp rfl) (.head _) (LG.refl _ _)) (.c1 rfl (ob_callD0 (args := [_, _]) rfl .direct hb48 (fun a w s => by exact c_graph_Find k _ _ _ e_x2 _ _ _ _ (s.arg (.tmp rfl)) (s.arg (.tmp rfl)))) (.c1 rfl (ob_assign rfl (.tmp rfl)) (.ce (u 0 rfl (u 6 rfl (u 9 rfl (u 15 rfl (u 16 rfl (u 17 rfl .nil))))))))))) fun _ _ s64 => wn hK20 ?_); clear s59
  have s65 := St.drop (A := []) s64; clear s64
  refine wp_seq_k fun K21 hK21 => wp_seq_k fun K22 hK22 => ?_
  refine wp_region_lit (qs s65 (.c1 rfl (mv rfl rfl) (.c1 rfl (ob_lss rfl (.tmp rfl) (opd_int rfl)) (.ce (u 0 rfl (u 6 rfl (u 9 rfl (u 15 rfl (u 16 rfl (u 17 rfl (u 25 rfl .nil)))))))))) fun _ _ s68 => wn hK22 ?_); clear s65
  refine cond_split s68 (.tmp rfl) (fun hc4 => ?_) (fun hc4 => ?_)
  ·have h17 := ite_t hc4 h16; clear h16
   refine wp_seq_k fun K23 hK23 => wp_region_lit (qs s68 (.c1 rfl (ob_assign rfl opd_is) .cz) fun _ _ s69 => ?_); clear s68
   have s70 := St.adopt s69 (G := RowF (nilRow 15) 3 (kint .i64) []) rfl (rowNilN _ _ _ _ _); clear s69
   refine qs s70 (.c1 rfl (ob_assign rfl (opd_int rfl)) (.ce (u 4 rfl (u 5 rfl .nil)))) fun _ _ s72 => wn hK23 ?_; clear s70
   have s73 := St.drop (A := [_]) s72; clear s72
   refine wp_ret ?_
   obtain rfl := Option.some.inj h17
   exact leaveXD (D := []) (nilRow 15) s73 rfl (.inl rfl) rfl (.cons (.tmp rfl) (.cons (.tmp rfl) .nil)) rfl
  ·have h18 := ite_f hc4 h16; clear h16
   refine wp_skip ?_
   refine then_normal (hK21 _ _ ?_)
   have s74 := s68.sub (u 0 rfl (u 6 rfl (u 9 rfl (u 15 rfl (u 16 rfl (u 17 rfl .nil)))))); clear s68
   refine wp_seq_k fun K24 hK24 => wp_region_lit (qs s74 (.c1 rfl (mv rfl rfl) (.c1 rfl (mv rfl rfl) .cz)) fun _ _ s76 => ?_); clear s74
   refine seq_opx0 (B' := (fun _ : Unit => [MapF b1 .i64 (mput y7 x2 true)])) s76 rfl rfl (ob_mapUpdate (A := []) rfl Try.underlying122 Try.underlying3 (.tmp rfl) (.tmp rfl) opd_bool rfl rfl) fun _ a77 w77 s77 => ?_; clear s76
   refine wn hK24 ?_
   have s78 := s77.sub (u 0 rfl (u 6 rfl (u 9 rfl (u 15 rfl (u 16 rfl (u 17 rfl .nil)))))); clear s77
   obtain ⟨x3, e_x3, h19⟩ := bind_some h18; clear h18
   refine wp_seq_k fun K25 hK25 => wp_region_lit (qs s78 (.c1 rfl (mv rfl rfl) (.c1 rfl (mv rfl rfl) (.c1 rfl (ob_indexAddrs rfl Try.underlying22 sz46 (.tmp rfl) (.tmp rfl) e_x3) (.c1 rfl (ob_fieldAddrr rfl Try.underlying46 rfl sz41 (by decide) (.tmp rfl) (lg_api_Node_Past x3)) (.c1 rfl (ob_loadr rfl tk41 (.tmp rfl)) (.c1 rfl (ob_lens rfl Try.underlying41 (.tmp rfl)) (.c1 rfl (ob_move rfl (opd_int rfl)) (.ce (u 0 rfl (u 6 rfl (u 15 rfl (u 16 rfl (u 17 rfl (u 32 rfl (u 33 rfl (u 34 rfl .nil)))))))))))))))) fun _ _ s86 => wn hK25 ?_); clear s78
   refine wp_block ?_
   refine wp_loop_fuel (fun m (q : Int × (List (Int × Bool))) => graph_past.l3 k x3 y6 (graph_past.l2 k p2 p1 n2) m q.1 q.2) r (fun _ => rfl) (fun q a w => St ⟨56, w0, ok, (idsOf [])⟩ [MapF b1 .i64 q.2] [(0, ((ksl k_api_Node).V p1)), (6, (is (.map (some b1)))), (15, ((ksl (karr 32 (kint .u8))).V p2)), (16, ((kint .i64).V (p2.length : Int))), (17, ((kint .i64).V y6)), (32, ((ksl (kint .i64)).V x3.Past)), (33, ((kint .i64).V (x3.Past.length : Int))), (34, ((kint .i64).V q.1))] a w) ?_ k ((0 : Int), (mput y7 x2 true)) _ _ h19 (s86.sub (.cons rfl (.cons rfl (.cons rfl (.cons rfl (.cons rfl (.cons rfl (.cons rfl (.cons rfl .nil)))))))))
   rintro n3 ⟨y9, y10⟩ a87 w87 h20 s87 K26 hK26
   replace h20 : graph_past.l3 k x3 y6 (graph_past.l2 k p2 p1 n2) (n3 + 1) y9 y10 = some r := h20; rw [graph_past.l3] at h20
   have h21 := h20; clear h20
   refine wp_seq_k fun K27 hK27 => wp_region_lit (qs s87 (.c1 rfl (ob_lss rfl (.tmp rfl) (.tmp rfl)) (.ce (u 0 rfl (u 6 rfl (u 15 rfl (u 16 rfl (u 17 rfl (u 32 rfl (u 33 rfl (u 34 rfl (u 35 rfl .nil))))))))))) fun _ _ s89 => wn hK27 ?_); clear s87
   refine wp_seq_k fun K28 hK28 => ?_
   refine cond_split s89 (.tmp rfl) (fun hc5 => ?_) (fun hc5 => ?_)
   ·have h22 := ite_t hc5 h21; clear h21
    refine wp_skip ?_
    refine then_normal (hK28 _ _ ?_)
    have s90 := s89.sub (u 0 rfl (u 6 rfl (u 15 rfl (u 16 rfl (u 17 rfl (u 32 rfl (u 33 rfl (u 34 rfl .nil)))))))); clear s89
    refine wp_seq_k fun K29 hK29 => wp_block ?_
    obtain ⟨x4, e_x4, h23⟩ := bind_some h22; clear h22
    refine wp_seq_k fun K30 hK30 => wp_region_lit (qs s90 (.c1 rfl (ob_indexAddrs rfl Try.underlying41 sz3 (.tmp rfl) (.tmp rfl) e_x4) (.c1 rfl (ob_loadr rfl tk3 (.tmp rfl)) (.c1 rfl (ob_assign rfl (.tmp rfl)) (.ce (u 0 rfl (u 6 rfl (u 11 rfl (u 15 rfl (u 16 rfl (u 17 rfl (u 32 rfl (u 33 rfl (u 34 rfl .nil))))))))))))) fun _ _ s94 => wn hK30 ?_); clear s90
    refine wp_region_lit (qs s94 (.c1 rfl (mv rfl rfl) (.c1 rfl (mv rfl rfl) .cz)) fun _ _ s96 => ?_); clear s94
    refine seq_opx0 (B' := (fun _ : Unit => [MapF b1 .i64 (mput y10 x4 true)])) s96 rfl rfl (ob_mapUpdate (A := []) rfl Try.underlying122 Try.underlying3 (.tmp rfl) (.tmp rfl) opd_bool rfl rfl) fun _ a97 w97 s97 => ?_; clear s96
    refine wpList_nil ?_
    refine in_normal ?_
    refine then_normal (hK29 _ _ ?_)
    have s98 := s97.sub (u 0 rfl (u 6 rfl (u 15 rfl (u 16 rfl (u 17 rfl (u 32 rfl (u 33 rfl (u 34 rfl .nil)))))))); clear s97
    refine wp_region_lit (qs s98 (.c1 rfl (ob_add rfl (.tmp rfl) (opd_int rfl)) (.c1 rfl (mv rfl rfl) .cz)) fun _ _ s100 => ?_); clear s98
    refine wpList_nil ?_
    refine then_normal ?_
    exact hK26 ((iadd .i64 y9 (1 : Int)), (mput y10 x4 true)) _ _ h23 (s100.sub (.cons rfl (.cons rfl (.cons rfl (.cons rfl (.cons rfl (.cons rfl (.cons rfl (.cons rfl .nil)))))))))
   ·have h24 := ite_f hc5 h21; clear h21
    refine wp_exit ?_
    refine (then_exit (then_exit (in_here ?_)))
    refine in_normal ?_
    refine then_normal ?_
    exact hj4 y10 _ _ h24 (s89.sub (.cons rfl (.cons rfl (.cons rfl (.cons rfl (.cons rfl .nil))))))
 ·have h25 := ite_f hc3 h12; clear h12
  refine wp_exit ?_
  refine (then_exit (then_exit (in_here ?_)))
  refine then_normal ?_
  exact hj1 y7 _ _ h25 (s50.sub (.cons rfl (.cons rfl .nil)))
end Go.Proofs.Ytdlnfgpcnfbjiaa
