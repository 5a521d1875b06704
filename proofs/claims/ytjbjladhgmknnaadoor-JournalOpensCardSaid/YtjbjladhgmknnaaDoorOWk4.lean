/- Several parts of this proof in one file. No condition. -/
import Derived.Test.YtjbjladhgmknnaaDoorOWk3
namespace Go.Proofs.YtjbjladhgmknnaaDoor
open Go Go.RowKit Go.Proofs.Kit Go.Proofs.Pure
set_option linter.unusedVariables false
set_option linter.unusedSimpArgs false
set_option maxRecDepth 100000
set_option maxHeartbeats 2000000
theorem c_cabalref01_Block (k : Nat) (p1 : (List Int)) (p2 : (List Int)) (r : (List Int)) (h0 : cabalref01_Block k p1 p2 = some r) (ok : Ok) (w0 : World) (z0 : Value) (z1 : Value) (u0 : ((karr 8 (kint .u32)).V p1).holds ok w0 z0) (u1 : (kstr.V p2).holds ok w0 z1) :
 Gives Tryd.prog 75 [z0, z1] ok w0 (resFact [(karr 8 (kint .u32)).V r]) := by
 unfold cabalref01_Block at h0
 refine enter (N := 211) Tryd.func75 rfl rfl (of_decide_eq_true rfl) (.cons u0 (.cons u1 .nil)) fun a1 s1 => ?_
 refine wp_seq_k fun K1 hK1 => wp_region_lit ?_
 refine qx (B' := (fun b1 : Nat => [BF b1 119 (karr 8 (kint .u32)) p1])) s1 rfl (ob_box rfl (.tmp rfl)) fun b1 _ _ s2 => ?_; clear s1
 refine qx (B' := (fun b2 : Nat => [BF b2 119 (karr 8 (kint .u32)) (List.replicate 8 (0 : Int)), BF b1 119 (karr 8 (kint .u32)) p1])) s2 rfl (ob_new (k := (karr 8 (kint .u32))) rfl zz119 (Zr.arr 8 (Zr.int .u32))) fun b2 _ _ s3 => ?_; clear s2
 refine wn hK1 ?_
 have s4 := s3.sub (u 1 rfl (u 2 rfl (u 4 rfl .nil))); clear s3
 refine wp_seq_k fun K2 hK2 => wp_region_lit ?_
 refine qx (B' := (fun b3 : Nat => [BF b3 132 (karr 64 (kint .u32)) (List.replicate 64 (0 : Int)), BF b2 119 (karr 8 (kint .u32)) (List.replicate 8 (0 : Int)), BF b1 119 (karr 8 (kint .u32)) p1])) s4 rfl (ob_new (k := (karr 64 (kint .u32))) rfl zz132 (Zr.arr 64 (Zr.int .u32))) fun b3 _ _ s5 => ?_; clear s4
 refine wn hK2 ?_
 have s6 := s5.sub (u 1 rfl (u 2 rfl (u 4 rfl (u 5 rfl .nil)))); clear s5
 refine wp_seq_k fun K3 hK3 => wp_seq_k fun K4 hK4 => ?_
 refine wp_region_lit (qs s6 (.c1 rfl (ob_assign rfl (opd_int rfl)) (.ce (u 1 rfl (u 2 rfl (u 4 rfl (u 5 rfl (u 6 rfl .nil))))))) fun _ _ s8 => wn hK4 ?_); clear s6
 have hj1 : ∀ (y1 : (List Int)) (a : Act) (w : World), (cabalref01_Block.j1 k p1) y1 = some r → St ⟨211, w0, ok, []⟩ [BF b1 119 (karr 8 (kint .u32)) p1, BF b2 119 (karr 8 (kint .u32)) (List.replicate 8 (0 : Int)), BF b3 132 (karr 64 (kint .u32)) y1] [(2, (ptrB b1 0)), (4, (ptrB b2 0)), (5, (ptrB b3 0))] a w → K3 a w := by
  intro y1 a9 w9 h1 s9
  unfold cabalref01_Block.j1 at h1
  refine hK3 _ _ ?_
  refine wp_seq_k fun K5 hK5 => wp_seq_k fun K6 hK6 => ?_
  refine wp_region_lit (qs s9 (.c1 rfl (ob_assign rfl (opd_int rfl)) (.ce (u 2 rfl (u 4 rfl (u 5 rfl (u 7 rfl .nil)))))) fun _ _ s11 => wn hK6 ?_); clear s9
  have hj2 : ∀ (y2 : (List Int)) (a : Act) (w : World), (cabalref01_Block.j2 k p1) y2 = some r → St ⟨211, w0, ok, []⟩ [BF b1 119 (karr 8 (kint .u32)) p1, BF b2 119 (karr 8 (kint .u32)) (List.replicate 8 (0 : Int)), BF b3 132 (karr 64 (kint .u32)) y2] [(2, (ptrB b1 0)), (4, (ptrB b2 0)), (5, (ptrB b3 0))] a w → K5 a w := by
   intro y2 a12 w12 h2 s12
   unfold cabalref01_Block.j2 at h2
   refine hK5 _ _ ?_
   obtain ⟨x1, e_x1, h3⟩ := bind_some h2; clear h2
   refine wp_seq_k fun K7 hK7 => wp_region_lit (qs s12 (.c1 rfl (ob_callD0 (args := []) rfl .direct hb87 (fun a w s => by exact c_cabalref01_Rounds k _ e_x1 _ _)) .cz) fun _ _ s13 => ?_); clear s12
   refine qx (B' := (fun b4 : Nat => [BF b4 132 (karr 64 (kint .u32)) (List.replicate 64 (0 : Int)), BF b1 119 (karr 8 (kint .u32)) p1, BF b2 119 (karr 8 (kint .u32)) (List.replicate 8 (0 : Int)), BF b3 132 (karr 64 (kint .u32)) y2])) s13 rfl (ob_new (k := (karr 64 (kint .u32))) rfl zz132 (Zr.arr 64 (Zr.int .u32))) fun b4 _ _ s14 => ?_; clear s13
   refine seq_opx0 (B' := (fun _ : Unit => [BF b4 132 (karr 64 (kint .u32)) x1, BF b1 119 (karr 8 (kint .u32)) p1, BF b2 119 (karr 8 (kint .u32)) (List.replicate 8 (0 : Int)), BF b3 132 (karr 64 (kint .u32)) y2])) s14 rfl rfl (ob_store (A := []) rfl tk132 (.tmp rfl) (.tmp rfl) rfl (LS.refl _ _ _) rfl) fun _ a15 w15 s15 => ?_; clear s14
   refine wn hK7 ?_
   have s16 := s15.sub (u 2 rfl (u 4 rfl (u 5 rfl (u 10 rfl .nil)))); clear s15
   refine wp_seq_k fun K8 hK8 => ?_
   obtain ⟨x2, e_x2, h4⟩ := bind_some h3; clear h3
   obtain ⟨x3, e_x3, h5⟩ := bind_some h4; clear h4
   obtain ⟨x4, e_x4, h6⟩ := bind_some h5; clear h5
   obtain ⟨x5, e_x5, h7⟩ := bind_some h6; clear h6
   refine wp_goes (Fs := [(ptrB b1 ((0 : Int).toNat * 1)), ((kint .u32).V x2), (ptrB b1 ((1 : Int).toNat * 1)), ((kint .u32).V x3), (ptrB b1 ((2 : Int).toNat * 1)), ((kint .u32).V x4), (ptrB b1 ((3 : Int).toNat * 1)), ((kint .u32).V x5), ((kint .u32).V x2), ((kint .u32).V x3), ((kint .u32).V x4)]) (bits := [0, 1, 0, 4, 0, 16, 0, 64, 3, 271, 831, 2047]) (m := 11) (todo := 0) mx s16 ?_; clear s16
   refine goes_last (by kernel_rfl) rfl (oc (av 2 rfl rfl Av.nil) rfl rfl (ob_indexAddr rfl Tryd.underlying119 sz116 (.tmp rfl) (opd_int rfl) (by decide) (by decide) (Nat.zero_add _)) (oc (an 0 rfl rfl rfl Av.nil) rfl rfl (ob_load rfl tk116 (.tmp rfl) (.tail _ (.head _)) (LG.arrA e_x2)) (oc (av 2 rfl rfl Av.nil) rfl rfl (ob_indexAddr rfl Tryd.underlying119 sz116 (.tmp rfl) (opd_int rfl) (by decide) (by decide) (Nat.zero_add _)) (oc (an 2 rfl rfl rfl Av.nil) rfl rfl (ob_load rfl tk116 (.tmp rfl) (.tail _ (.head _)) (LG.arrA e_x3)) (oc (av 2 rfl rfl Av.nil) rfl rfl (ob_indexAddr rfl Tryd.underlying119 sz116 (.tmp rfl) (opd_int rfl) (by decide) (by decide) (Nat.zero_add _)) (oc (an 4 rfl rfl rfl Av.nil) rfl rfl (ob_load rfl tk116 (.tmp rfl) (.tail _ (.head _)) (LG.arrA e_x4)) (oc (av 2 rfl rfl Av.nil) rfl rfl (ob_indexAddr rfl Tryd.underlying119 sz116 (.tmp rfl) (opd_int rfl) (by decide) (by decide) (Nat.zero_add _)) (oc (an 6 rfl rfl rfl Av.nil) rfl rfl (ob_load rfl tk116 (.tmp rfl) (.tail _ (.head _)) (LG.arrA e_x5)) (oc (an 1 rfl rfl rfl Av.nil) rfl rfl (ob_assign rfl (.tmp rfl)) (oc (an 3 rfl rfl rfl Av.nil) rfl rfl (ob_assign rfl (.tmp rfl)) (oc (an 5 rfl rfl rfl Av.nil) rfl rfl (ob_assign rfl (.tmp rfl)) opsS_nil))))))))))) (out_old (t := 2) rfl rfl (out_old (t := 4) rfl rfl (out_old (t := 5) rfl rfl (out_old (t := 10) rfl rfl (out_new (i := 8) (by decide) rfl rfl (out_new (i := 9) (by decide) rfl rfl (out_new (i := 10) (by decide) rfl rfl (out_new (i := 7) (by decide) rfl rfl out_nil)))))))) fun _ _ s17 => ?_
   refine qs s17 (.c1 rfl (ob_assign rfl (.tmp rfl)) (.ce (u 2 rfl (u 4 rfl (u 5 rfl (u 10 rfl (u 11 rfl (u 12 rfl (u 13 rfl (u 14 rfl .nil)))))))))) fun _ _ s19 => wn hK8 ?_; clear s17
   refine wp_seq_k fun K9 hK9 => ?_
   obtain ⟨x6, e_x6, h8⟩ := bind_some h7; clear h7
   obtain ⟨x7, e_x7, h9⟩ := bind_some h8; clear h8
   obtain ⟨x8, e_x8, h10⟩ := bind_some h9; clear h9
   obtain ⟨x9, e_x9, h11⟩ := bind_some h10; clear h10
   refine wp_goes (Fs := [(ptrB b1 ((4 : Int).toNat * 1)), ((kint .u32).V x6), (ptrB b1 ((5 : Int).toNat * 1)), ((kint .u32).V x7), (ptrB b1 ((6 : Int).toNat * 1)), ((kint .u32).V x8), (ptrB b1 ((7 : Int).toNat * 1)), ((kint .u32).V x9), ((kint .u32).V x6), ((kint .u32).V x7), ((kint .u32).V x8)]) (bits := [0, 1, 0, 4, 0, 16, 0, 64, 3, 271, 831, 2047]) (m := 11) (todo := 0) mx s19 ?_; clear s19
   refine goes_last (by kernel_rfl) rfl (oc (av 2 rfl rfl Av.nil) rfl rfl (ob_indexAddr rfl Tryd.underlying119 sz116 (.tmp rfl) (opd_int rfl) (by decide) (by decide) (Nat.zero_add _)) (oc (an 0 rfl rfl rfl Av.nil) rfl rfl (ob_load rfl tk116 (.tmp rfl) (.tail _ (.head _)) (LG.arrA e_x6)) (oc (av 2 rfl rfl Av.nil) rfl rfl (ob_indexAddr rfl Tryd.underlying119 sz116 (.tmp rfl) (opd_int rfl) (by decide) (by decide) (Nat.zero_add _)) (oc (an 2 rfl rfl rfl Av.nil) rfl rfl (ob_load rfl tk116 (.tmp rfl) (.tail _ (.head _)) (LG.arrA e_x7)) (oc (av 2 rfl rfl Av.nil) rfl rfl (ob_indexAddr rfl Tryd.underlying119 sz116 (.tmp rfl) (opd_int rfl) (by decide) (by decide) (Nat.zero_add _)) (oc (an 4 rfl rfl rfl Av.nil) rfl rfl (ob_load rfl tk116 (.tmp rfl) (.tail _ (.head _)) (LG.arrA e_x8)) (oc (av 2 rfl rfl Av.nil) rfl rfl (ob_indexAddr rfl Tryd.underlying119 sz116 (.tmp rfl) (opd_int rfl) (by decide) (by decide) (Nat.zero_add _)) (oc (an 6 rfl rfl rfl Av.nil) rfl rfl (ob_load rfl tk116 (.tmp rfl) (.tail _ (.head _)) (LG.arrA e_x9)) (oc (an 1 rfl rfl rfl Av.nil) rfl rfl (ob_assign rfl (.tmp rfl)) (oc (an 3 rfl rfl rfl Av.nil) rfl rfl (ob_assign rfl (.tmp rfl)) (oc (an 5 rfl rfl rfl Av.nil) rfl rfl (ob_assign rfl (.tmp rfl)) opsS_nil))))))))))) (out_old (t := 2) rfl rfl (out_old (t := 4) rfl rfl (out_old (t := 5) rfl rfl (out_old (t := 10) rfl rfl (out_old (t := 11) rfl rfl (out_old (t := 12) rfl rfl (out_old (t := 13) rfl rfl (out_old (t := 14) rfl rfl (out_new (i := 8) (by decide) rfl rfl (out_new (i := 9) (by decide) rfl rfl (out_new (i := 10) (by decide) rfl rfl (out_new (i := 7) (by decide) rfl rfl out_nil)))))))))))) fun _ _ s20 => ?_
   refine qs s20 (.c1 rfl (ob_assign rfl (.tmp rfl)) (.ce (u 2 rfl (u 4 rfl (u 5 rfl (u 10 rfl (u 11 rfl (u 12 rfl (u 13 rfl (u 14 rfl (u 15 rfl (u 16 rfl (u 17 rfl (u 18 rfl .nil)))))))))))))) fun _ _ s22 => wn hK9 ?_; clear s20
   refine wp_seq_k fun K10 hK10 => wp_seq_k fun K11 hK11 => ?_
   refine wp_region_lit (qs s22 (.c1 rfl (ob_assign rfl (opd_int rfl)) (.ce (u 2 rfl (u 4 rfl (u 5 rfl (u 10 rfl (u 11 rfl (u 12 rfl (u 13 rfl (u 14 rfl (u 15 rfl (u 16 rfl (u 17 rfl (u 18 rfl (u 19 rfl .nil))))))))))))))) fun _ _ s24 => wn hK11 ?_); clear s22
   have hj3 : ∀ (y3 : Int) (y4 : Int) (y5 : Int) (y6 : Int) (y7 : Int) (y8 : Int) (y9 : Int) (y10 : Int) (a : Act) (w : World), (cabalref01_Block.j3 k p1) y3 y4 y5 y6 y7 y8 y9 y10 = some r → St ⟨211, w0, ok, []⟩ [BF b1 119 (karr 8 (kint .u32)) p1, BF b2 119 (karr 8 (kint .u32)) (List.replicate 8 (0 : Int))] [(2, (ptrB b1 0)), (4, (ptrB b2 0)), (11, ((kint .u32).V y3)), (12, ((kint .u32).V y4)), (13, ((kint .u32).V y5)), (14, ((kint .u32).V y6)), (15, ((kint .u32).V y7)), (16, ((kint .u32).V y8)), (17, ((kint .u32).V y9)), (18, ((kint .u32).V y10))] a w → K10 a w := by
    intro y3 y4 y5 y6 y7 y8 y9 y10 a25 w25 h12 s25
    unfold cabalref01_Block.j3 at h12
    refine hK10 _ _ ?_
    obtain ⟨x10, e_x10, h13⟩ := bind_some h12; clear h12
    obtain ⟨x11, e_x11, h14⟩ := bind_some h13; clear h13
    obtain ⟨x12, e_x12, h15⟩ := bind_some h14; clear h14
    obtain ⟨x13, e_x13, h16⟩ := bind_some h15; clear h15
    obtain ⟨x14, e_x14, h17⟩ := bind_some h16; clear h16
    obtain ⟨x15, e_x15, h18⟩ := bind_some h17; clear h17
    obtain ⟨x16, e_x16, h19⟩ := bind_some h18; clear h18
    obtain ⟨x17, e_x17, h20⟩ := bind_some h19; clear h19
    obtain ⟨x18, e_x18, h21⟩ := bind_some h20; clear h20; replace e_x18 := Option.some.inj e_x18
    refine wp_seq_k fun K12 hK12 => wp_region_lit (qs s25 (.c1 rfl (ob_indexAddr rfl Tryd.underlying119 sz116 (.tmp rfl) (opd_int rfl) (by decide) (by decide) (Nat.zero_add _)) (.c1 rfl (ob_load rfl tk116 (.tmp rfl) (.head _) (LG.arrA e_x10)) (.c1 rfl (mv rfl rfl) (.c1 rfl (ob_add rfl (.tmp rfl) (.tmp rfl)) (.c1 rfl (ob_indexAddr rfl Tryd.underlying119 sz116 (.tmp rfl) (opd_int rfl) (by decide) (by decide) (Nat.zero_add _)) (.c1 rfl (ob_load rfl tk116 (.tmp rfl) (.head _) (LG.arrA e_x11)) (.c1 rfl (mv rfl rfl) (.c1 rfl (ob_add rfl (.tmp rfl) (.tmp rfl)) (.c1 rfl (ob_indexAddr rfl Tryd.underlying119 sz116 (.tmp rfl) (opd_int rfl) (by decide) (by decide) (Nat.zero_add _)) (.c1 rfl (ob_load rfl tk116 (.tmp rfl) (.head _) (LG.arrA e_x12)) (.c1 rfl (mv rfl rfl) (.c1 rfl (ob_add rfl (.tmp rfl) (.tmp rfl)) (.c1 rfl (ob_indexAddr rfl Tryd.underlying119 sz116 (.tmp rfl) (opd_int rfl) (by decide) (by decide) (Nat.zero_add _)) (.c1 rfl (ob_load rfl tk116 (.tmp rfl) (.head _) (LG.arrA e_x13)) (.c1 rfl (mv rfl rfl) (.c1 rfl (ob_add rfl (.tmp rfl) (.tmp rfl)) (.c1 rfl (ob_indexAddr rfl Tryd.underlying119 sz116 (.tmp rfl) (opd_int rfl) (by decide) (by decide) (Nat.zero_add _)) (.c1 rfl (ob_load rfl tk116 (.tmp rfl) (.head _) (LG.arrA e_x14)) (.c1 rfl (mv rfl rfl) (.c1 rfl (ob_add rfl (.tmp rfl) (.tmp rfl)) (.c1 rfl (ob_indexAddr rfl Tryd.underlying119 sz116 (.tmp rfl) (opd_int rfl) (by decide) (by decide) (Nat.zero_add _)) (.c1 rfl (ob_load rfl tk116 (.tmp rfl) (.head _) (LG.arrA e_x15)) (.c1 rfl (mv rfl rfl) (.c1 rfl (ob_add rfl (.tmp rfl) (.tmp rfl)) (.c1 rfl (ob_indexAddr rfl Tryd.underlying119 sz116 (.tmp rfl) (opd_int rfl) (by decide) (by decide) (Nat.zero_add _)) (.c1 rfl (ob_load rfl tk116 (.tmp rfl) (.head _) (LG.arrA e_x16)) (.c1 rfl (mv rfl rfl) (.c1 rfl (ob_add rfl (.tmp rfl) (.tmp rfl)) (.c1 rfl (ob_indexAddr rfl Tryd.underlying119 sz116 (.tmp rfl) (opd_int rfl) (by decide) (by decide) (Nat.zero_add _)) (.c1 rfl (ob_load rfl tk116 (.tmp rfl) (.head _) (LG.arrA e_x17)) (.c1 rfl (mv rfl rfl) (.c1 rfl (ob_add rfl (.tmp rfl) (.tmp rfl)) (.c1 rfl (((ob_mkArr (k := (kint .u32)) rfl Tryd.underlying119 zz119 sz116 (Zr.arr 8 (Zr.int .u32)) (.cons (.tmp rfl) rfl (LS.arr' (i := 0) (ys := ([(iadd .u32 x10 y3), (0 : Int), (0 : Int), (0 : Int), (0 : Int), (0 : Int), (0 : Int), (0 : Int)] : (List Int))) (by simp) (by rfl)) (.cons (.tmp rfl) rfl (LS.arr' (i := 1) (ys := ([(iadd .u32 x10 y3), (iadd .u32 x11 y4), (0 : Int), (0 : Int), (0 : Int), (0 : Int), (0 : Int), (0 : Int)] : (List Int))) (by simp) (by rfl)) (.cons (.tmp rfl) rfl (LS.arr' (i := 2) (ys := ([(iadd .u32 x10 y3), (iadd .u32 x11 y4), (iadd .u32 x12 y5), (0 : Int), (0 : Int), (0 : Int), (0 : Int), (0 : Int)] : (List Int))) (by simp) (by rfl)) (.cons (.tmp rfl) rfl (LS.arr' (i := 3) (ys := ([(iadd .u32 x10 y3), (iadd .u32 x11 y4), (iadd .u32 x12 y5), (iadd .u32 x13 y6), (0 : Int), (0 : Int), (0 : Int), (0 : Int)] : (List Int))) (by simp) (by rfl)) (.cons (.tmp rfl) rfl (LS.arr' (i := 4) (ys := ([(iadd .u32 x10 y3), (iadd .u32 x11 y4), (iadd .u32 x12 y5), (iadd .u32 x13 y6), (iadd .u32 x14 y7), (0 : Int), (0 : Int), (0 : Int)] : (List Int))) (by simp) (by rfl)) (.cons (.tmp rfl) rfl (LS.arr' (i := 5) (ys := ([(iadd .u32 x10 y3), (iadd .u32 x11 y4), (iadd .u32 x12 y5), (iadd .u32 x13 y6), (iadd .u32 x14 y7), (iadd .u32 x15 y8), (0 : Int), (0 : Int)] : (List Int))) (by simp) (by rfl)) (.cons (.tmp rfl) rfl (LS.arr' (i := 6) (ys := ([(iadd .u32 x10 y3), (iadd .u32 x11 y4), (iadd .u32 x12 y5), (iadd .u32 x13 y6), (iadd .u32 x14 y7), (iadd .u32 x15 y8), (iadd .u32 x16 y9), (0 : Int)] : (List Int))) (by simp) (by rfl)) (.cons (.tmp rfl) rfl (LS.arr' (i := 7) (ys := ([(iadd .u32 x10 y3), (iadd .u32 x11 y4), (iadd .u32 x12 y5), (iadd .u32 x13 y6), (iadd .u32 x14 y7), (iadd .u32 x15 y8), (iadd .u32 x16 y9), (iadd .u32 x17 y10)] : (List Int))) (by simp) (by rfl)) (.nil _))))))))) : Ob _ _ _ _ _ ((karr 8 (kint .u32)).V ([(iadd .u32 x10 y3), (iadd .u32 x11 y4), (iadd .u32 x12 y5), (iadd .u32 x13 y6), (iadd .u32 x14 y7), (iadd .u32 x15 y8), (iadd .u32 x16 y9), (iadd .u32 x17 y10)] : (List Int))))).nm e_x18) .cz))))))))))))))))))))))))))))))))) fun _ _ s58 => ?_); clear s25
    refine seq_opx0 (B' := (fun _ : Unit => [BF b1 119 (karr 8 (kint .u32)) p1, BF b2 119 (karr 8 (kint .u32)) x18])) s58 rfl rfl (ob_store (A := [_]) rfl tk119 (.tmp rfl) (.tmp rfl) rfl (LS.refl _ _ _) rfl) fun _ a59 w59 s59 => ?_; clear s58
    refine wn hK12 ?_
    have s60 := s59.sub (u 4 rfl .nil); clear s59
    have s61 := St.drop (A := []) s60; clear s60
    refine wp_ret ?_
    obtain rfl := Option.some.inj h21
    exact leave s61 (.inl rfl) rfl (.cons (.cell rfl tk119 (.head _) (LG.refl _ _)) .nil)
   refine wp_block ?_
   have s62 := s24.perm (toFront [_] (toFront [_] (toFront [_] (toFront [] (List.Perm.refl _))))); clear s24
   refine wp_loop_fuel (fun m (q : Int × Int × Int × Int × Int × Int × Int × Int × Int) => cabalref01_Block.l1 k x1 y2 p1 m q.1 q.2.1 q.2.2.1 q.2.2.2.1 q.2.2.2.2.1 q.2.2.2.2.2.1 q.2.2.2.2.2.2.1 q.2.2.2.2.2.2.2.1 q.2.2.2.2.2.2.2.2) r (fun _ => rfl) (fun q a w => St ⟨211, w0, ok, []⟩ [BF b1 119 (karr 8 (kint .u32)) p1, BF b2 119 (karr 8 (kint .u32)) (List.replicate 8 (0 : Int)), BF b3 132 (karr 64 (kint .u32)) y2, BF b4 132 (karr 64 (kint .u32)) x1] [(2, (ptrB b1 0)), (4, (ptrB b2 0)), (5, (ptrB b3 0)), (10, (ptrB b4 0)), (11, ((kint .u32).V q.1)), (12, ((kint .u32).V q.2.1)), (13, ((kint .u32).V q.2.2.1)), (14, ((kint .u32).V q.2.2.2.1)), (15, ((kint .u32).V q.2.2.2.2.1)), (16, ((kint .u32).V q.2.2.2.2.2.1)), (17, ((kint .u32).V q.2.2.2.2.2.2.1)), (18, ((kint .u32).V q.2.2.2.2.2.2.2.1)), (19, ((kint .i64).V q.2.2.2.2.2.2.2.2))] a w) ?_ k (x2, x3, x4, x5, x6, x7, x8, x9, (0 : Int)) _ _ h11 (s62.sub (.cons rfl (.cons rfl (.cons rfl (.cons rfl (.cons rfl (.cons rfl (.cons rfl (.cons rfl (.cons rfl (.cons rfl (.cons rfl (.cons rfl (.cons rfl .nil))))))))))))))
   rintro n1 ⟨y11, y12, y13, y14, y15, y16, y17, y18, y19⟩ a63 w63 h22 s63 K13 hK13
   replace h22 : cabalref01_Block.l1 k x1 y2 p1 (n1 + 1) y11 y12 y13 y14 y15 y16 y17 y18 y19 = some r := h22; rw [cabalref01_Block.l1] at h22
   have h23 := h22; clear h22
   refine wp_seq_k fun K14 hK14 => wp_seq_k fun K15 hK15 => ?_
   refine wp_region_lit (qs s63 (.c1 rfl (mv rfl rfl) (.c1 rfl (ob_lss rfl (.tmp rfl) (opd_int rfl)) (.ce (u 2 rfl (u 4 rfl (u 5 rfl (u 10 rfl (u 11 rfl (u 12 rfl (u 13 rfl (u 14 rfl (u 15 rfl (u 16 rfl (u 17 rfl (u 18 rfl (u 19 rfl (u 116 rfl .nil))))))))))))))))) fun _ _ s66 => wn hK15 ?_); clear s63
   refine cond_split s66 (.tmp rfl) (fun hc1 => ?_) (fun hc1 => ?_)
   ·have h24 := ite_t hc1 h23; clear h23
    refine wp_skip ?_
    refine then_normal (hK14 _ _ ?_)
    have s67 := s66.sub (u 2 rfl (u 4 rfl (u 5 rfl (u 10 rfl (u 11 rfl (u 12 rfl (u 13 rfl (u 14 rfl (u 15 rfl (u 16 rfl (u 17 rfl (u 18 rfl (u 19 rfl .nil))))))))))))); clear s66
    refine wp_seq_k fun K16 hK16 => wp_block ?_
    refine wp_seq_k fun K17 hK17 => ?_
    obtain ⟨x19, e_x19, h25⟩ := bind_some h24; clear h24
    obtain ⟨x20, e_x20, h26⟩ := bind_some h25; clear h25
    obtain ⟨x21, e_x21, h27⟩ := bind_some h26; clear h26
    obtain ⟨x22, e_x22, h28⟩ := bind_some h27; clear h27; replace e_x22 := Option.some.inj e_x22
    obtain ⟨g1, h29⟩ := guard_some h28; clear h28
    obtain ⟨x23, e_x23, h30⟩ := bind_some h29; clear h29
    obtain ⟨g2, h31⟩ := guard_some h30; clear h30
    obtain ⟨x24, e_x24, h32⟩ := bind_some h31; clear h31
    refine wp_goes (Fs := [((kint .u32).V y18), ((kint .u32).V y15), ((kint .u32).V x19), ((kint .u32).V y15), ((kint .u32).V x20), ((kint .u32).V (ixor .u32 x19 x20)), ((kint .u32).V y15), ((kint .u32).V x21), ((kint .u32).V (ixor .u32 (ixor .u32 x19 x20) x21)), ((kint .u32).V (iadd .u32 y18 (ixor .u32 (ixor .u32 x19 x20) x21))), ((kint .u32).V y15), ((kint .u32).V y16), ((kint .u32).V (iand .u32 y15 y16)), ((kint .u32).V y15), ((kint .u32).V (inot .u32 y15)), ((kint .u32).V y17), ((kint .u32).V (iand .u32 (inot .u32 y15) y17)), ((kint .u32).V (ior .u32 (iand .u32 y15 y16) (iand .u32 (inot .u32 y15) y17))), ((kint .u32).V x22), ((kint .i64).V y19), (ptrB b4 (y19.toNat * 1)), ((kint .u32).V x23), ((kint .u32).V (iadd .u32 x22 x23)), ((kint .i64).V y19), (ptrB b3 (y19.toNat * 1)), ((kint .u32).V x24)]) (bits := [0, 0, 2, 0, 14, 30, 0, 94, 254, 511, 0, 0, 3072, 0, 8192, 0, 57344, 130048, 262143, 0, 524288, 1572864, 4194303, 0, 8388608, 25165824, 67108863, 134217727]) (m := 26) (todo := 0) mx s67 ?_; clear s67
    refine goes_last (by kernel_rfl) rfl (oc (av 18 rfl rfl Av.nil) rfl rfl (mv rfl rfl) (oc (av 15 rfl rfl Av.nil) rfl rfl (mv rfl rfl) (oc (an 1 rfl rfl rfl Av.nil) rfl rfl (ob_callD0 (args := [_, _]) rfl .direct hb86 (fun a w s => by exact c_cabalref01_Right k _ _ _ e_x19 _ _ _ _ (s.arg (.tmp rfl)) (s.arg (opd_int rfl)))) (oc (av 15 rfl rfl Av.nil) rfl rfl (mv rfl rfl) (oc (an 3 rfl rfl rfl Av.nil) rfl rfl (ob_callD0 (args := [_, _]) rfl .direct hb86 (fun a w s => by exact c_cabalref01_Right k _ _ _ e_x20 _ _ _ _ (s.arg (.tmp rfl)) (s.arg (opd_int rfl)))) (oc (an 2 rfl rfl rfl (an 4 rfl rfl rfl Av.nil)) rfl rfl (ob_xor rfl (.tmp rfl) (.tmp rfl)) (oc (av 15 rfl rfl Av.nil) rfl rfl (mv rfl rfl) (oc (an 6 rfl rfl rfl Av.nil) rfl rfl (ob_callD0 (args := [_, _]) rfl .direct hb86 (fun a w s => by exact c_cabalref01_Right k _ _ _ e_x21 _ _ _ _ (s.arg (.tmp rfl)) (s.arg (opd_int rfl)))) (oc (an 5 rfl rfl rfl (an 7 rfl rfl rfl Av.nil)) rfl rfl (ob_xor rfl (.tmp rfl) (.tmp rfl)) (oc (an 0 rfl rfl rfl (an 8 rfl rfl rfl Av.nil)) rfl rfl (ob_add rfl (.tmp rfl) (.tmp rfl)) (oc (av 15 rfl rfl Av.nil) rfl rfl (mv rfl rfl) (oc (av 16 rfl rfl Av.nil) rfl rfl (mv rfl rfl) (oc (an 10 rfl rfl rfl (an 11 rfl rfl rfl Av.nil)) rfl rfl (ob_and rfl (.tmp rfl) (.tmp rfl)) (oc (av 15 rfl rfl Av.nil) rfl rfl (mv rfl rfl) (oc (an 13 rfl rfl rfl Av.nil) rfl rfl (ob_xor1 rfl (.tmp rfl)) (oc (av 17 rfl rfl Av.nil) rfl rfl (mv rfl rfl) (oc (an 14 rfl rfl rfl (an 15 rfl rfl rfl Av.nil)) rfl rfl (ob_and rfl (.tmp rfl) (.tmp rfl)) (oc (an 12 rfl rfl rfl (an 16 rfl rfl rfl Av.nil)) rfl rfl (ob_or rfl (.tmp rfl) (.tmp rfl)) (oc (an 9 rfl rfl rfl (an 17 rfl rfl rfl Av.nil)) rfl rfl ((ob_add rfl (.tmp rfl) (.tmp rfl)).nm e_x22) (oc (av 19 rfl rfl Av.nil) rfl rfl (mv rfl rfl) (oc (av 10 rfl rfl (an 19 rfl rfl rfl Av.nil)) rfl rfl (ob_indexAddr rfl Tryd.underlying132 sz116 (.tmp rfl) (.tmp rfl) g1.1 g1.2 (Nat.zero_add _)) (oc (an 20 rfl rfl rfl Av.nil) rfl rfl (ob_load rfl tk116 (.tmp rfl) (.tail _ (.tail _ (.tail _ (.head _)))) (LG.arrA e_x23)) (oc (an 18 rfl rfl rfl (an 21 rfl rfl rfl Av.nil)) rfl rfl (ob_add rfl (.tmp rfl) (.tmp rfl)) (oc (av 19 rfl rfl Av.nil) rfl rfl (mv rfl rfl) (oc (av 5 rfl rfl (an 23 rfl rfl rfl Av.nil)) rfl rfl (ob_indexAddr rfl Tryd.underlying132 sz116 (.tmp rfl) (.tmp rfl) g2.1 g2.2 (Nat.zero_add _)) (oc (an 24 rfl rfl rfl Av.nil) rfl rfl (ob_load rfl tk116 (.tmp rfl) (.tail _ (.tail _ (.head _))) (LG.arrA e_x24)) opsS_nil)))))))))))))))))))))))))) (out_old (t := 2) rfl rfl (out_old (t := 4) rfl rfl (out_old (t := 5) rfl rfl (out_old (t := 10) rfl rfl (out_old (t := 11) rfl rfl (out_old (t := 12) rfl rfl (out_old (t := 13) rfl rfl (out_old (t := 14) rfl rfl (out_old (t := 15) rfl rfl (out_old (t := 16) rfl rfl (out_old (t := 17) rfl rfl (out_old (t := 19) rfl rfl (out_new (i := 22) (by decide) rfl rfl (out_new (i := 25) (by decide) rfl rfl out_nil)))))))))))))) fun _ _ s68 => ?_
    refine qs s68 (.c1 rfl (ob_add rfl (.tmp rfl) (.tmp rfl)) (.c1 rfl (ob_assign rfl (.tmp rfl)) (.ce (u 2 rfl (u 4 rfl (u 5 rfl (u 10 rfl (u 11 rfl (u 12 rfl (u 13 rfl (u 14 rfl (u 15 rfl (u 16 rfl (u 17 rfl (u 19 rfl (u 20 rfl .nil)))))))))))))))) fun _ _ s71 => wn hK17 ?_; clear s68
    obtain ⟨x25, e_x25, h33⟩ := bind_some h32; clear h32
    obtain ⟨x26, e_x26, h34⟩ := bind_some h33; clear h33
    obtain ⟨x27, e_x27, h35⟩ := bind_some h34; clear h34
    obtain ⟨x28, e_x28, h36⟩ := bind_some h35; clear h35; replace e_x28 := Option.some.inj e_x28
    refine wp_seq_k fun K18 hK18 => wp_region_lit (qs s71 (.c1 rfl (mv rfl rfl) (.c1 rfl (ob_callD0 (args := [_, _]) rfl .direct hb86 (fun a w s => by exact c_cabalref01_Right k _ _ _ e_x25 _ _ _ _ (s.arg (.tmp rfl)) (s.arg (opd_int rfl)))) (.c1 rfl (mv rfl rfl) (.c1 rfl (ob_callD0 (args := [_, _]) rfl .direct hb86 (fun a w s => by exact c_cabalref01_Right k _ _ _ e_x26 _ _ _ _ (s.arg (.tmp rfl)) (s.arg (opd_int rfl)))) (.c1 rfl (ob_xor rfl (.tmp rfl) (.tmp rfl)) (.c1 rfl (mv rfl rfl) (.c1 rfl (ob_callD0 (args := [_, _]) rfl .direct hb86 (fun a w s => by exact c_cabalref01_Right k _ _ _ e_x27 _ _ _ _ (s.arg (.tmp rfl)) (s.arg (opd_int rfl)))) (.c1 rfl (ob_xor rfl (.tmp rfl) (.tmp rfl)) (.c1 rfl (mv rfl rfl) (.c1 rfl (mv rfl rfl) (.c1 rfl (ob_and rfl (.tmp rfl) (.tmp rfl)) (.c1 rfl (mv rfl rfl) (.c1 rfl (mv rfl rfl) (.c1 rfl (ob_and rfl (.tmp rfl) (.tmp rfl)) (.c1 rfl (ob_or rfl (.tmp rfl) (.tmp rfl)) (.c1 rfl (mv rfl rfl) (.c1 rfl (mv rfl rfl) (.c1 rfl (ob_and rfl (.tmp rfl) (.tmp rfl)) (.c1 rfl ((ob_or rfl (.tmp rfl) (.tmp rfl)).nm e_x28) (.c1 rfl (ob_add rfl (.tmp rfl) (.tmp rfl)) (.c1 rfl (ob_assign rfl (.tmp rfl)) (.ce (u 2 rfl (u 4 rfl (u 5 rfl (u 10 rfl (u 11 rfl (u 12 rfl (u 13 rfl (u 14 rfl (u 15 rfl (u 16 rfl (u 17 rfl (u 19 rfl (u 20 rfl (u 21 rfl .nil)))))))))))))))))))))))))))))))))))) fun _ _ s93 => wn hK18 ?_); clear s71
    refine wp_seq_k fun K19 hK19 => wp_region_lit (qs s93 (.c1 rfl (mv rfl rfl) (.c1 rfl (ob_assign rfl (.tmp rfl)) (.ce (u 2 rfl (u 4 rfl (u 5 rfl (u 10 rfl (u 11 rfl (u 12 rfl (u 13 rfl (u 14 rfl (u 15 rfl (u 16 rfl (u 18 rfl (u 19 rfl (u 20 rfl (u 21 rfl .nil))))))))))))))))) fun _ _ s96 => wn hK19 ?_); clear s93
    refine wp_seq_k fun K20 hK20 => wp_region_lit (qs s96 (.c1 rfl (mv rfl rfl) (.c1 rfl (ob_assign rfl (.tmp rfl)) (.ce (u 2 rfl (u 4 rfl (u 5 rfl (u 10 rfl (u 11 rfl (u 12 rfl (u 13 rfl (u 14 rfl (u 15 rfl (u 17 rfl (u 18 rfl (u 19 rfl (u 20 rfl (u 21 rfl .nil))))))))))))))))) fun _ _ s99 => wn hK20 ?_); clear s96
    refine wp_seq_k fun K21 hK21 => wp_region_lit (qs s99 (.c1 rfl (mv rfl rfl) (.c1 rfl (ob_assign rfl (.tmp rfl)) (.ce (u 2 rfl (u 4 rfl (u 5 rfl (u 10 rfl (u 11 rfl (u 12 rfl (u 13 rfl (u 14 rfl (u 16 rfl (u 17 rfl (u 18 rfl (u 19 rfl (u 20 rfl (u 21 rfl .nil))))))))))))))))) fun _ _ s102 => wn hK21 ?_); clear s99
    refine wp_seq_k fun K22 hK22 => wp_region_lit (qs s102 (.c1 rfl (mv rfl rfl) (.c1 rfl (mv rfl rfl) (.c1 rfl (ob_add rfl (.tmp rfl) (.tmp rfl)) (.c1 rfl (ob_assign rfl (.tmp rfl)) (.ce (u 2 rfl (u 4 rfl (u 5 rfl (u 10 rfl (u 11 rfl (u 12 rfl (u 13 rfl (u 15 rfl (u 16 rfl (u 17 rfl (u 18 rfl (u 19 rfl (u 20 rfl (u 21 rfl .nil))))))))))))))))))) fun _ _ s107 => wn hK22 ?_); clear s102
    refine wp_seq_k fun K23 hK23 => wp_region_lit (qs s107 (.c1 rfl (mv rfl rfl) (.c1 rfl (ob_assign rfl (.tmp rfl)) (.ce (u 2 rfl (u 4 rfl (u 5 rfl (u 10 rfl (u 11 rfl (u 12 rfl (u 14 rfl (u 15 rfl (u 16 rfl (u 17 rfl (u 18 rfl (u 19 rfl (u 20 rfl (u 21 rfl .nil))))))))))))))))) fun _ _ s110 => wn hK23 ?_); clear s107
    refine wp_seq_k fun K24 hK24 => wp_region_lit (qs s110 (.c1 rfl (mv rfl rfl) (.c1 rfl (ob_assign rfl (.tmp rfl)) (.ce (u 2 rfl (u 4 rfl (u 5 rfl (u 10 rfl (u 11 rfl (u 13 rfl (u 14 rfl (u 15 rfl (u 16 rfl (u 17 rfl (u 18 rfl (u 19 rfl (u 20 rfl (u 21 rfl .nil))))))))))))))))) fun _ _ s113 => wn hK24 ?_); clear s110
    refine wp_seq_k fun K25 hK25 => wp_region_lit (qs s113 (.c1 rfl (mv rfl rfl) (.c1 rfl (ob_assign rfl (.tmp rfl)) (.ce (u 2 rfl (u 4 rfl (u 5 rfl (u 10 rfl (u 12 rfl (u 13 rfl (u 14 rfl (u 15 rfl (u 16 rfl (u 17 rfl (u 18 rfl (u 19 rfl (u 20 rfl (u 21 rfl .nil))))))))))))))))) fun _ _ s116 => wn hK25 ?_); clear s113
    obtain ⟨x29, e_x29, h37⟩ := bind_some h36; clear h36; replace e_x29 := Option.some.inj e_x29
    refine wp_region_lit (qs s116 (.c1 rfl (mv rfl rfl) (.c1 rfl (mv rfl rfl) (.c1 rfl ((ob_add rfl (.tmp rfl) (.tmp rfl)).nm e_x29) (.c1 rfl (ob_assign rfl (.tmp rfl)) .cz)))) fun _ _ s120 => ?_); clear s116
    refine wpList_nil ?_
    refine in_normal ?_
    refine then_normal (hK16 _ _ ?_)
    have s121 := s120.sub (u 2 rfl (u 4 rfl (u 5 rfl (u 10 rfl (u 11 rfl (u 12 rfl (u 13 rfl (u 14 rfl (u 15 rfl (u 16 rfl (u 17 rfl (u 18 rfl (u 19 rfl .nil))))))))))))); clear s120
    refine wp_region_lit (qs s121 (.c1 rfl (mv rfl rfl) (.c1 rfl (ob_add rfl (.tmp rfl) (opd_int rfl)) (.c1 rfl (ob_assign rfl (.tmp rfl)) .cz))) fun _ _ s124 => ?_); clear s121
    refine wpList_nil ?_
    refine then_normal ?_
    exact hK13 (x29, y11, y12, y13, (iadd .u32 y14 (iadd .u32 (iadd .u32 x22 x23) x24)), y15, y16, y17, (iadd .i64 y19 (1 : Int))) _ _ h37 (s124.sub (.cons rfl (.cons rfl (.cons rfl (.cons rfl (.cons rfl (.cons rfl (.cons rfl (.cons rfl (.cons rfl (.cons rfl (.cons rfl (.cons rfl (.cons rfl .nil))))))))))))))
   ·have h38 := ite_f hc1 h23; clear h23
    refine wp_exit ?_
    refine (then_exit (then_exit (in_here ?_)))
    refine then_normal ?_
    have s125 := St.drop (A := [_, _]) s66; clear s66
    have s126 := St.drop (A := [_, _]) s125; clear s125
    exact hj3 y11 y12 y13 y14 y15 y16 y17 y18 _ _ h38 (s126.sub (.cons rfl (.cons rfl (.cons rfl (.cons rfl (.cons rfl (.cons rfl (.cons rfl (.cons rfl (.cons rfl (.cons rfl .nil)))))))))))
  refine wp_block ?_
  refine wp_loop_fuel (fun m (q : Int × (List Int)) => cabalref01_Block.l2 k p1 m q.1 q.2) r (fun _ => rfl) (fun q a w => St ⟨211, w0, ok, []⟩ [BF b1 119 (karr 8 (kint .u32)) p1, BF b2 119 (karr 8 (kint .u32)) (List.replicate 8 (0 : Int)), BF b3 132 (karr 64 (kint .u32)) q.2] [(2, (ptrB b1 0)), (4, (ptrB b2 0)), (5, (ptrB b3 0)), (7, ((kint .i64).V q.1))] a w) ?_ k ((16 : Int), y1) _ _ h1 (s11.sub (.cons rfl (.cons rfl (.cons rfl (.cons rfl .nil)))))
  rintro n2 ⟨y20, y21⟩ a127 w127 h39 s127 K26 hK26
  replace h39 : cabalref01_Block.l2 k p1 (n2 + 1) y20 y21 = some r := h39; rw [cabalref01_Block.l2] at h39
  have h40 := h39; clear h39
  refine wp_seq_k fun K27 hK27 => wp_seq_k fun K28 hK28 => ?_
  refine wp_region_lit (qs s127 (.c1 rfl (mv rfl rfl) (.c1 rfl (ob_lss rfl (.tmp rfl) (opd_int rfl)) (.ce (u 2 rfl (u 4 rfl (u 5 rfl (u 7 rfl (u 58 rfl .nil)))))))) fun _ _ s130 => wn hK28 ?_); clear s127
  refine cond_split s130 (.tmp rfl) (fun hc2 => ?_) (fun hc2 => ?_)
  ·have h41 := ite_t hc2 h40; clear h40
   refine wp_skip ?_
   refine then_normal (hK27 _ _ ?_)
   have s131 := s130.sub (u 2 rfl (u 4 rfl (u 5 rfl (u 7 rfl .nil)))); clear s130
   refine wp_seq_k fun K29 hK29 => wp_block ?_
   refine wp_seq_k fun K30 hK30 => ?_
   obtain ⟨g3, h42⟩ := guard_some h41; clear h41
   obtain ⟨x30, e_x30, h43⟩ := bind_some h42; clear h42
   obtain ⟨g4, h44⟩ := guard_some h43; clear h43
   obtain ⟨x31, e_x31, h45⟩ := bind_some h44; clear h44
   refine wp_goes (Fs := [((kint .i64).V y20), ((kint .i64).V (isub .i64 y20 (15 : Int))), (ptrB b3 ((isub .i64 y20 (15 : Int)).toNat * 1)), ((kint .u32).V x30), ((kint .i64).V y20), ((kint .i64).V (isub .i64 y20 (2 : Int))), (ptrB b3 ((isub .i64 y20 (2 : Int)).toNat * 1)), ((kint .u32).V x31), ((kint .u32).V x30)]) (bits := [0, 1, 3, 7, 0, 16, 48, 112, 15, 511]) (m := 9) (todo := 0) mx s131 ?_; clear s131
   refine goes_last (by kernel_rfl) rfl (oc (av 7 rfl rfl Av.nil) rfl rfl (mv rfl rfl) (oc (an 0 rfl rfl rfl Av.nil) rfl rfl (ob_sub rfl (.tmp rfl) (opd_int rfl)) (oc (av 5 rfl rfl (an 1 rfl rfl rfl Av.nil)) rfl rfl (ob_indexAddr rfl Tryd.underlying132 sz116 (.tmp rfl) (.tmp rfl) g3.1 g3.2 (Nat.zero_add _)) (oc (an 2 rfl rfl rfl Av.nil) rfl rfl (ob_load rfl tk116 (.tmp rfl) (.tail _ (.tail _ (.head _))) (LG.arrA e_x30)) (oc (av 7 rfl rfl Av.nil) rfl rfl (mv rfl rfl) (oc (an 4 rfl rfl rfl Av.nil) rfl rfl (ob_sub rfl (.tmp rfl) (opd_int rfl)) (oc (av 5 rfl rfl (an 5 rfl rfl rfl Av.nil)) rfl rfl (ob_indexAddr rfl Tryd.underlying132 sz116 (.tmp rfl) (.tmp rfl) g4.1 g4.2 (Nat.zero_add _)) (oc (an 6 rfl rfl rfl Av.nil) rfl rfl (ob_load rfl tk116 (.tmp rfl) (.tail _ (.tail _ (.head _))) (LG.arrA e_x31)) (oc (an 3 rfl rfl rfl Av.nil) rfl rfl (ob_assign rfl (.tmp rfl)) opsS_nil))))))))) (out_old (t := 2) rfl rfl (out_old (t := 4) rfl rfl (out_old (t := 5) rfl rfl (out_old (t := 7) rfl rfl (out_new (i := 8) (by decide) rfl rfl (out_new (i := 7) (by decide) rfl rfl out_nil)))))) fun _ _ s132 => ?_
   refine qs s132 (.c1 rfl (ob_assign rfl (.tmp rfl)) (.ce (u 2 rfl (u 4 rfl (u 5 rfl (u 7 rfl (u 8 rfl (u 9 rfl .nil)))))))) fun _ _ s134 => wn hK30 ?_; clear s132
   obtain ⟨x32, e_x32, h46⟩ := bind_some h45; clear h45
   obtain ⟨x33, e_x33, h47⟩ := bind_some h46; clear h46
   obtain ⟨g5, h48⟩ := guard_some h47; clear h47
   obtain ⟨x34, e_x34, h49⟩ := bind_some h48; clear h48
   obtain ⟨x35, e_x35, h50⟩ := bind_some h49; clear h49; replace e_x35 := Option.some.inj e_x35
   obtain ⟨x36, e_x36, h51⟩ := bind_some h50; clear h50
   obtain ⟨x37, e_x37, h52⟩ := bind_some h51; clear h51
   obtain ⟨x38, e_x38, h53⟩ := bind_some h52; clear h52; replace e_x38 := Option.some.inj e_x38
   obtain ⟨g6, h54⟩ := guard_some h53; clear h53
   obtain ⟨x39, e_x39, h55⟩ := bind_some h54; clear h54
   refine wp_goes (Fs := [((kint .i64).V y20), ((kint .u32).V x31), ((kint .u32).V x32), ((kint .u32).V x31), ((kint .u32).V x33), ((kint .u32).V (ixor .u32 x32 x33)), ((kint .u32).V x31), ((kint .u32).V (ishr .u32 x31 (10 : Int))), ((kint .u32).V (ixor .u32 (ixor .u32 x32 x33) (ishr .u32 x31 (10 : Int)))), ((kint .i64).V y20), ((kint .i64).V (isub .i64 y20 (7 : Int))), (ptrB b3 ((isub .i64 y20 (7 : Int)).toNat * 1)), ((kint .u32).V x34), ((kint .u32).V x35), ((kint .u32).V x30), ((kint .u32).V x36), ((kint .u32).V x30), ((kint .u32).V x37), ((kint .u32).V (ixor .u32 x36 x37)), ((kint .u32).V x30), ((kint .u32).V (ishr .u32 x30 (3 : Int))), ((kint .u32).V (ixor .u32 (ixor .u32 x36 x37) (ishr .u32 x30 (3 : Int)))), ((kint .u32).V x38), ((kint .i64).V y20), ((kint .i64).V (isub .i64 y20 (16 : Int))), (ptrB b3 ((isub .i64 y20 (16 : Int)).toNat * 1)), ((kint .u32).V x39), ((kint .u32).V (iadd .u32 x38 x39))]) (bits := [0, 0, 2, 0, 14, 30, 0, 64, 254, 0, 512, 1536, 3584, 8190, 0, 16414, 0, 114718, 245790, 0, 524288, 2080798, 4194302, 0, 8388608, 25165824, 58720256, 134217726, 268435455, 536870911]) (m := 28) (todo := 0) mx s134 ?_; clear s134
   refine goes_last (by kernel_rfl) rfl (oc (av 7 rfl rfl Av.nil) rfl rfl (mv rfl rfl) (oc (av 9 rfl rfl Av.nil) rfl rfl (mv rfl rfl) (oc (an 1 rfl rfl rfl Av.nil) rfl rfl (ob_callD0 (args := [_, _]) rfl .direct hb86 (fun a w s => by exact c_cabalref01_Right k _ _ _ e_x32 _ _ _ _ (s.arg (.tmp rfl)) (s.arg (opd_int rfl)))) (oc (av 9 rfl rfl Av.nil) rfl rfl (mv rfl rfl) (oc (an 3 rfl rfl rfl Av.nil) rfl rfl (ob_callD0 (args := [_, _]) rfl .direct hb86 (fun a w s => by exact c_cabalref01_Right k _ _ _ e_x33 _ _ _ _ (s.arg (.tmp rfl)) (s.arg (opd_int rfl)))) (oc (an 2 rfl rfl rfl (an 4 rfl rfl rfl Av.nil)) rfl rfl (ob_xor rfl (.tmp rfl) (.tmp rfl)) (oc (av 9 rfl rfl Av.nil) rfl rfl (mv rfl rfl) (oc (an 6 rfl rfl rfl Av.nil) rfl rfl (ob_shr rfl (.tmp rfl) (opd_int rfl) (by decide)) (oc (an 5 rfl rfl rfl (an 7 rfl rfl rfl Av.nil)) rfl rfl (ob_xor rfl (.tmp rfl) (.tmp rfl)) (oc (av 7 rfl rfl Av.nil) rfl rfl (mv rfl rfl) (oc (an 9 rfl rfl rfl Av.nil) rfl rfl (ob_sub rfl (.tmp rfl) (opd_int rfl)) (oc (av 5 rfl rfl (an 10 rfl rfl rfl Av.nil)) rfl rfl (ob_indexAddr rfl Tryd.underlying132 sz116 (.tmp rfl) (.tmp rfl) g5.1 g5.2 (Nat.zero_add _)) (oc (an 11 rfl rfl rfl Av.nil) rfl rfl (ob_load rfl tk116 (.tmp rfl) (.tail _ (.tail _ (.head _))) (LG.arrA e_x34)) (oc (an 8 rfl rfl rfl (an 12 rfl rfl rfl Av.nil)) rfl rfl ((ob_add rfl (.tmp rfl) (.tmp rfl)).nm e_x35) (oc (av 8 rfl rfl Av.nil) rfl rfl (mv rfl rfl) (oc (an 14 rfl rfl rfl Av.nil) rfl rfl (ob_callD0 (args := [_, _]) rfl .direct hb86 (fun a w s => by exact c_cabalref01_Right k _ _ _ e_x36 _ _ _ _ (s.arg (.tmp rfl)) (s.arg (opd_int rfl)))) (oc (av 8 rfl rfl Av.nil) rfl rfl (mv rfl rfl) (oc (an 16 rfl rfl rfl Av.nil) rfl rfl (ob_callD0 (args := [_, _]) rfl .direct hb86 (fun a w s => by exact c_cabalref01_Right k _ _ _ e_x37 _ _ _ _ (s.arg (.tmp rfl)) (s.arg (opd_int rfl)))) (oc (an 15 rfl rfl rfl (an 17 rfl rfl rfl Av.nil)) rfl rfl (ob_xor rfl (.tmp rfl) (.tmp rfl)) (oc (av 8 rfl rfl Av.nil) rfl rfl (mv rfl rfl) (oc (an 19 rfl rfl rfl Av.nil) rfl rfl (ob_shr rfl (.tmp rfl) (opd_int rfl) (by decide)) (oc (an 18 rfl rfl rfl (an 20 rfl rfl rfl Av.nil)) rfl rfl (ob_xor rfl (.tmp rfl) (.tmp rfl)) (oc (an 13 rfl rfl rfl (an 21 rfl rfl rfl Av.nil)) rfl rfl ((ob_add rfl (.tmp rfl) (.tmp rfl)).nm e_x38) (oc (av 7 rfl rfl Av.nil) rfl rfl (mv rfl rfl) (oc (an 23 rfl rfl rfl Av.nil) rfl rfl (ob_sub rfl (.tmp rfl) (opd_int rfl)) (oc (av 5 rfl rfl (an 24 rfl rfl rfl Av.nil)) rfl rfl (ob_indexAddr rfl Tryd.underlying132 sz116 (.tmp rfl) (.tmp rfl) g6.1 g6.2 (Nat.zero_add _)) (oc (an 25 rfl rfl rfl Av.nil) rfl rfl (ob_load rfl tk116 (.tmp rfl) (.tail _ (.tail _ (.head _))) (LG.arrA e_x39)) (oc (an 22 rfl rfl rfl (an 26 rfl rfl rfl Av.nil)) rfl rfl (ob_add rfl (.tmp rfl) (.tmp rfl)) opsS_nil)))))))))))))))))))))))))))) (out_old (t := 2) rfl rfl (out_old (t := 4) rfl rfl (out_old (t := 5) rfl rfl (out_old (t := 7) rfl rfl (out_new (i := 0) (by decide) rfl rfl (out_new (i := 27) (by decide) rfl rfl out_nil)))))) fun _ _ s135 => ?_
   obtain ⟨g7, h56⟩ := guard_some h55; clear h55
   obtain ⟨x40, e_x40, h57⟩ := bind_some h56; clear h56
   refine qs s135 (.c1 rfl (ob_indexAddr rfl Tryd.underlying132 sz116 (.tmp rfl) (.tmp rfl) g7.1 g7.2 (Nat.zero_add _)) .cz) fun _ _ s136 => ?_; clear s135
   refine seq_opx0 (B' := (fun _ : Unit => [BF b1 119 (karr 8 (kint .u32)) p1, BF b2 119 (karr 8 (kint .u32)) (List.replicate 8 (0 : Int)), BF b3 132 (karr 64 (kint .u32)) x40])) s136 rfl rfl (ob_store (A := [_, _]) rfl tk116 (.tmp rfl) (.tmp rfl) rfl (LS.arrS e_x40) rfl) fun _ a137 w137 s137 => ?_; clear s136
   refine wpList_nil ?_
   refine in_normal ?_
   refine then_normal (hK29 _ _ ?_)
   have s138 := s137.sub (u 2 rfl (u 4 rfl (u 5 rfl (u 7 rfl .nil)))); clear s137
   refine wp_region_lit (qs s138 (.c1 rfl (mv rfl rfl) (.c1 rfl (ob_add rfl (.tmp rfl) (opd_int rfl)) (.c1 rfl (ob_assign rfl (.tmp rfl)) .cz))) fun _ _ s141 => ?_); clear s138
   refine wpList_nil ?_
   refine then_normal ?_
   exact hK26 ((iadd .i64 y20 (1 : Int)), x40) _ _ h57 (s141.sub (.cons rfl (.cons rfl (.cons rfl (.cons rfl .nil)))))
  ·have h58 := ite_f hc2 h40; clear h40
   refine wp_exit ?_
   refine (then_exit (then_exit (in_here ?_)))
   refine then_normal ?_
   exact hj2 y21 _ _ h58 (s130.sub (.cons rfl (.cons rfl (.cons rfl .nil))))
 refine wp_block ?_
 have s142 := s8.perm (toFront [_, _] (toFront [_] (toFront [] (List.Perm.refl _)))); clear s8
 refine wp_loop_fuel (fun m (q : Int × (List Int)) => cabalref01_Block.l3 k p2 p1 m q.1 q.2) r (fun _ => rfl) (fun q a w => St ⟨211, w0, ok, []⟩ [BF b1 119 (karr 8 (kint .u32)) p1, BF b2 119 (karr 8 (kint .u32)) (List.replicate 8 (0 : Int)), BF b3 132 (karr 64 (kint .u32)) q.2] [(1, (kstr.V p2)), (2, (ptrB b1 0)), (4, (ptrB b2 0)), (5, (ptrB b3 0)), (6, ((kint .i64).V q.1))] a w) ?_ k ((0 : Int), (List.replicate 64 (0 : Int))) _ _ h0 (s142.sub (.cons rfl (.cons rfl (.cons rfl (.cons rfl (.cons rfl .nil))))))
 rintro n3 ⟨y22, y23⟩ a143 w143 h59 s143 K31 hK31
 replace h59 : cabalref01_Block.l3 k p2 p1 (n3 + 1) y22 y23 = some r := h59; rw [cabalref01_Block.l3] at h59
 have h60 := h59; clear h59
 refine wp_seq_k fun K32 hK32 => wp_seq_k fun K33 hK33 => ?_
 refine wp_region_lit (qs s143 (.c1 rfl (mv rfl rfl) (.c1 rfl (ob_lss rfl (.tmp rfl) (opd_int rfl)) (.ce (u 1 rfl (u 2 rfl (u 4 rfl (u 5 rfl (u 6 rfl (u 23 rfl .nil))))))))) fun _ _ s146 => wn hK33 ?_); clear s143
 refine cond_split s146 (.tmp rfl) (fun hc3 => ?_) (fun hc3 => ?_)
 ·have h61 := ite_t hc3 h60; clear h60
  refine wp_skip ?_
  refine then_normal (hK32 _ _ ?_)
  have s147 := s146.sub (u 1 rfl (u 2 rfl (u 4 rfl (u 5 rfl (u 6 rfl .nil))))); clear s146
  refine wp_seq_k fun K34 hK34 => wp_block ?_
  obtain ⟨x41, e_x41, h62⟩ := bind_some h61; clear h61
  obtain ⟨x42, e_x42, h63⟩ := bind_some h62; clear h62
  obtain ⟨x43, e_x43, h64⟩ := bind_some h63; clear h63; replace e_x43 := Option.some.inj e_x43
  obtain ⟨x44, e_x44, h65⟩ := bind_some h64; clear h64
  obtain ⟨x45, e_x45, h66⟩ := bind_some h65; clear h65
  obtain ⟨x46, e_x46, h67⟩ := bind_some h66; clear h66; replace e_x46 := Option.some.inj e_x46
  refine wp_goes (Fs := [((kint .i64).V y22), (kstr.V p2), ((kint .i64).V y22), ((kint .i64).V (imul .i64 (4 : Int) y22)), ((kint .u8).V x41), ((kint .u32).V (IntKind.wrap .u32 x41)), ((kint .u32).V (imul .u32 (IntKind.wrap .u32 x41) (16777216 : Int))), (kstr.V p2), ((kint .i64).V y22), ((kint .i64).V (imul .i64 (4 : Int) y22)), ((kint .i64).V (iadd .i64 (imul .i64 (4 : Int) y22) (1 : Int))), ((kint .u8).V x42), ((kint .u32).V (IntKind.wrap .u32 x42)), ((kint .u32).V (imul .u32 (IntKind.wrap .u32 x42) (65536 : Int))), ((kint .u32).V x43), (kstr.V p2), ((kint .i64).V y22), ((kint .i64).V (imul .i64 (4 : Int) y22)), ((kint .i64).V (iadd .i64 (imul .i64 (4 : Int) y22) (2 : Int))), ((kint .u8).V x44), ((kint .u32).V (IntKind.wrap .u32 x44)), ((kint .u32).V (imul .u32 (IntKind.wrap .u32 x44) (256 : Int))), ((kint .u32).V (iadd .u32 x43 (imul .u32 (IntKind.wrap .u32 x44) (256 : Int)))), (kstr.V p2), ((kint .i64).V y22), ((kint .i64).V (imul .i64 (4 : Int) y22)), ((kint .i64).V (iadd .i64 (imul .i64 (4 : Int) y22) (3 : Int))), ((kint .u8).V x45), ((kint .u32).V (IntKind.wrap .u32 x45)), ((kint .u32).V x46)]) (bits := [0, 0, 0, 4, 14, 30, 62, 0, 0, 256, 768, 1920, 3968, 8064, 16382, 0, 0, 65536, 196608, 491520, 1015808, 2064384, 4194302, 0, 0, 16777216, 50331648, 125829120, 260046848, 536870910, 1073741823, 2147483647]) (m := 30) (todo := 0) mx s147 ?_; clear s147
  refine goes_last (by kernel_rfl) rfl (oc (av 6 rfl rfl Av.nil) rfl rfl (mv rfl rfl) (oc (av 1 rfl rfl Av.nil) rfl rfl (mv rfl rfl) (oc (av 6 rfl rfl Av.nil) rfl rfl (mv rfl rfl) (oc (an 2 rfl rfl rfl Av.nil) rfl rfl (ob_mul rfl (opd_int rfl) (.tmp rfl)) (oc (an 1 rfl rfl rfl (an 3 rfl rfl rfl Av.nil)) rfl rfl (ob_indexStr rfl Tryd.underlying9 (.tmp rfl) (.tmp rfl) e_x41) (oc (an 4 rfl rfl rfl Av.nil) rfl rfl (ob_conv rfl _ Tryd.underlying5 Tryd.underlying116 (.tmp rfl)) (oc (an 5 rfl rfl rfl Av.nil) rfl rfl (ob_mul rfl (.tmp rfl) (opd_int rfl)) (oc (av 1 rfl rfl Av.nil) rfl rfl (mv rfl rfl) (oc (av 6 rfl rfl Av.nil) rfl rfl (mv rfl rfl) (oc (an 8 rfl rfl rfl Av.nil) rfl rfl (ob_mul rfl (opd_int rfl) (.tmp rfl)) (oc (an 9 rfl rfl rfl Av.nil) rfl rfl (ob_add rfl (.tmp rfl) (opd_int rfl)) (oc (an 7 rfl rfl rfl (an 10 rfl rfl rfl Av.nil)) rfl rfl (ob_indexStr rfl Tryd.underlying9 (.tmp rfl) (.tmp rfl) e_x42) (oc (an 11 rfl rfl rfl Av.nil) rfl rfl (ob_conv rfl _ Tryd.underlying5 Tryd.underlying116 (.tmp rfl)) (oc (an 12 rfl rfl rfl Av.nil) rfl rfl (ob_mul rfl (.tmp rfl) (opd_int rfl)) (oc (an 6 rfl rfl rfl (an 13 rfl rfl rfl Av.nil)) rfl rfl ((ob_add rfl (.tmp rfl) (.tmp rfl)).nm e_x43) (oc (av 1 rfl rfl Av.nil) rfl rfl (mv rfl rfl) (oc (av 6 rfl rfl Av.nil) rfl rfl (mv rfl rfl) (oc (an 16 rfl rfl rfl Av.nil) rfl rfl (ob_mul rfl (opd_int rfl) (.tmp rfl)) (oc (an 17 rfl rfl rfl Av.nil) rfl rfl (ob_add rfl (.tmp rfl) (opd_int rfl)) (oc (an 15 rfl rfl rfl (an 18 rfl rfl rfl Av.nil)) rfl rfl (ob_indexStr rfl Tryd.underlying9 (.tmp rfl) (.tmp rfl) e_x44) (oc (an 19 rfl rfl rfl Av.nil) rfl rfl (ob_conv rfl _ Tryd.underlying5 Tryd.underlying116 (.tmp rfl)) (oc (an 20 rfl rfl rfl Av.nil) rfl rfl (ob_mul rfl (.tmp rfl) (opd_int rfl)) (oc (an 14 rfl rfl rfl (an 21 rfl rfl rfl Av.nil)) rfl rfl (ob_add rfl (.tmp rfl) (.tmp rfl)) (oc (av 1 rfl rfl Av.nil) rfl rfl (mv rfl rfl) (oc (av 6 rfl rfl Av.nil) rfl rfl (mv rfl rfl) (oc (an 24 rfl rfl rfl Av.nil) rfl rfl (ob_mul rfl (opd_int rfl) (.tmp rfl)) (oc (an 25 rfl rfl rfl Av.nil) rfl rfl (ob_add rfl (.tmp rfl) (opd_int rfl)) (oc (an 23 rfl rfl rfl (an 26 rfl rfl rfl Av.nil)) rfl rfl (ob_indexStr rfl Tryd.underlying9 (.tmp rfl) (.tmp rfl) e_x45) (oc (an 27 rfl rfl rfl Av.nil) rfl rfl (ob_conv rfl _ Tryd.underlying5 Tryd.underlying116 (.tmp rfl)) (oc (an 22 rfl rfl rfl (an 28 rfl rfl rfl Av.nil)) rfl rfl ((ob_add rfl (.tmp rfl) (.tmp rfl)).nm e_x46) opsS_nil)))))))))))))))))))))))))))))) (out_old (t := 1) rfl rfl (out_old (t := 2) rfl rfl (out_old (t := 4) rfl rfl (out_old (t := 5) rfl rfl (out_old (t := 6) rfl rfl (out_new (i := 0) (by decide) rfl rfl (out_new (i := 29) (by decide) rfl rfl out_nil))))))) fun _ _ s148 => ?_
  obtain ⟨g8, h68⟩ := guard_some h67; clear h67
  obtain ⟨x47, e_x47, h69⟩ := bind_some h68; clear h68
  refine qs s148 (.c1 rfl (ob_indexAddr rfl Tryd.underlying132 sz116 (.tmp rfl) (.tmp rfl) g8.1 g8.2 (Nat.zero_add _)) .cz) fun _ _ s149 => ?_; clear s148
  refine seq_opx0 (B' := (fun _ : Unit => [BF b1 119 (karr 8 (kint .u32)) p1, BF b2 119 (karr 8 (kint .u32)) (List.replicate 8 (0 : Int)), BF b3 132 (karr 64 (kint .u32)) x47])) s149 rfl rfl (ob_store (A := [_, _]) rfl tk116 (.tmp rfl) (.tmp rfl) rfl (LS.arrS e_x47) rfl) fun _ a150 w150 s150 => ?_; clear s149
  refine wpList_nil ?_
  refine in_normal ?_
  refine then_normal (hK34 _ _ ?_)
  have s151 := s150.sub (u 1 rfl (u 2 rfl (u 4 rfl (u 5 rfl (u 6 rfl .nil))))); clear s150
  refine wp_region_lit (qs s151 (.c1 rfl (mv rfl rfl) (.c1 rfl (ob_add rfl (.tmp rfl) (opd_int rfl)) (.c1 rfl (ob_assign rfl (.tmp rfl)) .cz))) fun _ _ s154 => ?_); clear s151
  refine wpList_nil ?_
  refine then_normal ?_
  exact hK31 ((iadd .i64 y22 (1 : Int)), x47) _ _ h69 (s154.sub (.cons rfl (.cons rfl (.cons rfl (.cons rfl (.cons rfl .nil))))))
 ·have h70 := ite_f hc3 h60; clear h60
  refine wp_exit ?_
  refine (then_exit (then_exit (in_here ?_)))
  refine then_normal ?_
  exact hj1 y23 _ _ h70 (s146.sub (.cons rfl (.cons rfl (.cons rfl .nil))))
theorem c_cabalref01_Sum (k : Nat) (p1 : (List Int)) (r : (List Int)) (h0 : cabalref01_Sum k p1 = some r) (ok : Ok) (w0 : World) (z0 : Value) (u0 : (kstr.V p1).holds ok w0 z0) :
 Gives Tryd.prog 46 [z0] ok w0 (resFact [(karr 32 (kint .u8)).V r]) := by
 unfold cabalref01_Sum at h0
 refine enter (N := 42) Tryd.func46 rfl rfl (of_decide_eq_true rfl) (.cons u0 .nil) fun a1 s1 => ?_
 refine wp_seq_k fun K1 hK1 => wp_region_lit ?_
 refine qx (B' := (fun b1 : Nat => [BF b1 88 (karr 32 (kint .u8)) (List.replicate 32 (0 : Int))])) s1 rfl (ob_new (k := (karr 32 (kint .u8))) rfl zz88 (Zr.arr 32 (Zr.int .u8))) fun b1 _ _ s2 => ?_; clear s1
 refine wn hK1 ?_
 have s3 := s2.sub (u 0 rfl (u 2 rfl .nil)); clear s2
 obtain ⟨x1, e_x1, h1⟩ := bind_some h0; clear h0
 refine wp_seq_k fun K2 hK2 => wp_region_lit (qs s3 (.c1 rfl (mv rfl rfl) (.c1 rfl (ob_callD0 (args := [_]) rfl .direct hb74 (fun a w s => by exact c_cabalref01_Lengthened k _ _ e_x1 _ _ _ (s.arg (.tmp rfl)))) (.c1 rfl (ob_assign rfl (.tmp rfl)) (.ce (u 2 rfl (u 3 rfl .nil)))))) fun _ _ s7 => wn hK2 ?_); clear s3
 obtain ⟨x2, e_x2, h2⟩ := bind_some h1; clear h1; replace e_x2 := Option.some.inj e_x2
 refine wp_seq_k fun K3 hK3 => wp_region_lit (qs s7 (.c1 rfl (((ob_mkArr (k := (kint .u32)) rfl Tryd.underlying119 zz119 sz116 (Zr.arr 8 (Zr.int .u32)) (.cons (opd_int rfl) rfl (LS.arr' (i := 0) (ys := ([(1779033703 : Int), 0, 0, 0, 0, 0, 0, 0] : (List Int))) (by simp) (by rfl)) (.cons (opd_int rfl) rfl (LS.arr' (i := 1) (ys := ([(1779033703 : Int), 3144134277, 0, 0, 0, 0, 0, 0] : (List Int))) (by simp) (by rfl)) (.cons (opd_int rfl) rfl (LS.arr' (i := 2) (ys := ([(1779033703 : Int), 3144134277, 1013904242, 0, 0, 0, 0, 0] : (List Int))) (by simp) (by rfl)) (.cons (opd_int rfl) rfl (LS.arr' (i := 3) (ys := ([(1779033703 : Int), 3144134277, 1013904242, 2773480762, 0, 0, 0, 0] : (List Int))) (by simp) (by rfl)) (.cons (opd_int rfl) rfl (LS.arr' (i := 4) (ys := ([(1779033703 : Int), 3144134277, 1013904242, 2773480762, 1359893119, 0, 0, 0] : (List Int))) (by simp) (by rfl)) (.cons (opd_int rfl) rfl (LS.arr' (i := 5) (ys := ([(1779033703 : Int), 3144134277, 1013904242, 2773480762, 1359893119, 2600822924, 0, 0] : (List Int))) (by simp) (by rfl)) (.cons (opd_int rfl) rfl (LS.arr' (i := 6) (ys := ([(1779033703 : Int), 3144134277, 1013904242, 2773480762, 1359893119, 2600822924, 528734635, 0] : (List Int))) (by simp) (by rfl)) (.cons (opd_int rfl) rfl (LS.arr' (i := 7) (ys := ([(1779033703 : Int), 3144134277, 1013904242, 2773480762, 1359893119, 2600822924, 528734635, 1541459225] : (List Int))) (by simp) (by rfl)) (.nil _))))))))) : Ob _ _ _ _ _ ((karr 8 (kint .u32)).V ([(1779033703 : Int), 3144134277, 1013904242, 2773480762, 1359893119, 2600822924, 528734635, 1541459225] : (List Int))))).nm e_x2) .cz) fun _ _ s8 => ?_); clear s7
 refine qx (B' := (fun b2 : Nat => [BF b2 119 (karr 8 (kint .u32)) (List.replicate 8 (0 : Int)), BF b1 88 (karr 32 (kint .u8)) (List.replicate 32 (0 : Int))])) s8 rfl (ob_new (k := (karr 8 (kint .u32))) rfl zz119 (Zr.arr 8 (Zr.int .u32))) fun b2 _ _ s9 => ?_; clear s8
 refine seq_opx0 (B' := (fun _ : Unit => [BF b2 119 (karr 8 (kint .u32)) x2, BF b1 88 (karr 32 (kint .u8)) (List.replicate 32 (0 : Int))])) s9 rfl rfl (ob_store (A := []) rfl tk119 (.tmp rfl) (.tmp rfl) rfl (LS.refl _ _ _) rfl) fun _ a10 w10 s10 => ?_; clear s9
 refine wn hK3 ?_
 have s11 := s10.sub (u 2 rfl (u 3 rfl (u 4 rfl .nil))); clear s10
 refine wp_seq_k fun K4 hK4 => wp_seq_k fun K5 hK5 => ?_
 refine wp_region_lit (qs s11 (.c1 rfl (ob_assign rfl (opd_int rfl)) (.ce (u 2 rfl (u 3 rfl (u 4 rfl (u 5 rfl .nil)))))) fun _ _ s13 => wn hK5 ?_); clear s11
 have hj1 : ∀ (y1 : (List Int)) (a : Act) (w : World), (cabalref01_Sum.j1 k) y1 = some r → St ⟨42, w0, ok, []⟩ [BF b1 88 (karr 32 (kint .u8)) (List.replicate 32 (0 : Int)), BF b2 119 (karr 8 (kint .u32)) y1] [(2, (ptrB b1 0)), (4, (ptrB b2 0))] a w → K4 a w := by
  intro y1 a14 w14 h3 s14
  unfold cabalref01_Sum.j1 at h3
  refine hK4 _ _ ?_
  refine wp_seq_k fun K6 hK6 => wp_region_lit ?_
  refine qx (B' := (fun b3 : Nat => [BF b3 88 (karr 32 (kint .u8)) (List.replicate 32 (0 : Int)), BF b1 88 (karr 32 (kint .u8)) (List.replicate 32 (0 : Int)), BF b2 119 (karr 8 (kint .u32)) y1])) s14 rfl (ob_new (k := (karr 32 (kint .u8))) rfl zz88 (Zr.arr 32 (Zr.int .u8))) fun b3 _ _ s15 => ?_; clear s14
  refine wn hK6 ?_
  have s16 := s15.sub (u 2 rfl (u 4 rfl (u 6 rfl .nil))); clear s15
  refine wp_seq_k fun K7 hK7 => wp_seq_k fun K8 hK8 => ?_
  refine wp_region_lit (qs s16 (.c1 rfl (ob_assign rfl (opd_int rfl)) (.ce (u 2 rfl (u 4 rfl (u 6 rfl (u 7 rfl .nil)))))) fun _ _ s18 => wn hK8 ?_); clear s16
  have hj2 : ∀ (y2 : (List Int)) (a : Act) (w : World), (cabalref01_Sum.j2 k) y2 = some r → St ⟨42, w0, ok, []⟩ [BF b1 88 (karr 32 (kint .u8)) (List.replicate 32 (0 : Int)), BF b3 88 (karr 32 (kint .u8)) y2] [(2, (ptrB b1 0)), (6, (ptrB b3 0))] a w → K7 a w := by
   intro y2 a19 w19 h4 s19
   unfold cabalref01_Sum.j2 at h4
   refine hK7 _ _ ?_
   refine wp_seq_k fun K9 hK9 => wp_region_lit (qs s19 (.c1 rfl (ob_load rfl tk88 (.tmp rfl) (.tail _ (.head _)) (LG.refl _ _)) .cz) fun _ _ s20 => ?_); clear s19
   refine seq_opx0 (B' := (fun _ : Unit => [BF b1 88 (karr 32 (kint .u8)) y2, BF b3 88 (karr 32 (kint .u8)) y2])) s20 rfl rfl (ob_store (A := []) rfl tk88 (.tmp rfl) (.tmp rfl) rfl (LS.refl _ _ _) rfl) fun _ a21 w21 s21 => ?_; clear s20
   refine wn hK9 ?_
   have s22 := s21.sub (u 2 rfl .nil); clear s21
   have s23 := St.drop (A := [_]) s22; clear s22
   refine wp_ret ?_
   obtain rfl := Option.some.inj h4
   exact leave s23 (.inl rfl) rfl (.cons (.cell rfl tk88 (.head _) (LG.refl _ _)) .nil)
  refine wp_block ?_
  have s24 := s18.perm (toFront [_] (toFront [_] (toFront [] (List.Perm.refl _)))); clear s18
  refine wp_loop_fuel (fun m (q : Int × (List Int)) => cabalref01_Sum.l1 k y1 m q.1 q.2) r (fun _ => rfl) (fun q a w => St ⟨42, w0, ok, []⟩ [BF b1 88 (karr 32 (kint .u8)) (List.replicate 32 (0 : Int)), BF b2 119 (karr 8 (kint .u32)) y1, BF b3 88 (karr 32 (kint .u8)) q.2] [(2, (ptrB b1 0)), (4, (ptrB b2 0)), (6, (ptrB b3 0)), (7, ((kint .i64).V q.1))] a w) ?_ k ((0 : Int), (List.replicate 32 (0 : Int))) _ _ h3 (s24.sub (.cons rfl (.cons rfl (.cons rfl (.cons rfl .nil)))))
  rintro n1 ⟨y3, y4⟩ a25 w25 h5 s25 K10 hK10
  replace h5 : cabalref01_Sum.l1 k y1 (n1 + 1) y3 y4 = some r := h5; rw [cabalref01_Sum.l1] at h5
  have h6 := h5; clear h5
  refine wp_seq_k fun K11 hK11 => wp_seq_k fun K12 hK12 => ?_
  refine wp_region_lit (qs s25 (.c1 rfl (mv rfl rfl) (.c1 rfl (ob_lss rfl (.tmp rfl) (opd_int rfl)) (.ce (u 2 rfl (u 4 rfl (u 6 rfl (u 7 rfl (u 25 rfl .nil)))))))) fun _ _ s28 => wn hK12 ?_); clear s25
  refine cond_split s28 (.tmp rfl) (fun hc1 => ?_) (fun hc1 => ?_)
  ·have h7 := ite_t hc1 h6; clear h6
   refine wp_skip ?_
   refine then_normal (hK11 _ _ ?_)
   have s29 := s28.sub (u 2 rfl (u 4 rfl (u 6 rfl (u 7 rfl .nil)))); clear s28
   refine wp_seq_k fun K13 hK13 => wp_block ?_
   obtain ⟨g1, h8⟩ := guard_some h7; clear h7
   obtain ⟨x3, e_x3, h9⟩ := bind_some h8; clear h8
   obtain ⟨x4, e_x4, h10⟩ := bind_some h9; clear h9; replace e_x4 := Option.some.inj e_x4
   obtain ⟨g2, h11⟩ := guard_some h10; clear h10
   obtain ⟨g3, h12⟩ := guard_some h11; clear h11
   obtain ⟨x5, e_x5, h13⟩ := bind_some h12; clear h12
   refine wp_region_lit (qs s29 (.c1 rfl (mv rfl rfl) (.c1 rfl (mv rfl rfl) (.c1 rfl (ob_quo rfl (.tmp rfl) (opd_int rfl) (by decide)) (.c1 rfl (ob_indexAddr rfl Tryd.underlying119 sz116 (.tmp rfl) (.tmp rfl) g1.1 g1.2 (Nat.zero_add _)) (.c1 rfl (ob_load rfl tk116 (.tmp rfl) (.tail _ (.head _)) (LG.arrA e_x3)) (.c1 rfl (mv rfl rfl) (.c1 rfl (ob_rem rfl (.tmp rfl) (opd_int rfl) (by decide)) (.c1 rfl (ob_mul rfl (opd_int rfl) (.tmp rfl)) (.c1 rfl (ob_sub rfl (opd_int rfl) (.tmp rfl)) (.c1 rfl ((ob_conv rfl _ Tryd.underlying3 Tryd.underlying40 (.tmp rfl)).nm e_x4) (.c1 rfl (ob_shr rfl (.tmp rfl) (.tmp rfl) g2) (.c1 rfl (ob_conv rfl _ Tryd.underlying116 Tryd.underlying5 (.tmp rfl)) (.c1 rfl (ob_indexAddr rfl Tryd.underlying88 sz5 (.tmp rfl) (.tmp rfl) g3.1 g3.2 (Nat.zero_add _)) .cz))))))))))))) fun _ _ s42 => ?_); clear s29
   refine seq_opx0 (B' := (fun _ : Unit => [BF b1 88 (karr 32 (kint .u8)) (List.replicate 32 (0 : Int)), BF b2 119 (karr 8 (kint .u32)) y1, BF b3 88 (karr 32 (kint .u8)) x5])) s42 rfl rfl (ob_store (A := [_, _]) rfl tk5 (.tmp rfl) (.tmp rfl) rfl (LS.arrS e_x5) rfl) fun _ a43 w43 s43 => ?_; clear s42
   refine wpList_nil ?_
   refine in_normal ?_
   refine then_normal (hK13 _ _ ?_)
   have s44 := s43.sub (u 2 rfl (u 4 rfl (u 6 rfl (u 7 rfl .nil)))); clear s43
   refine wp_region_lit (qs s44 (.c1 rfl (mv rfl rfl) (.c1 rfl (ob_add rfl (.tmp rfl) (opd_int rfl)) (.c1 rfl (ob_assign rfl (.tmp rfl)) .cz))) fun _ _ s47 => ?_); clear s44
   refine wpList_nil ?_
   refine then_normal ?_
   exact hK10 ((iadd .i64 y3 (1 : Int)), x5) _ _ h13 (s47.sub (.cons rfl (.cons rfl (.cons rfl (.cons rfl .nil)))))
  ·have h14 := ite_f hc1 h6; clear h6
   refine wp_exit ?_
   refine (then_exit (then_exit (in_here ?_)))
   refine then_normal ?_
   have s48 := St.drop (A := [_]) s28; clear s28
   exact hj2 y4 _ _ h14 (s48.sub (.cons rfl (.cons rfl .nil)))
 refine wp_block ?_
 have s49 := s13.perm (toFront [_] (toFront [] (List.Perm.refl _))); clear s13
 refine wp_loop_fuel (fun m (q : Int × (List Int)) => cabalref01_Sum.l2 k x1 m q.1 q.2) r (fun _ => rfl) (fun q a w => St ⟨42, w0, ok, []⟩ [BF b1 88 (karr 32 (kint .u8)) (List.replicate 32 (0 : Int)), BF b2 119 (karr 8 (kint .u32)) q.2] [(2, (ptrB b1 0)), (3, (kstr.V x1)), (4, (ptrB b2 0)), (5, ((kint .i64).V q.1))] a w) ?_ k ((0 : Int), x2) _ _ h2 (s49.sub (.cons rfl (.cons rfl (.cons rfl (.cons rfl .nil)))))
 rintro n2 ⟨y5, y6⟩ a50 w50 h15 s50 K14 hK14
 replace h15 : cabalref01_Sum.l2 k x1 (n2 + 1) y5 y6 = some r := h15; rw [cabalref01_Sum.l2] at h15
 have h16 := h15; clear h15
 refine wp_seq_k fun K15 hK15 => wp_seq_k fun K16 hK16 => ?_
 refine wp_region_lit (qs s50 (.c1 rfl (mv rfl rfl) (.c1 rfl (mv rfl rfl) (.c1 rfl (ob_lenStr rfl Tryd.underlying9 (.tmp rfl)) (.c1 rfl (ob_lss rfl (.tmp rfl) (.tmp rfl)) (.ce (u 2 rfl (u 3 rfl (u 4 rfl (u 5 rfl (u 14 rfl .nil)))))))))) fun _ _ s55 => wn hK16 ?_); clear s50
 refine cond_split s55 (.tmp rfl) (fun hc2 => ?_) (fun hc2 => ?_)
 ·have h17 := ite_t hc2 h16; clear h16
  refine wp_skip ?_
  refine then_normal (hK15 _ _ ?_)
  have s56 := s55.sub (u 2 rfl (u 3 rfl (u 4 rfl (u 5 rfl .nil)))); clear s55
  refine wp_seq_k fun K17 hK17 => wp_block ?_
  obtain ⟨x6, e_x6, h18⟩ := bind_some h17; clear h17
  refine wp_goes (Fs := [((karr 8 (kint .u32)).V y6), (kstr.V x1), ((kint .i64).V y5), ((kint .i64).V y5), ((kint .i64).V (iadd .i64 y5 (64 : Int))), (kstr.V x6)]) (bits := [0, 0, 0, 0, 8, 30, 63, 127]) (m := 6) (todo := 0) mx s56 ?_; clear s56
  refine goes_last (by kernel_rfl) rfl (oc (av 4 rfl rfl Av.nil) rfl rfl (ob_load rfl tk119 (.tmp rfl) (.tail _ (.head _)) (LG.refl _ _)) (oc (av 3 rfl rfl Av.nil) rfl rfl (mv rfl rfl) (oc (av 5 rfl rfl Av.nil) rfl rfl (mv rfl rfl) (oc (av 5 rfl rfl Av.nil) rfl rfl (mv rfl rfl) (oc (an 3 rfl rfl rfl Av.nil) rfl rfl (ob_add rfl (.tmp rfl) (opd_int rfl)) (oc (an 1 rfl rfl rfl (an 2 rfl rfl rfl (an 4 rfl rfl rfl Av.nil))) rfl rfl (ob_cutStr rfl Tryd.underlying9 (.tmp rfl) (.some (.tmp rfl)) (.some (.tmp rfl)) e_x6) opsS_nil)))))) (out_old (t := 2) rfl rfl (out_old (t := 3) rfl rfl (out_old (t := 4) rfl rfl (out_old (t := 5) rfl rfl (out_new (i := 0) (by decide) rfl rfl (out_new (i := 5) (by decide) rfl rfl out_nil)))))) fun _ _ s57 => ?_
  obtain ⟨x7, e_x7, h19⟩ := bind_some h18; clear h18
  refine qs s57 (.c1 rfl (ob_callD0 (args := [_, _]) rfl .direct hb75 (fun a w s => by exact c_cabalref01_Block k _ _ _ e_x7 _ _ _ _ (s.arg (.tmp rfl)) (s.arg (.tmp rfl)))) .cz) fun _ _ s58 => ?_; clear s57
  refine seq_opx0 (B' := (fun _ : Unit => [BF b1 88 (karr 32 (kint .u8)) (List.replicate 32 (0 : Int)), BF b2 119 (karr 8 (kint .u32)) x7])) s58 rfl rfl (ob_store (A := [_]) rfl tk119 (.tmp rfl) (.tmp rfl) rfl (LS.refl _ _ _) rfl) fun _ a59 w59 s59 => ?_; clear s58
  refine wpList_nil ?_
  refine in_normal ?_
  refine then_normal (hK17 _ _ ?_)
  have s60 := s59.sub (u 2 rfl (u 3 rfl (u 4 rfl (u 5 rfl .nil)))); clear s59
  refine wp_region_lit (qs s60 (.c1 rfl (mv rfl rfl) (.c1 rfl (ob_add rfl (.tmp rfl) (opd_int rfl)) (.c1 rfl (ob_assign rfl (.tmp rfl)) .cz))) fun _ _ s63 => ?_); clear s60
  refine wpList_nil ?_
  refine then_normal ?_
  exact hK14 ((iadd .i64 y5 (64 : Int)), x7) _ _ h19 (s63.sub (.cons rfl (.cons rfl (.cons rfl (.cons rfl .nil)))))
 ·have h20 := ite_f hc2 h16; clear h16
  refine wp_exit ?_
  refine (then_exit (then_exit (in_here ?_)))
  refine then_normal ?_
  exact hj1 y6 _ _ h20 (s55.sub (.cons rfl (.cons rfl .nil)))
theorem c_cabalref13_filled (k : Nat) (p1 : (List Int)) (p2 : Int) (r : (List Int)) (h0 : cabalref13_filled k p1 p2 = some r) (ok : Ok) (w0 : World) (z0 : Value) (z1 : Value) (u0 : (kstr.V p1).holds ok w0 z0) (u1 : ((kint .i64).V p2).holds ok w0 z1) :
 Gives Tryd.prog 47 [z0, z1] ok w0 (resFact [kstr.V r]) := by
 unfold cabalref13_filled at h0
 refine enter (N := 18) Tryd.func47 rfl rfl (of_decide_eq_true rfl) (.cons u0 (.cons u1 .nil)) fun a1 s1 => ?_
 refine wp_seq_k fun K1 hK1 => wp_region_lit (qs s1 (.c1 rfl (ob_assign rfl (opd_str (by rfl) (by decide))) (.ce (u 0 rfl (u 1 rfl .nil)))) fun _ _ s3 => wn hK1 ?_); clear s1
 refine wp_seq_k fun K2 hK2 => wp_seq_k fun K3 hK3 => ?_
 refine wp_region_lit (qs s3 (.c1 rfl (mv rfl rfl) (.c1 rfl (ob_lenStr rfl Tryd.underlying9 (.tmp rfl)) (.c1 rfl (mv rfl rfl) (.c1 rfl (ob_geq rfl (.tmp rfl) (.tmp rfl)) (.ce (u 0 rfl (u 1 rfl (u 8 rfl .nil)))))))) fun _ _ s8 => wn hK3 ?_); clear s3
 refine cond_split s8 (.tmp rfl) (fun hc1 => ?_) (fun hc1 => ?_)
 ·have h1 := ite_t hc1 h0; clear h0
  refine wp_seq_k fun K4 hK4 => wp_region_lit (qs s8 (.c1 rfl (mv rfl rfl) (.c1 rfl (ob_assign rfl (.tmp rfl)) (.ce (u 4 rfl .nil)))) fun _ _ s11 => wn hK4 ?_); clear s8
  refine wp_ret ?_
  obtain rfl := Option.some.inj h1
  exact leave s11 (.inl rfl) rfl (.cons (.tmp rfl) .nil)
 ·have h2 := ite_f hc1 h0; clear h0
  refine wp_skip ?_
  refine then_normal (hK2 _ _ ?_)
  have s12 := s8.sub (u 0 rfl (u 1 rfl .nil)); clear s8
  obtain ⟨g1, h3⟩ := guard_some h2; clear h2
  refine wp_seq_k fun K5 hK5 => wp_region_lit (qs s12 (.c1 rfl (mv rfl rfl) (.c1 rfl (mv rfl rfl) (.c1 rfl (mv rfl rfl) (.c1 rfl (ob_lenStr rfl Tryd.underlying9 (.tmp rfl)) (.c1 rfl (ob_sub rfl (.tmp rfl) (.tmp rfl)) .cz))))) fun _ _ s17 => ?_); clear s12
  refine qx (B' := (fun v1 : Value => [RowF v1 5 (kint .u8) (List.replicate (isub .i64 p2 (p1.length : Int)).toNat (0 : Int))])) s17 rfl (ob_makeRow (T8 := 0) rfl Tryd.underlying31 ap5 (Zr.int .u8) (by decide) (.tmp rfl) g1) fun v1 _ _ s18 => ?_; clear s17
  obtain ⟨g2, h4⟩ := guard_some h3; clear h3
  obtain ⟨x1, e_x1, h5⟩ := bind_some h4; clear h4; replace e_x1 := Option.some.inj e_x1
  refine qs s18 (.c1 rfl ((ob_lendG (L := [_]) (List.Perm.refl _) (.cons (t := 15) rfl (lendRow (.head _)) .nil) (Flat.V KFlat.str) (fun _ => ob_bytesToStr rfl Tryd.underlying31 Tryd.underlying9 Tryd.underlying5 (.tmp rfl)))) (.c1 rfl ((ob_cat rfl (.tmp rfl) (.tmp rfl) g2).nm e_x1) (.c1 rfl (ob_assign rfl (.tmp rfl)) (.ce (u 4 rfl .nil))))) fun _ _ s22 => wn hK5 ?_; clear s18
  have s23 := St.drop (A := []) s22; clear s22
  refine wp_ret ?_
  obtain rfl := Option.some.inj h5
  exact leave s23 (.inl rfl) rfl (.cons (.tmp rfl) .nil)
theorem c_cabalref13_Mark (k : Nat) (p1 : Int) (p2 : Int) (r : (List Int)) (h0 : cabalref13_Mark k p1 p2 = some r) (ok : Ok) (w0 : World) (z0 : Value) (z1 : Value) (u0 : ((kint .i64).V p1).holds ok w0 z0) (u1 : ((kint .i64).V p2).holds ok w0 z1) :
 Gives Tryd.prog 16 [z0, z1] ok w0 (resFact [kstr.V r]) := by
 unfold cabalref13_Mark at h0
 refine enter (N := 33) Tryd.func16 rfl rfl (of_decide_eq_true rfl) (.cons u0 (.cons u1 .nil)) fun a1 s1 => ?_
 refine wp_seq_k fun K1 hK1 => wp_region_lit (qs s1 (.c1 rfl (ob_assign rfl (opd_str (by rfl) (by decide))) (.ce (u 0 rfl (u 1 rfl .nil)))) fun _ _ s3 => wn hK1 ?_); clear s1
 obtain ⟨x1, e_x1, h1⟩ := bind_some h0; clear h0; replace e_x1 := Option.some.inj e_x1
 obtain ⟨g1, h2⟩ := guard_some h1; clear h1
 refine wp_seq_k fun K2 hK2 => wp_region_lit (qs s3 (.c1 rfl (mv rfl rfl) (.c1 rfl (ob_conv rfl _ Tryd.underlying3 Tryd.underlying5 (.tmp rfl)) (.c1 rfl (mv rfl rfl) (.c1 rfl (ob_quo rfl (.tmp rfl) (opd_int rfl) (by decide)) (.c1 rfl (ob_conv rfl _ Tryd.underlying3 Tryd.underlying5 (.tmp rfl)) (.c1 rfl (mv rfl rfl) (.c1 rfl (ob_quo rfl (.tmp rfl) (opd_int rfl) (by decide)) (.c1 rfl (ob_rem rfl (.tmp rfl) (opd_int rfl) (by decide)) (.c1 rfl (ob_conv rfl _ Tryd.underlying3 Tryd.underlying5 (.tmp rfl)) (.c1 rfl (mv rfl rfl) (.c1 rfl (ob_quo rfl (.tmp rfl) (opd_int rfl) (by decide)) (.c1 rfl (ob_rem rfl (.tmp rfl) (opd_int rfl) (by decide)) (.c1 rfl (ob_conv rfl _ Tryd.underlying3 Tryd.underlying5 (.tmp rfl)) (.c1 rfl (mv rfl rfl) (.c1 rfl (ob_rem rfl (.tmp rfl) (opd_int rfl) (by decide)) (.c1 rfl (ob_conv rfl _ Tryd.underlying3 Tryd.underlying5 (.tmp rfl)) (.c1 rfl ((ob_mkSlice (k := (kint .u8)) (xs := ([(IntKind.wrap .u8 p1), (IntKind.wrap .u8 (iquo .i64 p2 (16777216 : Int))), (IntKind.wrap .u8 (irem (iquo .i64 p2 (65536 : Int)) (256 : Int))), (IntKind.wrap .u8 (irem (iquo .i64 p2 (256 : Int)) (256 : Int))), (IntKind.wrap .u8 (irem p2 (256 : Int)))] : (List Int))) rfl Tryd.underlying31 zz5 sz5 (Zr.int .u8) (by decide) (by decide) (.cons (.tmp rfl) rfl (LS.arr' (i := 0) (ys := ([(IntKind.wrap .u8 p1), (0 : Int), (0 : Int), (0 : Int), (0 : Int)] : (List Int))) (by simp) (by rfl)) (.cons (.tmp rfl) rfl (LS.arr' (i := 1) (ys := ([(IntKind.wrap .u8 p1), (IntKind.wrap .u8 (iquo .i64 p2 (16777216 : Int))), (0 : Int), (0 : Int), (0 : Int)] : (List Int))) (by simp) (by rfl)) (.cons (.tmp rfl) rfl (LS.arr' (i := 2) (ys := ([(IntKind.wrap .u8 p1), (IntKind.wrap .u8 (iquo .i64 p2 (16777216 : Int))), (IntKind.wrap .u8 (irem (iquo .i64 p2 (65536 : Int)) (256 : Int))), (0 : Int), (0 : Int)] : (List Int))) (by simp) (by rfl)) (.cons (.tmp rfl) rfl (LS.arr' (i := 3) (ys := ([(IntKind.wrap .u8 p1), (IntKind.wrap .u8 (iquo .i64 p2 (16777216 : Int))), (IntKind.wrap .u8 (irem (iquo .i64 p2 (65536 : Int)) (256 : Int))), (IntKind.wrap .u8 (irem (iquo .i64 p2 (256 : Int)) (256 : Int))), (0 : Int)] : (List Int))) (by simp) (by rfl)) (.cons (.tmp rfl) rfl (LS.arr' (i := 4) (ys := ([(IntKind.wrap .u8 p1), (IntKind.wrap .u8 (iquo .i64 p2 (16777216 : Int))), (IntKind.wrap .u8 (irem (iquo .i64 p2 (65536 : Int)) (256 : Int))), (IntKind.wrap .u8 (irem (iquo .i64 p2 (256 : Int)) (256 : Int))), (IntKind.wrap .u8 (irem p2 (256 : Int)))] : (List Int))) (by simp) (by rfl)) (.nil _))))))).nm e_x1) (.c1 rfl (ob_bytesToStr rfl Tryd.underlying31 Tryd.underlying9 Tryd.underlying5 (.tmp rfl)) (.c1 rfl (ob_cat rfl (opd_str (by rfl) (by decide)) (.tmp rfl) g1) (.c1 rfl (ob_assign rfl (.tmp rfl)) (.ce (u 5 rfl .nil)))))))))))))))))))))) fun _ _ s24 => wn hK2 ?_); clear s3
 obtain ⟨x2, e_x2, h3⟩ := bind_some h2; clear h2
 refine wp_seq_k fun K3 hK3 => wp_region_lit (qs s24 (.c1 rfl (mv rfl rfl) (.c1 rfl (ob_callD0 (args := [_]) rfl .direct hb46 (fun a w s => by exact c_cabalref01_Sum k _ _ e_x2 _ _ _ (s.arg (.tmp rfl)))) .cz)) fun _ _ s26 => ?_); clear s24
 refine qx (B' := (fun b1 : Nat => [BF b1 88 (karr 32 (kint .u8)) (List.replicate 32 (0 : Int))])) s26 rfl (ob_new (k := (karr 32 (kint .u8))) rfl zz88 (Zr.arr 32 (Zr.int .u8))) fun b1 _ _ s27 => ?_; clear s26
 refine seq_opx0 (B' := (fun _ : Unit => [BF b1 88 (karr 32 (kint .u8)) x2])) s27 rfl rfl (ob_store (A := []) rfl tk88 (.tmp rfl) (.tmp rfl) rfl (LS.refl _ _ _) rfl) fun _ a28 w28 s28 => ?_; clear s27
 refine wn hK3 ?_
 have s29 := s28.sub (u 5 rfl (u 6 rfl .nil)); clear s28
 obtain ⟨x3, e_x3, h4⟩ := bind_some h3; clear h3
 obtain ⟨g2, h5⟩ := guard_some h4; clear h4
 obtain ⟨x4, e_x4, h6⟩ := bind_some h5; clear h5
 refine wp_seq_k fun K4 hK4 => wp_region_lit (qs s29 (.c1 rfl (mv rfl rfl) (.c1 rfl (ob_sliceArr rfl Tryd.underlying88 sz5 (.tmp rfl) .none (.some (opd_int rfl)) (show (0 : Int) ≤ (0 : Int) ∧ (0 : Int) ≤ (8 : Int) ∧ (8 : Int) ≤ ((32 : Nat) : Int) by decide)) (.c1 rfl ((ob_lendG (L := [_]) (List.Perm.refl _) (.cons (t := 29) rfl (lendSlB (.head _) (LG.refl _ _) e_x3 rfl (cut_len e_x3) (cut_cap e_x3 (show (0 : Int) ≤ (0 : Int) ∧ (0 : Int) ≤ (8 : Int) ∧ (8 : Int) ≤ ((32 : Nat) : Int) by decide) (by decide))) .nil) (Flat.V KFlat.str) (fun _ => ob_bytesToStr rfl Tryd.underlying31 Tryd.underlying9 Tryd.underlying5 (.tmp rfl)))) (.c1 rfl (ob_cat rfl (.tmp rfl) (.tmp rfl) g2) (.c1 rfl (ob_callD0 (args := [_, _]) rfl .direct hb47 (fun a w s => by exact c_cabalref13_filled k _ _ _ e_x4 _ _ _ _ (s.arg (.tmp rfl)) (s.arg (opd_int rfl)))) (.c1 rfl (ob_assign rfl (.tmp rfl)) (.ce (u 4 rfl .nil)))))))) fun _ _ s36 => wn hK4 ?_); clear s29
 have s37 := St.drop (A := []) s36; clear s36
 refine wp_ret ?_
 obtain rfl := Option.some.inj h6
 exact leave s37 (.inl rfl) rfl (.cons (.tmp rfl) .nil)
theorem c_cabalref12_Disk_Has (k : Nat) (p1 : cabalref12_Disk) (p2 : Int) (r : Bool) (h0 : cabalref12_Disk_Has k p1 p2 = some r) (ok : Ok) (w0 : World) (z0 : Value) (z1 : Value) (u0 : (ptrTo k_cabalref12_Disk p1).holds ok w0 z0) (u1 : ((kint .i64).V p2).holds ok w0 z1) :
 Gives Tryd.prog 48 [z0, z1] ok w0 (resFact [kbool.V r]) := by
 unfold cabalref12_Disk_Has at h0
 refine enter (N := 16) Tryd.func48 rfl rfl (of_decide_eq_true rfl) (.cons u0 (.cons u1 .nil)) fun a1 s1 => ?_
 refine wp_seq_k fun K1 hK1 => wp_region_lit (qs s1 (.c1 rfl (ob_assign rfl opd_bool) (.ce (u 0 rfl (u 1 rfl .nil)))) fun _ _ s3 => wn hK1 ?_); clear s1
 obtain ⟨x1, e_x1, h1⟩ := bind_some h0; clear h0; replace e_x1 := Option.some.inj e_x1
 refine wp_seq_k fun K2 hK2 => wp_region_lit (qs s3 (.c1 rfl (mv rfl rfl) (.c1 rfl (ob_geq rfl (.tmp rfl) (opd_int rfl)) (.c1 rfl (mv rfl rfl) (.cg rfl rfl rfl rfl (fun hb => ob_move rfl (.tmp rfl)) (.cg rfl rfl rfl rfl (fun hb => ob_move rfl (.tmp rfl)) (.cg rfl rfl rfl rfl (fun hb => (Ob.uncond (t := 9) hb rfl (ob_nilCheckr rfl (.tmp rfl)))) (.cg rfl rfl rfl rfl (fun hb => (Ob.uncond (t := 10) hb rfl (ob_fieldAddrr rfl Tryd.underlying49 rfl sz30 (by decide) (.tmp rfl) (lg_cabalref12_Disk_Firm p1)))) (.cg rfl rfl rfl rfl (fun hb => (Ob.uncond (t := 11) hb rfl (ob_loadr rfl tk30 (.tmp rfl)))) (.cg rfl rfl rfl rfl (fun hb => (Ob.uncond (t := 12) hb rfl (ob_lens rfl Tryd.underlying30 (.tmp rfl)))) (.cg rfl rfl rfl rfl (fun hb => (Ob.uncond (t := 13) hb rfl ((Ob.uncond (t := 8) hb rfl (ob_lss rfl (.tmp rfl) (.tmp rfl)))))) (.c1 rfl ((ob_and2 rfl (.tmp rfl) (.tmp rfl) opd_bool).nm e_x1) (.c1 rfl (ob_assign rfl (.tmp rfl)) (.ce (u 4 rfl .nil)))))))))))))) fun _ _ s16 => wn hK2 ?_); clear s3
 refine wp_ret ?_
 obtain rfl := Option.some.inj h1
 exact leave s16 (.inl rfl) rfl (.cons (.tmp rfl) .nil)
theorem c_cabalref12_Disk_burn (k : Nat) (p1 : cabalref12_Disk) (r : (Bool × cabalref12_Disk)) (h0 : cabalref12_Disk_burn k p1 = some r) (ok : Ok) (w0 : World) (z0 : Value) (b00 : Nat) (w0_0 : Value) (w0_1 : Value) (w0_2 : Value) (l0 : ∀ q, q ∈ [BF b00 49 (ko_cabalref12_Disk_0_1_2 w0_0 w0_1 w0_2) (⟨[], [], [], p1.Fuse, p1.Dead⟩ : cabalref12_Disk), RowF w0_0 9 kstr p1.Firm, RowF w0_1 3 (kint .i64) p1.At, RowF w0_2 9 kstr p1.Data] → q.holds ok w0) (d0 : ∀ c, c ∈ idsOf [BF b00 49 (ko_cabalref12_Disk_0_1_2 w0_0 w0_1 w0_2) (⟨[], [], [], p1.Fuse, p1.Dead⟩ : cabalref12_Disk), RowF w0_0 9 kstr p1.Firm, RowF w0_1 3 (kint .i64) p1.At, RowF w0_2 9 kstr p1.Data] → ¬ ok c) (nd : (idsOf [BF b00 49 (ko_cabalref12_Disk_0_1_2 w0_0 w0_1 w0_2) (⟨[], [], [], p1.Fuse, p1.Dead⟩ : cabalref12_Disk), RowF w0_0 9 kstr p1.Firm, RowF w0_1 3 (kint .i64) p1.At, RowF w0_2 9 kstr p1.Data]).Nodup) (u0 : (ptrB b00 0).holds ok w0 z0) :
 GivesX Tryd.prog 78 [z0] ok w0 [BF b00 49 (ko_cabalref12_Disk_0_1_2 w0_0 w0_1 w0_2) (⟨[], [], [], p1.Fuse, p1.Dead⟩ : cabalref12_Disk), RowF w0_0 9 kstr p1.Firm, RowF w0_1 3 (kint .i64) p1.At, RowF w0_2 9 kstr p1.Data] (fun g : Value × Value × Value => resFact [kbool.V r.1]) (fun g : Value × Value × Value => [BF b00 49 (ko_cabalref12_Disk_0_1_2 (g.1) (g.2.1) (g.2.2)) (⟨[], [], [], r.2.Fuse, r.2.Dead⟩ : cabalref12_Disk), RowF (g.1) 9 kstr r.2.Firm, RowF (g.2.1) 3 (kint .i64) r.2.At, RowF (g.2.2) 9 kstr r.2.Data]) := by
 unfold cabalref12_Disk_burn at h0
 refine enterX (N := 23) Tryd.func78 rfl rfl (of_decide_eq_true rfl) (.cons u0 .nil) nd l0 d0 fun a1 s1 => ?_
 refine wp_seq_k fun K1 hK1 => wp_region_lit (qs s1 (.c1 rfl (ob_assign rfl opd_bool) (.ce (u 0 rfl .nil))) fun _ _ s3 => wn hK1 ?_); clear s1
 refine wp_seq_k fun K2 hK2 => wp_seq_k fun K3 hK3 => ?_
 refine wp_region_lit (qs s3 (.c1 rfl (mv rfl rfl) (.c1 rfl (ob_nilCheck rfl (.tmp rfl)) (.c1 rfl (ob_fieldAddr (off' := 3) rfl Tryd.underlying49 rfl sz3 (by decide) (.tmp rfl) rfl) (.c1 rfl (ob_load rfl tk3 (.tmp rfl) (.head _) (lgo_cabalref12_Disk_0_1_2_Fuse (⟨[], [], [], p1.Fuse, p1.Dead⟩ : cabalref12_Disk))) (.c1 rfl (ob_eql rfl (.tmp rfl) (opd_int rfl)) (.ce (u 0 rfl (u 7 rfl .nil)))))))) fun _ _ s9 => wn hK3 ?_); clear s3
 refine cond_split s9 (.tmp rfl) (fun hc1 => ?_) (fun hc1 => ?_)
 ·have h1 := ite_t hc1 h0; clear h0
  refine wp_seq_k fun K4 hK4 => wp_region_lit (qs s9 (.c1 rfl (mv rfl rfl) (.c1 rfl (ob_nilCheck rfl (.tmp rfl)) (.c1 rfl (ob_fieldAddr (off' := 4) rfl Tryd.underlying49 rfl sz4 (by decide) (.tmp rfl) rfl) .cz))) fun _ _ s12 => ?_); clear s9
  refine seq_opx0 (B' := (fun _ : Unit => [BF b00 49 (ko_cabalref12_Disk_0_1_2 w0_0 w0_1 w0_2) (⟨[], [], [], p1.Fuse, true⟩ : cabalref12_Disk), RowF w0_0 9 kstr p1.Firm, RowF w0_1 3 (kint .i64) p1.At, RowF w0_2 9 kstr p1.Data])) s12 rfl rfl (ob_store (A := []) rfl tk4 (.tmp rfl) opd_bool rfl (lso_cabalref12_Disk_0_1_2_Dead (⟨[], [], [], p1.Fuse, p1.Dead⟩ : cabalref12_Disk) true) rfl) fun _ a13 w13 s13 => ?_; clear s12
  refine wn hK4 ?_
  have s14 := s13.sub .nil; clear s13
  refine wp_seq_k fun K5 hK5 => wp_region_lit (qs s14 (.c1 rfl (ob_assign rfl opd_bool) (.ce (u 2 rfl .nil))) fun _ _ s16 => wn hK5 ?_); clear s14
  refine wp_ret ?_
  obtain rfl := Option.some.inj h1
  exact leaveXD (D := []) ⟨w0_0, w0_1, w0_2⟩ s16 rfl (.inl rfl) rfl (.cons (.tmp rfl) .nil) rfl
 ·have h2 := ite_f hc1 h0; clear h0
  refine wp_skip ?_
  refine then_normal (hK2 _ _ ?_)
  have s17 := s9.sub (u 0 rfl .nil); clear s9
  refine wp_seq_k fun K6 hK6 => wp_seq_k fun K7 hK7 => ?_
  refine wp_region_lit (qs s17 (.c1 rfl (mv rfl rfl) (.c1 rfl (ob_nilCheck rfl (.tmp rfl)) (.c1 rfl (ob_fieldAddr (off' := 3) rfl Tryd.underlying49 rfl sz3 (by decide) (.tmp rfl) rfl) (.c1 rfl (ob_load rfl tk3 (.tmp rfl) (.head _) (lgo_cabalref12_Disk_0_1_2_Fuse (⟨[], [], [], p1.Fuse, p1.Dead⟩ : cabalref12_Disk))) (.c1 rfl (ob_gtr rfl (.tmp rfl) (opd_int rfl)) (.ce (u 0 rfl (u 15 rfl .nil)))))))) fun _ _ s23 => wn hK7 ?_); clear s17
  have hj1 : ∀ (y1 : Int) (a : Act) (w : World), (cabalref12_Disk_burn.j1 k p1) y1 = some r → St ⟨23, w0, ok, (idsOf [BF b00 49 (ko_cabalref12_Disk_0_1_2 w0_0 w0_1 w0_2) (⟨[], [], [], p1.Fuse, p1.Dead⟩ : cabalref12_Disk), RowF w0_0 9 kstr p1.Firm, RowF w0_1 3 (kint .i64) p1.At, RowF w0_2 9 kstr p1.Data])⟩ [BF b00 49 (ko_cabalref12_Disk_0_1_2 w0_0 w0_1 w0_2) (⟨[], [], [], y1, p1.Dead⟩ : cabalref12_Disk), RowF w0_0 9 kstr p1.Firm, RowF w0_1 3 (kint .i64) p1.At, RowF w0_2 9 kstr p1.Data] [] a w → K6 a w := by
   intro y1 a24 w24 h3 s24
   unfold cabalref12_Disk_burn.j1 at h3
   refine hK6 _ _ ?_
   refine wp_seq_k fun K8 hK8 => wp_region_lit (qs s24 (.c1 rfl (ob_assign rfl opd_bool) (.ce (u 2 rfl .nil))) fun _ _ s26 => wn hK8 ?_); clear s24
   refine wp_ret ?_
   obtain rfl := Option.some.inj h3
   exact leaveXD (D := []) ⟨w0_0, w0_1, w0_2⟩ s26 rfl (.inl rfl) rfl (.cons (.tmp rfl) .nil) rfl
  refine cond_split s23 (.tmp rfl) (fun hc2 => ?_) (fun hc2 => ?_)
  ·have h4 := ite_t hc2 h2; clear h2
   refine wp_region_lit (qs s23 (.c1 rfl (mv rfl rfl) (.c1 rfl (ob_nilCheck rfl (.tmp rfl)) (.c1 rfl (ob_fieldAddr (off' := 3) rfl Tryd.underlying49 rfl sz3 (by decide) (.tmp rfl) rfl) (.c1 rfl (ob_load rfl tk3 (.tmp rfl) (.head _) (lgo_cabalref12_Disk_0_1_2_Fuse (⟨[], [], [], p1.Fuse, p1.Dead⟩ : cabalref12_Disk))) (.c1 rfl (ob_sub rfl (.tmp rfl) (opd_int rfl)) (.c1 rfl (ob_nilCheck rfl (.tmp rfl)) (.c1 rfl (ob_fieldAddr (off' := 3) rfl Tryd.underlying49 rfl sz3 (by decide) (.tmp rfl) rfl) .cz))))))) fun _ _ s33 => ?_); clear s23
   refine seq_opx0 (B' := (fun _ : Unit => [BF b00 49 (ko_cabalref12_Disk_0_1_2 w0_0 w0_1 w0_2) (⟨[], [], [], (isub .i64 p1.Fuse (1 : Int)), p1.Dead⟩ : cabalref12_Disk), RowF w0_0 9 kstr p1.Firm, RowF w0_1 3 (kint .i64) p1.At, RowF w0_2 9 kstr p1.Data])) s33 rfl rfl (ob_store (A := []) rfl tk3 (.tmp rfl) (.tmp rfl) rfl (lso_cabalref12_Disk_0_1_2_Fuse (⟨[], [], [], p1.Fuse, p1.Dead⟩ : cabalref12_Disk) (isub .i64 p1.Fuse (1 : Int))) rfl) fun _ a34 w34 s34 => ?_; clear s33
   refine wpList_nil ?_
   refine then_normal ?_
   exact hj1 (isub .i64 p1.Fuse (1 : Int)) _ _ h4 (s34.sub .nil)
  ·have h5 := ite_f hc2 h2; clear h2
   refine wp_skip ?_
   refine then_normal ?_
   exact hj1 p1.Fuse _ _ h5 (s23.sub .nil)
theorem c_cabalref12_Disk_Write (k : Nat) (p1 : cabalref12_Disk) (p2 : Int) (p3 : (List Int)) (r : (Int × cabalref12_Disk)) (h0 : cabalref12_Disk_Write k p1 p2 p3 = some r) (ok : Ok) (w0 : World) (z0 : Value) (z1 : Value) (z2 : Value) (b00 : Nat) (w0_0 : Value) (w0_1 : Value) (w0_2 : Value) (l0 : ∀ q, q ∈ [BF b00 49 (ko_cabalref12_Disk_0_1_2 w0_0 w0_1 w0_2) (⟨[], [], [], p1.Fuse, p1.Dead⟩ : cabalref12_Disk), RowF w0_0 9 kstr p1.Firm, RowF w0_1 3 (kint .i64) p1.At, RowF w0_2 9 kstr p1.Data] → q.holds ok w0) (d0 : ∀ c, c ∈ idsOf [BF b00 49 (ko_cabalref12_Disk_0_1_2 w0_0 w0_1 w0_2) (⟨[], [], [], p1.Fuse, p1.Dead⟩ : cabalref12_Disk), RowF w0_0 9 kstr p1.Firm, RowF w0_1 3 (kint .i64) p1.At, RowF w0_2 9 kstr p1.Data] → ¬ ok c) (nd : (idsOf [BF b00 49 (ko_cabalref12_Disk_0_1_2 w0_0 w0_1 w0_2) (⟨[], [], [], p1.Fuse, p1.Dead⟩ : cabalref12_Disk), RowF w0_0 9 kstr p1.Firm, RowF w0_1 3 (kint .i64) p1.At, RowF w0_2 9 kstr p1.Data]).Nodup) (u0 : (ptrB b00 0).holds ok w0 z0) (u1 : ((kint .i64).V p2).holds ok w0 z1) (u2 : (kstr.V p3).holds ok w0 z2) :
 GivesX Tryd.prog 51 [z0, z1, z2] ok w0 [BF b00 49 (ko_cabalref12_Disk_0_1_2 w0_0 w0_1 w0_2) (⟨[], [], [], p1.Fuse, p1.Dead⟩ : cabalref12_Disk), RowF w0_0 9 kstr p1.Firm, RowF w0_1 3 (kint .i64) p1.At, RowF w0_2 9 kstr p1.Data] (fun g : Value × Value × Value => resFact [(kint .i64).V r.1]) (fun g : Value × Value × Value => [BF b00 49 (ko_cabalref12_Disk_0_1_2 (g.1) (g.2.1) (g.2.2)) (⟨[], [], [], r.2.Fuse, r.2.Dead⟩ : cabalref12_Disk), RowF (g.1) 9 kstr r.2.Firm, RowF (g.2.1) 3 (kint .i64) r.2.At, RowF (g.2.2) 9 kstr r.2.Data]) := by
 unfold cabalref12_Disk_Write at h0
 refine enterX (N := 43) Tryd.func51 rfl rfl (of_decide_eq_true rfl) (.cons u0 (.cons u1 (.cons u2 .nil))) nd l0 d0 fun a1 s1 => ?_
 refine wp_seq_k fun K1 hK1 => wp_region_lit (qs s1 (.c1 rfl (ob_assign rfl (opd_int rfl)) (.ce (u 0 rfl (u 1 rfl (u 2 rfl .nil))))) fun _ _ s3 => wn hK1 ?_); clear s1
 refine wp_seq_k fun K2 hK2 => wp_seq_k fun K3 hK3 => ?_
 obtain ⟨x1, e_x1, h1⟩ := bind_some h0; clear h0
 refine wp_region_lit (qs s3 (.c1 rfl (mv rfl rfl) (.c1 rfl (mv rfl rfl) (.c1 rfl ((ob_lendG (L := [_, _, _, _]) (List.Perm.refl _) (.cons (t := 7) rfl (lendObj (K' := k_cabalref12_Disk) (X' := p1) (.head _) rfl (upo_cabalref12_Disk_0_1_2 rfl (.row (LetAll.row (.tail _ (.head _)))) (.row (LetAll.row (.tail _ (.tail _ (.head _))))) (.row (LetAll.row (.tail _ (.tail _ (.tail _ (.head _)))))))) .nil) (Flat.res1 (Flat.V KFlat.bool)) (fun _ => ob_callD0 (args := [_, _]) rfl .direct hb48 (fun a w s => by exact c_cabalref12_Disk_Has k _ _ _ e_x1 _ _ _ _ (s.arg (.tmp rfl)) (s.arg (.tmp rfl)))))) (.c1 rfl (ob_not rfl (.tmp rfl)) (.c1 rfl (mv rfl rfl) (.cg rfl rfl rfl rfl (fun hb => ob_move rfl (.tmp rfl)) (.cg rfl rfl rfl rfl (fun hb => (Ob.uncond (t := 12) hb rfl (ob_lenStr rfl Tryd.underlying9 (.tmp rfl)))) (.cg rfl rfl rfl rfl (fun hb => (Ob.uncond (t := 13) hb rfl (ob_neq rfl (.tmp rfl) (opd_int rfl)))) (.c1 rfl (ob_or2 rfl (.tmp rfl) opd_bool (.tmp rfl)) (.ce (u 0 rfl (u 1 rfl (u 2 rfl (u 15 rfl .nil)))))))))))))) fun _ _ s13 => wn hK3 ?_); clear s3
 refine cond_split s13 (.tmp rfl) (fun hc1 => ?_) (fun hc1 => ?_)
 ·have h2 := ite_t hc1 h1; clear h1
  refine wp_seq_k fun K4 hK4 => wp_region_lit (qs s13 (.c1 rfl (ob_assign rfl (opd_int rfl)) (.ce (u 6 rfl .nil))) fun _ _ s15 => wn hK4 ?_); clear s13
  refine wp_ret ?_
  obtain rfl := Option.some.inj h2
  exact leaveXD (D := []) ⟨w0_0, w0_1, w0_2⟩ s15 rfl (.inl rfl) rfl (.cons (.tmp rfl) .nil) rfl
 ·have h3 := ite_f hc1 h1; clear h1
  refine wp_skip ?_
  refine then_normal (hK2 _ _ ?_)
  have s16 := s13.sub (u 0 rfl (u 1 rfl (u 2 rfl .nil))); clear s13
  refine wp_seq_k fun K5 hK5 => wp_seq_k fun K6 hK6 => ?_
  refine wp_region_lit (qs s16 (.c1 rfl (mv rfl rfl) (.c1 rfl (ob_nilCheck rfl (.tmp rfl)) (.c1 rfl (ob_fieldAddr (off' := 4) rfl Tryd.underlying49 rfl sz4 (by decide) (.tmp rfl) rfl) (.c1 rfl (ob_load rfl tk4 (.tmp rfl) (.head _) (lgo_cabalref12_Disk_0_1_2_Dead (⟨[], [], [], p1.Fuse, p1.Dead⟩ : cabalref12_Disk))) (.ce (u 0 rfl (u 1 rfl (u 2 rfl (u 19 rfl .nil))))))))) fun _ _ s21 => wn hK6 ?_); clear s16
  refine cond_split s21 (.tmp rfl) (fun hc2 => ?_) (fun hc2 => ?_)
  ·have h4 := ite_t hc2 h3; clear h3
   refine wp_seq_k fun K7 hK7 => wp_region_lit (qs s21 (.c1 rfl (ob_assign rfl (opd_int rfl)) (.ce (u 6 rfl .nil))) fun _ _ s23 => wn hK7 ?_); clear s21
   refine wp_ret ?_
   obtain rfl := Option.some.inj h4
   exact leaveXD (D := []) ⟨w0_0, w0_1, w0_2⟩ s23 rfl (.inl rfl) rfl (.cons (.tmp rfl) .nil) rfl
  ·have h5 := ite_f hc2 h3; clear h3
   refine wp_skip ?_
   refine then_normal (hK5 _ _ ?_)
   have s24 := s21.sub (u 0 rfl (u 1 rfl (u 2 rfl .nil))); clear s21
   obtain ⟨g1, h6⟩ := guard_some h5; clear h5
   refine wp_seq_k fun K8 hK8 => wp_region_lit (qs s24 (.c1 rfl (mv rfl rfl) (.c1 rfl (mv rfl rfl) (.c1 rfl (ob_nilCheck rfl (.tmp rfl)) (.c1 rfl (ob_fieldAddr (off' := 1) rfl Tryd.underlying49 rfl sz47 (by decide) (.tmp rfl) rfl) (.c1 rfl (ob_loadRowV rfl (tkr47 _) (.tmp rfl) (.head _) (lgo_cabalref12_Disk_0_1_2_At (⟨[], [], [], p1.Fuse, p1.Dead⟩ : cabalref12_Disk))) (.c1 rfl (mv rfl rfl) (.c1 rfl (ob_mkSlice (k := (kint .i64)) (xs := ([p2] : (List Int))) rfl Tryd.underlying47 zz3 sz3 (Zr.int .i64) (by decide) (by decide) (.cons (.tmp rfl) rfl (LS.arr' (i := 0) (ys := ([p2] : (List Int))) (by simp) (by rfl)) (.nil _))) .cz))))))) fun _ _ s31 => ?_); clear s24
   refine qx (B' := (fun v1 : Value => [BF b00 49 (ko_cabalref12_Disk_0_1_2 w0_0 w0_1 w0_2) (⟨[], [], [], p1.Fuse, p1.Dead⟩ : cabalref12_Disk), RowF w0_0 9 kstr p1.Firm, RowF v1 3 (kint .i64) (p1.At ++ ([p2] : (List Int))), RowF w0_2 9 kstr p1.Data])) s31 rfl (ob_appendL2 (A := [_, _]) rfl Tryd.underlying47 ap3 (Zr.int .i64) (by decide) (.tmp rfl) (.tmp rfl) rfl g1) fun v1 _ _ s32 => ?_; clear s31
   refine qs s32 (.c1 rfl (ob_nilCheck rfl (.tmp rfl)) (.c1 rfl (ob_fieldAddr (off' := 1) rfl Tryd.underlying49 rfl sz47 (by decide) (.tmp rfl) rfl) .cz)) fun _ _ s34 => ?_; clear s32
   refine seq_opx0 (B' := (fun _ : Unit => [BF b00 49 (ko_cabalref12_Disk_0_1_2 w0_0 v1 w0_2) (⟨[], [], [], p1.Fuse, p1.Dead⟩ : cabalref12_Disk), RowF w0_0 9 kstr p1.Firm, RowF v1 3 (kint .i64) (p1.At ++ ([p2] : (List Int))), RowF w0_2 9 kstr p1.Data])) s34 rfl rfl (ob_storeRowV (A := []) rfl (tkr47 _) (.tmp rfl) (.tmp rfl) (.tail _ (.tail _ (.head _))) rfl (lsk_cabalref12_Disk_0_1_2_to_0_1_2_at1 (⟨[], [], [], p1.Fuse, p1.Dead⟩ : cabalref12_Disk)) rfl) fun _ a35 w35 s35 => ?_; clear s34
   refine wn hK8 ?_
   have s36 := s35.sub (u 0 rfl (u 2 rfl .nil)); clear s35
   obtain ⟨g2, h7⟩ := guard_some h6; clear h6
   refine wp_seq_k fun K9 hK9 => wp_region_lit (qs s36 (.c1 rfl (mv rfl rfl) (.c1 rfl (mv rfl rfl) (.c1 rfl (ob_nilCheck rfl (.tmp rfl)) (.c1 rfl (ob_fieldAddr (off' := 2) rfl Tryd.underlying49 rfl sz30 (by decide) (.tmp rfl) rfl) (.c1 rfl (ob_loadRowV rfl (tkr30 _) (.tmp rfl) (.head _) (lgo_cabalref12_Disk_0_1_2_Data (⟨[], [], [], p1.Fuse, p1.Dead⟩ : cabalref12_Disk))) (.c1 rfl (mv rfl rfl) (.c1 rfl (ob_mkSlice (k := kstr) (xs := ([p3] : (List (List Int)))) rfl Tryd.underlying30 zz9 sz9 Zr.str (by decide) (by decide) (.cons (.tmp rfl) rfl (LS.arr' (i := 0) (ys := ([p3] : (List (List Int)))) (by simp) (by rfl)) (.nil _))) .cz))))))) fun _ _ s43 => ?_); clear s36
   refine qx (B' := (fun v2 : Value => [BF b00 49 (ko_cabalref12_Disk_0_1_2 w0_0 v1 w0_2) (⟨[], [], [], p1.Fuse, p1.Dead⟩ : cabalref12_Disk), RowF w0_0 9 kstr p1.Firm, RowF v1 3 (kint .i64) (p1.At ++ ([p2] : (List Int))), RowF v2 9 kstr (p1.Data ++ ([p3] : (List (List Int))))])) s43 rfl (ob_appendL2 (A := [_, _, _]) rfl Tryd.underlying30 ap9 Zr.str (by decide) (.tmp rfl) (.tmp rfl) rfl g2) fun v2 _ _ s44 => ?_; clear s43
   refine qs s44 (.c1 rfl (ob_nilCheck rfl (.tmp rfl)) (.c1 rfl (ob_fieldAddr (off' := 2) rfl Tryd.underlying49 rfl sz30 (by decide) (.tmp rfl) rfl) .cz)) fun _ _ s46 => ?_; clear s44
   refine seq_opx0 (B' := (fun _ : Unit => [BF b00 49 (ko_cabalref12_Disk_0_1_2 w0_0 v1 v2) (⟨[], [], [], p1.Fuse, p1.Dead⟩ : cabalref12_Disk), RowF w0_0 9 kstr p1.Firm, RowF v1 3 (kint .i64) (p1.At ++ ([p2] : (List Int))), RowF v2 9 kstr (p1.Data ++ ([p3] : (List (List Int))))])) s46 rfl rfl (ob_storeRowV (A := []) rfl (tkr30 _) (.tmp rfl) (.tmp rfl) (.tail _ (.tail _ (.tail _ (.head _)))) rfl (lsk_cabalref12_Disk_0_1_2_to_0_1_2_at2 (⟨[], [], [], p1.Fuse, p1.Dead⟩ : cabalref12_Disk)) rfl) fun _ a47 w47 s47 => ?_; clear s46
   refine wn hK9 ?_
   have s48 := s47.sub (u 0 rfl .nil); clear s47
   refine wp_seq_k fun K10 hK10 => wp_seq_k fun K11 hK11 => ?_
   obtain ⟨x2, e_x2, h8⟩ := bind_some h7; clear h7
   refine wp_region_lit (qs s48 (.c1 rfl (mv rfl rfl) .cz) fun _ _ s49 => ?_); clear s48
   refine qx (B' := (fun gg : Value × Value × Value => [BF b00 49 (ko_cabalref12_Disk_0_1_2 gg.1 gg.2.1 gg.2.2) (⟨[], [], [], x2.2.Fuse, x2.2.Dead⟩ : cabalref12_Disk), RowF gg.1 9 kstr x2.2.Firm, RowF gg.2.1 3 (kint .i64) x2.2.At, RowF gg.2.2 9 kstr x2.2.Data])) s49 rfl (ob_callL0 (args := [_]) (L := [_, _, _, _]) rfl .direct hb78 (List.Perm.refl _) (fun a w s => by exact c_cabalref12_Disk_burn k _ _ e_x2 _ _ _ _ _ _ _ (ownL s) (disL s) (nodL s) (s.arg (.tmp rfl))) (by exact fun _ => rfl)) fun gg50 _ _ s50 => ?_; clear s49
   obtain ⟨v3, v4, v5⟩ := gg50
   refine qs s50 (.c1 rfl (ob_not rfl (.tmp rfl)) (.ce (u 42 rfl .nil))) fun _ _ s52 => wn hK11 ?_; clear s50
   refine cond_split s52 (.tmp rfl) (fun hc3 => ?_) (fun hc3 => ?_)
   ·have h9 := ite_t hc3 h8; clear h8
    refine wp_seq_k fun K12 hK12 => wp_region_lit (qs s52 (.c1 rfl (ob_assign rfl (opd_int rfl)) (.ce (u 6 rfl .nil))) fun _ _ s54 => wn hK12 ?_); clear s52
    refine wp_ret ?_
    obtain rfl := Option.some.inj h9
    exact leaveXD (D := []) ⟨v3, v4, v5⟩ s54 rfl (.inl rfl) rfl (.cons (.tmp rfl) .nil) rfl
   ·have h10 := ite_f hc3 h8; clear h8
    refine wp_skip ?_
    refine then_normal (hK10 _ _ ?_)
    have s55 := s52.sub .nil; clear s52
    refine wp_seq_k fun K13 hK13 => wp_region_lit (qs s55 (.c1 rfl (ob_assign rfl (opd_int rfl)) (.ce (u 6 rfl .nil))) fun _ _ s57 => wn hK13 ?_); clear s55
    refine wp_ret ?_
    obtain rfl := Option.some.inj h10
    exact leaveXD (D := []) ⟨v3, v4, v5⟩ s57 rfl (.inl rfl) rfl (.cons (.tmp rfl) .nil) rfl
theorem c_cabalref12_Disk_settle (k : Nat) (p1 : cabalref12_Disk) (p2 : Int) (p3 : Int) (r : cabalref12_Disk) (h0 : cabalref12_Disk_settle k p1 p2 p3 = some r) (ok : Ok) (w0 : World) (z0 : Value) (z1 : Value) (z2 : Value) (b00 : Nat) (w0_0 : Value) (w0_1 : Value) (w0_2 : Value) (l0 : ∀ q, q ∈ [BF b00 49 (ko_cabalref12_Disk_0_1_2 w0_0 w0_1 w0_2) (⟨[], [], [], p1.Fuse, p1.Dead⟩ : cabalref12_Disk), RowF w0_0 9 kstr p1.Firm, RowF w0_1 3 (kint .i64) p1.At, RowF w0_2 9 kstr p1.Data] → q.holds ok w0) (d0 : ∀ c, c ∈ idsOf [BF b00 49 (ko_cabalref12_Disk_0_1_2 w0_0 w0_1 w0_2) (⟨[], [], [], p1.Fuse, p1.Dead⟩ : cabalref12_Disk), RowF w0_0 9 kstr p1.Firm, RowF w0_1 3 (kint .i64) p1.At, RowF w0_2 9 kstr p1.Data] → ¬ ok c) (nd : (idsOf [BF b00 49 (ko_cabalref12_Disk_0_1_2 w0_0 w0_1 w0_2) (⟨[], [], [], p1.Fuse, p1.Dead⟩ : cabalref12_Disk), RowF w0_0 9 kstr p1.Firm, RowF w0_1 3 (kint .i64) p1.At, RowF w0_2 9 kstr p1.Data]).Nodup) (u0 : (ptrB b00 0).holds ok w0 z0) (u1 : ((kint .i64).V p2).holds ok w0 z1) (u2 : ((kint .i64).V p3).holds ok w0 z2) :
 GivesX Tryd.prog 58 [z0, z1, z2] ok w0 [BF b00 49 (ko_cabalref12_Disk_0_1_2 w0_0 w0_1 w0_2) (⟨[], [], [], p1.Fuse, p1.Dead⟩ : cabalref12_Disk), RowF w0_0 9 kstr p1.Firm, RowF w0_1 3 (kint .i64) p1.At, RowF w0_2 9 kstr p1.Data] (fun g : Value × Value × Value => resFact []) (fun g : Value × Value × Value => [BF b00 49 (ko_cabalref12_Disk_0_1_2 (g.1) (g.2.1) (g.2.2)) (⟨[], [], [], r.Fuse, r.Dead⟩ : cabalref12_Disk), RowF (g.1) 9 kstr r.Firm, RowF (g.2.1) 3 (kint .i64) r.At, RowF (g.2.2) 9 kstr r.Data]) := by
 unfold cabalref12_Disk_settle at h0
 refine enterX (N := 39) Tryd.func58 rfl rfl (of_decide_eq_true rfl) (.cons u0 (.cons u1 (.cons u2 .nil))) nd l0 d0 fun a1 s1 => ?_
 obtain ⟨g1, h1⟩ := guard_some h0; clear h0
 obtain ⟨x1, e_x1, h2⟩ := bind_some h1; clear h1
 refine wp_seq_k fun K1 hK1 => wp_region_lit (qs s1 (.c1 rfl (mv rfl rfl) (.c1 rfl (ob_nilCheck rfl (.tmp rfl)) (.c1 rfl (ob_fieldAddr (off' := 1) rfl Tryd.underlying49 rfl sz47 (by decide) (.tmp rfl) rfl) (.c1 rfl (ob_loadRowV rfl (tkr47 _) (.tmp rfl) (.head _) (lgo_cabalref12_Disk_0_1_2_At (⟨[], [], [], p1.Fuse, p1.Dead⟩ : cabalref12_Disk))) (.c1 rfl (mv rfl rfl) (.c1 rfl (ob_rowAt rfl Tryd.underlying47 sz3 (.tmp rfl) (.tail _ (.tail _ (.head _))) (.tmp rfl) g1) (.c1 rfl (ob_rowLoad rfl tk3 (.tmp rfl) (.tail _ (.tail _ (.head _))) (LG.arrA e_x1)) (.c1 rfl (ob_assign rfl (.tmp rfl)) (.ce (u 0 rfl (u 1 rfl (u 2 rfl (u 6 rfl .nil))))))))))))) fun _ _ s10 => wn hK1 ?_); clear s1
 obtain ⟨g2, h3⟩ := guard_some h2; clear h2
 obtain ⟨x2, e_x2, h4⟩ := bind_some h3; clear h3
 obtain ⟨x3, e_x3, h5⟩ := bind_some h4; clear h4
 obtain ⟨g3, h6⟩ := guard_some h5; clear h5
 obtain ⟨x4, e_x4, h7⟩ := bind_some h6; clear h6
 obtain ⟨x5, e_x5, h8⟩ := bind_some h7; clear h7
 obtain ⟨g4, h9⟩ := guard_some h8; clear h8
 refine wp_goes (Fs := [(ptrB b00 0), (ptrB b00 0), (ptrB b00 0), (is w0_0), ((kint .i64).V x1), (ptrB b00 0), (ptrB b00 0), (ptrB b00 2), (is w0_2), ((kint .i64).V p2), (ptrR w0_2 (p2.toNat * 1)), (kstr.V x2), ((kint .i64).V p3), (kstr.V x3), (ptrB b00 0), (ptrB b00 0), (ptrB b00 0), (is w0_0), ((kint .i64).V x1), (ptrR w0_0 (x1.toNat * 1)), (kstr.V x4), ((kint .i64).V p3), (kstr.V x5), (kstr.V (x3 ++ x5))]) (bits := [0, 1, 3, 7, 0, 0, 32, 96, 224, 0, 992, 2016, 0, 8160, 0, 16384, 49152, 114688, 0, 507904, 1032192, 0, 4177920, 8388576, 16777215, 33554431]) (m := 24) (todo := 0) mx s10 ?_; clear s10
 refine goes_last (by kernel_rfl) rfl (oc (av 0 rfl rfl Av.nil) rfl rfl (mv rfl rfl) (oc (an 0 rfl rfl rfl Av.nil) rfl rfl (ob_nilCheck rfl (.tmp rfl)) (oc (an 1 rfl rfl rfl Av.nil) rfl rfl (ob_fieldAddr (off' := 0) rfl Tryd.underlying49 rfl sz30 (by decide) (.tmp rfl) rfl) (oc (an 2 rfl rfl rfl Av.nil) rfl rfl (ob_loadRowV rfl (tkr30 _) (.tmp rfl) (.head _) (lgo_cabalref12_Disk_0_1_2_Firm (⟨[], [], [], p1.Fuse, p1.Dead⟩ : cabalref12_Disk))) (oc (av 6 rfl rfl Av.nil) rfl rfl (mv rfl rfl) (oc (av 0 rfl rfl Av.nil) rfl rfl (mv rfl rfl) (oc (an 5 rfl rfl rfl Av.nil) rfl rfl (ob_nilCheck rfl (.tmp rfl)) (oc (an 6 rfl rfl rfl Av.nil) rfl rfl (ob_fieldAddr (off' := 2) rfl Tryd.underlying49 rfl sz30 (by decide) (.tmp rfl) rfl) (oc (an 7 rfl rfl rfl Av.nil) rfl rfl (ob_loadRowV rfl (tkr30 _) (.tmp rfl) (.head _) (lgo_cabalref12_Disk_0_1_2_Data (⟨[], [], [], p1.Fuse, p1.Dead⟩ : cabalref12_Disk))) (oc (av 1 rfl rfl Av.nil) rfl rfl (mv rfl rfl) (oc (an 8 rfl rfl rfl (an 9 rfl rfl rfl Av.nil)) rfl rfl (ob_rowAt rfl Tryd.underlying30 sz9 (.tmp rfl) (.tail _ (.tail _ (.tail _ (.head _)))) (.tmp rfl) g2) (oc (an 10 rfl rfl rfl Av.nil) rfl rfl (ob_rowLoad rfl tk9 (.tmp rfl) (.tail _ (.tail _ (.tail _ (.head _)))) (LG.arrA e_x2)) (oc (av 2 rfl rfl Av.nil) rfl rfl (mv rfl rfl) (oc (an 11 rfl rfl rfl (an 12 rfl rfl rfl Av.nil)) rfl rfl (ob_cutStr rfl Tryd.underlying9 (.tmp rfl) .none (.some (.tmp rfl)) e_x3) (oc (av 0 rfl rfl Av.nil) rfl rfl (mv rfl rfl) (oc (an 14 rfl rfl rfl Av.nil) rfl rfl (ob_nilCheck rfl (.tmp rfl)) (oc (an 15 rfl rfl rfl Av.nil) rfl rfl (ob_fieldAddr (off' := 0) rfl Tryd.underlying49 rfl sz30 (by decide) (.tmp rfl) rfl) (oc (an 16 rfl rfl rfl Av.nil) rfl rfl (ob_loadRowV rfl (tkr30 _) (.tmp rfl) (.head _) (lgo_cabalref12_Disk_0_1_2_Firm (⟨[], [], [], p1.Fuse, p1.Dead⟩ : cabalref12_Disk))) (oc (av 6 rfl rfl Av.nil) rfl rfl (mv rfl rfl) (oc (an 17 rfl rfl rfl (an 18 rfl rfl rfl Av.nil)) rfl rfl (ob_rowAt rfl Tryd.underlying30 sz9 (.tmp rfl) (.tail _ (.head _)) (.tmp rfl) g3) (oc (an 19 rfl rfl rfl Av.nil) rfl rfl (ob_rowLoad rfl tk9 (.tmp rfl) (.tail _ (.head _)) (LG.arrA e_x4)) (oc (av 2 rfl rfl Av.nil) rfl rfl (mv rfl rfl) (oc (an 20 rfl rfl rfl (an 21 rfl rfl rfl Av.nil)) rfl rfl (ob_cutStr rfl Tryd.underlying9 (.tmp rfl) (.some (.tmp rfl)) .none e_x5) (oc (an 13 rfl rfl rfl (an 22 rfl rfl rfl Av.nil)) rfl rfl (ob_cat rfl (.tmp rfl) (.tmp rfl) g4) opsS_nil)))))))))))))))))))))))) (out_new (i := 3) (by decide) rfl rfl (out_new (i := 4) (by decide) rfl rfl (out_new (i := 23) (by decide) rfl rfl out_nil))) fun _ _ s11 => ?_
 obtain ⟨g5, h10⟩ := guard_some h9; clear h9
 obtain ⟨x6, e_x6, h11⟩ := bind_some h10; clear h10
 refine qs s11 (.c1 rfl (ob_rowAt rfl Tryd.underlying30 sz9 (.tmp rfl) (.tail _ (.head _)) (.tmp rfl) g5) .cz) fun _ _ s12 => ?_; clear s11
 refine seq_opx0 (B' := (fun _ : Unit => [BF b00 49 (ko_cabalref12_Disk_0_1_2 w0_0 w0_1 w0_2) (⟨[], [], [], p1.Fuse, p1.Dead⟩ : cabalref12_Disk), RowF w0_0 9 kstr x6, RowF w0_1 3 (kint .i64) p1.At, RowF w0_2 9 kstr p1.Data])) s12 rfl rfl (ob_rowStore (A := [_]) rfl tk9 (.tmp rfl) (.tmp rfl) rfl (LS.arrS e_x6) rfl) fun _ a13 w13 s13 => ?_; clear s12
 refine wpList_nil ?_
 obtain rfl := Option.some.inj h11
 exact leaveXD (D := []) ⟨w0_0, w0_1, w0_2⟩ s13 rfl (.inr rfl) rfl .nil rfl
theorem c_cabalref12_Disk_clear (k : Nat) (p1 : cabalref12_Disk) (r : cabalref12_Disk) (h0 : cabalref12_Disk_clear k p1 = some r) (ok : Ok) (w0 : World) (z0 : Value) (b00 : Nat) (w0_0 : Value) (w0_1 : Value) (w0_2 : Value) (l0 : ∀ q, q ∈ [BF b00 49 (ko_cabalref12_Disk_0_1_2 w0_0 w0_1 w0_2) (⟨[], [], [], p1.Fuse, p1.Dead⟩ : cabalref12_Disk), RowF w0_0 9 kstr p1.Firm, RowF w0_1 3 (kint .i64) p1.At, RowF w0_2 9 kstr p1.Data] → q.holds ok w0) (d0 : ∀ c, c ∈ idsOf [BF b00 49 (ko_cabalref12_Disk_0_1_2 w0_0 w0_1 w0_2) (⟨[], [], [], p1.Fuse, p1.Dead⟩ : cabalref12_Disk), RowF w0_0 9 kstr p1.Firm, RowF w0_1 3 (kint .i64) p1.At, RowF w0_2 9 kstr p1.Data] → ¬ ok c) (nd : (idsOf [BF b00 49 (ko_cabalref12_Disk_0_1_2 w0_0 w0_1 w0_2) (⟨[], [], [], p1.Fuse, p1.Dead⟩ : cabalref12_Disk), RowF w0_0 9 kstr p1.Firm, RowF w0_1 3 (kint .i64) p1.At, RowF w0_2 9 kstr p1.Data]).Nodup) (u0 : (ptrB b00 0).holds ok w0 z0) :
 GivesX Tryd.prog 59 [z0] ok w0 [BF b00 49 (ko_cabalref12_Disk_0_1_2 w0_0 w0_1 w0_2) (⟨[], [], [], p1.Fuse, p1.Dead⟩ : cabalref12_Disk), RowF w0_0 9 kstr p1.Firm, RowF w0_1 3 (kint .i64) p1.At, RowF w0_2 9 kstr p1.Data] (fun g : Value × Value × Value => resFact []) (fun g : Value × Value × Value => [BF b00 49 (ko_cabalref12_Disk_0_1_2 (g.1) (g.2.1) (g.2.2)) (⟨[], [], [], r.Fuse, r.Dead⟩ : cabalref12_Disk), RowF (g.1) 9 kstr r.Firm, RowF (g.2.1) 3 (kint .i64) r.At, RowF (g.2.2) 9 kstr r.Data]) := by
 unfold cabalref12_Disk_clear at h0
 refine enterX (N := 8) Tryd.func59 rfl rfl (of_decide_eq_true rfl) (.cons u0 .nil) nd l0 d0 fun a1 s1 => ?_
 refine wp_seq_k fun K1 hK1 => wp_region_lit (qs s1 (.c1 rfl (mv rfl rfl) (.c1 rfl (ob_nilCheck rfl (.tmp rfl)) (.c1 rfl (ob_fieldAddr (off' := 1) rfl Tryd.underlying49 rfl sz47 (by decide) (.tmp rfl) rfl) .cz))) fun _ _ s4 => ?_); clear s1
 have s5 := St.adopt s4 (G := RowF (nilRow 14) 3 (kint .i64) []) rfl (rowNilN _ _ _ _ _); clear s4
 refine seq_opx0 (B' := (fun _ : Unit => [RowF (nilRow 14) 3 (kint .i64) ([] : (List Int)), BF b00 49 (ko_cabalref12_Disk_0_1_2 w0_0 (nilRow 14) w0_2) (⟨[], [], [], p1.Fuse, p1.Dead⟩ : cabalref12_Disk), RowF w0_0 9 kstr p1.Firm, RowF w0_1 3 (kint .i64) p1.At, RowF w0_2 9 kstr p1.Data])) s5 rfl rfl (ob_storeRowV (A := [_]) rfl (tkr47 _) (.tmp rfl) opd_is (.head _) rfl (lsk_cabalref12_Disk_0_1_2_to_0_1_2_at1 (⟨[], [], [], p1.Fuse, p1.Dead⟩ : cabalref12_Disk)) rfl) fun _ a6 w6 s6 => ?_; clear s5
 refine wn hK1 ?_
 have s7 := s6.sub (u 0 rfl .nil); clear s6
 have s8 := St.drop (A := [_, _, _]) s7; clear s7
 refine wp_region_lit (qs s8 (.c1 rfl (mv rfl rfl) (.c1 rfl (ob_nilCheck rfl (.tmp rfl)) (.c1 rfl (ob_fieldAddr (off' := 2) rfl Tryd.underlying49 rfl sz30 (by decide) (.tmp rfl) rfl) .cz))) fun _ _ s11 => ?_); clear s8
 have s12 := St.adopt s11 (G := RowF (nilRow 15) 9 kstr []) rfl (rowNilN _ _ _ _ _); clear s11
 refine seq_opx0 (B' := (fun _ : Unit => [RowF (nilRow 15) 9 kstr ([] : (List (List Int))), RowF (nilRow 14) 3 (kint .i64) ([] : (List Int)), BF b00 49 (ko_cabalref12_Disk_0_1_2 w0_0 (nilRow 14) (nilRow 15)) (⟨[], [], [], p1.Fuse, p1.Dead⟩ : cabalref12_Disk), RowF w0_0 9 kstr p1.Firm, RowF w0_2 9 kstr p1.Data])) s12 rfl rfl (ob_storeRowV (A := [_, _]) rfl (tkr30 _) (.tmp rfl) opd_is (.head _) rfl (lsk_cabalref12_Disk_0_1_2_to_0_1_2_at2 (⟨[], [], [], p1.Fuse, p1.Dead⟩ : cabalref12_Disk)) rfl) fun _ a13 w13 s13 => ?_; clear s12
 refine wpList_nil ?_
 have s14 := s13.perm (toFront [_, _] (toFront [_, _] (toFront [_] (toFront [] (List.Perm.refl _))))); clear s13
 obtain rfl := Option.some.inj h0
 exact leaveXD (D := [_]) ⟨w0_0, (nilRow 14), (nilRow 15)⟩ s14 rfl (.inr rfl) rfl .nil rfl
theorem c_cabalref12_Disk_Sync (k : Nat) (p1 : cabalref12_Disk) (r : (Int × cabalref12_Disk)) (h0 : cabalref12_Disk_Sync k p1 = some r) (ok : Ok) (w0 : World) (z0 : Value) (b00 : Nat) (w0_0 : Value) (w0_1 : Value) (w0_2 : Value) (l0 : ∀ q, q ∈ [BF b00 49 (ko_cabalref12_Disk_0_1_2 w0_0 w0_1 w0_2) (⟨[], [], [], p1.Fuse, p1.Dead⟩ : cabalref12_Disk), RowF w0_0 9 kstr p1.Firm, RowF w0_1 3 (kint .i64) p1.At, RowF w0_2 9 kstr p1.Data] → q.holds ok w0) (d0 : ∀ c, c ∈ idsOf [BF b00 49 (ko_cabalref12_Disk_0_1_2 w0_0 w0_1 w0_2) (⟨[], [], [], p1.Fuse, p1.Dead⟩ : cabalref12_Disk), RowF w0_0 9 kstr p1.Firm, RowF w0_1 3 (kint .i64) p1.At, RowF w0_2 9 kstr p1.Data] → ¬ ok c) (nd : (idsOf [BF b00 49 (ko_cabalref12_Disk_0_1_2 w0_0 w0_1 w0_2) (⟨[], [], [], p1.Fuse, p1.Dead⟩ : cabalref12_Disk), RowF w0_0 9 kstr p1.Firm, RowF w0_1 3 (kint .i64) p1.At, RowF w0_2 9 kstr p1.Data]).Nodup) (u0 : (ptrB b00 0).holds ok w0 z0) :
 GivesX Tryd.prog 52 [z0] ok w0 [BF b00 49 (ko_cabalref12_Disk_0_1_2 w0_0 w0_1 w0_2) (⟨[], [], [], p1.Fuse, p1.Dead⟩ : cabalref12_Disk), RowF w0_0 9 kstr p1.Firm, RowF w0_1 3 (kint .i64) p1.At, RowF w0_2 9 kstr p1.Data] (fun g : Value × Value × Value => resFact [(kint .i64).V r.1]) (fun g : Value × Value × Value => [BF b00 49 (ko_cabalref12_Disk_0_1_2 (g.1) (g.2.1) (g.2.2)) (⟨[], [], [], r.2.Fuse, r.2.Dead⟩ : cabalref12_Disk), RowF (g.1) 9 kstr r.2.Firm, RowF (g.2.1) 3 (kint .i64) r.2.At, RowF (g.2.2) 9 kstr r.2.Data]) := by
 unfold cabalref12_Disk_Sync at h0
 refine enterX (N := 27) Tryd.func52 rfl rfl (of_decide_eq_true rfl) (.cons u0 .nil) nd l0 d0 fun a1 s1 => ?_
 refine wp_seq_k fun K1 hK1 => wp_region_lit (qs s1 (.c1 rfl (ob_assign rfl (opd_int rfl)) (.ce (u 0 rfl .nil))) fun _ _ s3 => wn hK1 ?_); clear s1
 refine wp_seq_k fun K2 hK2 => wp_seq_k fun K3 hK3 => ?_
 obtain ⟨x1, e_x1, h1⟩ := bind_some h0; clear h0
 refine wp_region_lit (qs s3 (.c1 rfl (mv rfl rfl) (.c1 rfl (ob_nilCheck rfl (.tmp rfl)) (.c1 rfl (ob_fieldAddr (off' := 4) rfl Tryd.underlying49 rfl sz4 (by decide) (.tmp rfl) rfl) (.c1 rfl (ob_load rfl tk4 (.tmp rfl) (.head _) (lgo_cabalref12_Disk_0_1_2_Dead (⟨[], [], [], p1.Fuse, p1.Dead⟩ : cabalref12_Disk))) (.c1 rfl (mv rfl rfl) (.cg rfl rfl rfl rfl (fun hb => ob_move rfl (.tmp rfl)) .cz)))))) fun _ _ s9 => ?_); clear s3
 refine seq_opxg (B1 := (fun gg : Value × Value × Value => [BF b00 49 (ko_cabalref12_Disk_0_1_2 gg.1 gg.2.1 gg.2.2) (⟨[], [], [], x1.2.Fuse, x1.2.Dead⟩ : cabalref12_Disk), RowF gg.1 9 kstr x1.2.Firm, RowF gg.2.1 3 (kint .i64) x1.2.At, RowF gg.2.2 9 kstr x1.2.Data])) s9 rfl rfl rfl rfl (of_decide_eq_true rfl) (fun hb => (ObX.uncond (t := 9) hb rfl (ob_callL0 (args := [_]) (L := [_, _, _, _]) rfl .direct hb78 (List.Perm.refl _) (fun a w s => by exact c_cabalref12_Disk_burn k _ _ (ite_t hb e_x1) _ _ _ _ _ _ _ (ownL s) (disL s) (nodL s) (s.arg (.tmp rfl))) (by exact fun _ => rfl)))) (fun hb0 => by obtain rfl := Option.some.inj (ite_f hb0 e_x1); exact ⟨⟨w0_0, w0_1, w0_2⟩, rfl⟩) fun gg10 a10 w10 s10 => ?_; clear s9
 obtain ⟨v1, v2, v3⟩ := gg10
 refine qs s10 (.cg rfl rfl rfl rfl (fun hb => (Ob.uncond (t := 10) hb rfl (ob_not rfl (.tmp rfl)))) (.c1 rfl (ob_or2 rfl (.tmp rfl) opd_bool (.tmp rfl)) (.ce (u 0 rfl (u 12 rfl .nil))))) fun _ _ s13 => wn hK3 ?_; clear s10
 refine cond_split s13 (.tmp rfl) (fun hc1 => ?_) (fun hc1 => ?_)
 ·have h2 := ite_t hc1 h1; clear h1
  refine wp_seq_k fun K4 hK4 => wp_region_lit (qs s13 (.c1 rfl (ob_assign rfl (opd_int rfl)) (.ce (u 2 rfl .nil))) fun _ _ s15 => wn hK4 ?_); clear s13
  refine wp_ret ?_
  obtain rfl := Option.some.inj h2
  exact leaveXD (D := []) ⟨v1, v2, v3⟩ s15 rfl (.inl rfl) rfl (.cons (.tmp rfl) .nil) rfl
 ·have h3 := ite_f hc1 h1; clear h1
  refine wp_skip ?_
  refine then_normal (hK2 _ _ ?_)
  have s16 := s13.sub (u 0 rfl .nil); clear s13
  refine wp_seq_k fun K5 hK5 => wp_seq_k fun K6 hK6 => ?_
  refine wp_region_lit (qs s16 (.c1 rfl (ob_assign rfl (opd_int rfl)) (.ce (u 0 rfl (u 3 rfl .nil)))) fun _ _ s18 => wn hK6 ?_); clear s16
  have hj1 : ∀ (y1 : Int) (y2 : Bool) (y3 : (List (List Int))) (y4 : (List Int)) (y5 : (List (List Int))) (v4 : Value) (v5 : Value) (v6 : Value) (a : Act) (w : World), (cabalref12_Disk_Sync.j1 k) y1 y2 y3 y4 y5 = some r → St ⟨27, w0, ok, (idsOf [BF b00 49 (ko_cabalref12_Disk_0_1_2 w0_0 w0_1 w0_2) (⟨[], [], [], p1.Fuse, p1.Dead⟩ : cabalref12_Disk), RowF w0_0 9 kstr p1.Firm, RowF w0_1 3 (kint .i64) p1.At, RowF w0_2 9 kstr p1.Data])⟩ [BF b00 49 (ko_cabalref12_Disk_0_1_2 v4 v5 v6) (⟨[], [], [], y1, y2⟩ : cabalref12_Disk), RowF v4 9 kstr y3, RowF v5 3 (kint .i64) y4, RowF v6 9 kstr y5] [(0, (ptrB b00 0))] a w → K5 a w := by
   intro y1 y2 y3 y4 y5 v4 v5 v6 a19 w19 h4 s19
   unfold cabalref12_Disk_Sync.j1 at h4
   refine hK5 _ _ ?_
   obtain ⟨x2, e_x2, h5⟩ := bind_some h4; clear h4
   refine wp_seq_k fun K7 hK7 => wp_region_lit (qs s19 (.c1 rfl (mv rfl rfl) .cz) fun _ _ s20 => ?_); clear s19
   refine qx (B' := (fun gg : Value × Value × Value => [BF b00 49 (ko_cabalref12_Disk_0_1_2 gg.1 gg.2.1 gg.2.2) (⟨[], [], [], x2.Fuse, x2.Dead⟩ : cabalref12_Disk), RowF gg.1 9 kstr x2.Firm, RowF gg.2.1 3 (kint .i64) x2.At, RowF gg.2.2 9 kstr x2.Data])) s20 rfl (ob_callL0 (args := [_]) (L := [_, _, _, _]) rfl .direct hb59 (List.Perm.refl _) (fun a w s => by exact c_cabalref12_Disk_clear k _ _ e_x2 _ _ _ _ _ _ _ (ownL s) (disL s) (nodL s) (s.arg (.tmp rfl))) (by exact fun _ => rfl)) fun gg21 _ _ s21 => ?_; clear s20
   obtain ⟨v7, v8, v9⟩ := gg21
   refine wn hK7 ?_
   have s22 := s21.sub .nil; clear s21
   refine wp_seq_k fun K8 hK8 => wp_region_lit (qs s22 (.c1 rfl (ob_assign rfl (opd_int rfl)) (.ce (u 2 rfl .nil))) fun _ _ s24 => wn hK8 ?_); clear s22
   refine wp_ret ?_
   obtain rfl := Option.some.inj h5
   exact leaveXD (D := []) ⟨v7, v8, v9⟩ s24 rfl (.inl rfl) rfl (.cons (.tmp rfl) .nil) rfl
  refine wp_block ?_
  refine wp_loop_fuel (fun m (q : Int × Int × Bool × (List (List Int)) × (List Int) × (List (List Int))) => cabalref12_Disk_Sync.l1 k m q.1 q.2.1 q.2.2.1 q.2.2.2.1 q.2.2.2.2.1 q.2.2.2.2.2) r (fun _ => rfl) (fun q a w => ∃ (v10 : Value) (v11 : Value) (v12 : Value), St ⟨27, w0, ok, (idsOf [BF b00 49 (ko_cabalref12_Disk_0_1_2 w0_0 w0_1 w0_2) (⟨[], [], [], p1.Fuse, p1.Dead⟩ : cabalref12_Disk), RowF w0_0 9 kstr p1.Firm, RowF w0_1 3 (kint .i64) p1.At, RowF w0_2 9 kstr p1.Data])⟩ [BF b00 49 (ko_cabalref12_Disk_0_1_2 v10 v11 v12) (⟨[], [], [], q.2.1, q.2.2.1⟩ : cabalref12_Disk), RowF v10 9 kstr q.2.2.2.1, RowF v11 3 (kint .i64) q.2.2.2.2.1, RowF v12 9 kstr q.2.2.2.2.2] [(0, (ptrB b00 0)), (3, ((kint .i64).V q.1))] a w) ?_ k ((0 : Int), x1.2.Fuse, x1.2.Dead, x1.2.Firm, x1.2.At, x1.2.Data) _ _ h3 ⟨v1, v2, v3, (s18.sub (.cons rfl (.cons rfl .nil)))⟩
  rintro n1 ⟨y6, y7, y8, y9, y10, y11⟩ a25 w25 h6 ⟨v10, v11, v12, s25⟩ K9 hK9
  replace h6 : cabalref12_Disk_Sync.l1 k (n1 + 1) y6 y7 y8 y9 y10 y11 = some r := h6; rw [cabalref12_Disk_Sync.l1] at h6
  have h7 := h6; clear h6
  refine wp_seq_k fun K10 hK10 => wp_seq_k fun K11 hK11 => ?_
  refine wp_region_lit (qs s25 (.c1 rfl (mv rfl rfl) (.c1 rfl (mv rfl rfl) (.c1 rfl (ob_nilCheck rfl (.tmp rfl)) (.c1 rfl (ob_fieldAddr (off' := 1) rfl Tryd.underlying49 rfl sz47 (by decide) (.tmp rfl) rfl) (.c1 rfl (ob_loadRowV rfl (tkr47 _) (.tmp rfl) (.head _) (lgo_cabalref12_Disk_0_1_2_At (⟨[], [], [], y7, y8⟩ : cabalref12_Disk))) (.c1 rfl (ob_lenRow rfl Tryd.underlying47 (.tmp rfl) (.tail _ (.tail _ (.head _)))) (.c1 rfl (ob_lss rfl (.tmp rfl) (.tmp rfl)) (.ce (u 0 rfl (u 3 rfl (u 19 rfl .nil))))))))))) fun _ _ s33 => wn hK11 ?_); clear s25
  refine cond_split s33 (.tmp rfl) (fun hc2 => ?_) (fun hc2 => ?_)
  ·have h8 := ite_t hc2 h7; clear h7
   refine wp_skip ?_
   refine then_normal (hK10 _ _ ?_)
   have s34 := s33.sub (u 0 rfl (u 3 rfl .nil)); clear s33
   refine wp_seq_k fun K12 hK12 => wp_block ?_
   obtain ⟨x3, e_x3, h9⟩ := bind_some h8; clear h8
   refine wp_region_lit (qs s34 (.c1 rfl (mv rfl rfl) (.c1 rfl (mv rfl rfl) .cz)) fun _ _ s36 => ?_); clear s34
   refine qx (B' := (fun gg : Value × Value × Value => [BF b00 49 (ko_cabalref12_Disk_0_1_2 gg.1 gg.2.1 gg.2.2) (⟨[], [], [], x3.Fuse, x3.Dead⟩ : cabalref12_Disk), RowF gg.1 9 kstr x3.Firm, RowF gg.2.1 3 (kint .i64) x3.At, RowF gg.2.2 9 kstr x3.Data])) s36 rfl (ob_callL0 (args := [_, _, _]) (L := [_, _, _, _]) rfl .direct hb58 (List.Perm.refl _) (fun a w s => by exact c_cabalref12_Disk_settle k _ _ _ _ e_x3 _ _ _ _ _ _ _ _ _ (ownL s) (disL s) (nodL s) (s.arg (.tmp rfl)) (s.arg (.tmp rfl)) (s.arg (opd_int rfl))) (by exact fun _ => rfl)) fun gg37 _ _ s37 => ?_; clear s36
   obtain ⟨v13, v14, v15⟩ := gg37
   refine wpList_nil ?_
   refine in_normal ?_
   refine then_normal (hK12 _ _ ?_)
   have s38 := s37.sub (u 0 rfl (u 3 rfl .nil)); clear s37
   refine wp_region_lit (qs s38 (.c1 rfl (mv rfl rfl) (.c1 rfl (ob_add rfl (.tmp rfl) (opd_int rfl)) (.c1 rfl (ob_assign rfl (.tmp rfl)) .cz))) fun _ _ s41 => ?_); clear s38
   refine wpList_nil ?_
   refine then_normal ?_
   exact hK9 ((iadd .i64 y6 (1 : Int)), x3.Fuse, x3.Dead, x3.Firm, x3.At, x3.Data) _ _ h9 ⟨v13, v14, v15, (s41.sub (.cons rfl (.cons rfl .nil)))⟩
  ·have h10 := ite_f hc2 h7; clear h7
   refine wp_exit ?_
   refine (then_exit (then_exit (in_here ?_)))
   refine then_normal ?_
   exact hj1 y7 y8 y9 y10 y11 v10 v11 v12 _ _ h10 (s33.sub (.cons rfl .nil))
theorem c_caballaw13_lay (k : Nat) (p1 : disk_Disk) (p2 : cabalref12_Disk) (p3 : Int) (p4 : (List Int)) (r : (disk_Disk × cabalref12_Disk)) (h0 : caballaw13_lay k p1 p2 p3 p4 = some r) (ok : Ok) (w0 : World) (z0 : Value) (z1 : Value) (z2 : Value) (z3 : Value) (b00 : Nat) (w0_0 : Value) (w0_1 : Value) (b01 : Nat) (w1_0 : Value) (w1_1 : Value) (w1_2 : Value) (l0 : ∀ q, q ∈ [BF b00 68 (ko_disk_Disk_0_1 w0_0 w0_1) (⟨[], [], p1.fuse, p1.dead⟩ : disk_Disk), RowF w0_0 100 (karr 256 (kint .u8)) p1.firm, RowF w0_1 102 k_disk_write p1.loose, BF b01 49 (ko_cabalref12_Disk_0_1_2 w1_0 w1_1 w1_2) (⟨[], [], [], p2.Fuse, p2.Dead⟩ : cabalref12_Disk), RowF w1_0 9 kstr p2.Firm, RowF w1_1 3 (kint .i64) p2.At, RowF w1_2 9 kstr p2.Data] → q.holds ok w0) (d0 : ∀ c, c ∈ idsOf [BF b00 68 (ko_disk_Disk_0_1 w0_0 w0_1) (⟨[], [], p1.fuse, p1.dead⟩ : disk_Disk), RowF w0_0 100 (karr 256 (kint .u8)) p1.firm, RowF w0_1 102 k_disk_write p1.loose, BF b01 49 (ko_cabalref12_Disk_0_1_2 w1_0 w1_1 w1_2) (⟨[], [], [], p2.Fuse, p2.Dead⟩ : cabalref12_Disk), RowF w1_0 9 kstr p2.Firm, RowF w1_1 3 (kint .i64) p2.At, RowF w1_2 9 kstr p2.Data] → ¬ ok c) (nd : (idsOf [BF b00 68 (ko_disk_Disk_0_1 w0_0 w0_1) (⟨[], [], p1.fuse, p1.dead⟩ : disk_Disk), RowF w0_0 100 (karr 256 (kint .u8)) p1.firm, RowF w0_1 102 k_disk_write p1.loose, BF b01 49 (ko_cabalref12_Disk_0_1_2 w1_0 w1_1 w1_2) (⟨[], [], [], p2.Fuse, p2.Dead⟩ : cabalref12_Disk), RowF w1_0 9 kstr p2.Firm, RowF w1_1 3 (kint .i64) p2.At, RowF w1_2 9 kstr p2.Data]).Nodup) (u0 : (ptrB b00 0).holds ok w0 z0) (u1 : (ptrB b01 0).holds ok w0 z1) (u2 : ((kint .i64).V p3).holds ok w0 z2) (u3 : (kstr.V p4).holds ok w0 z3) :
 GivesX Tryd.prog 17 [z0, z1, z2, z3] ok w0 [BF b00 68 (ko_disk_Disk_0_1 w0_0 w0_1) (⟨[], [], p1.fuse, p1.dead⟩ : disk_Disk), RowF w0_0 100 (karr 256 (kint .u8)) p1.firm, RowF w0_1 102 k_disk_write p1.loose, BF b01 49 (ko_cabalref12_Disk_0_1_2 w1_0 w1_1 w1_2) (⟨[], [], [], p2.Fuse, p2.Dead⟩ : cabalref12_Disk), RowF w1_0 9 kstr p2.Firm, RowF w1_1 3 (kint .i64) p2.At, RowF w1_2 9 kstr p2.Data] (fun g : Value × Value × Value × Value × Value => resFact []) (fun g : Value × Value × Value × Value × Value => [BF b00 68 (ko_disk_Disk_0_1 (g.1) (g.2.1)) (⟨[], [], r.1.fuse, r.1.dead⟩ : disk_Disk), RowF (g.1) 100 (karr 256 (kint .u8)) r.1.firm, RowF (g.2.1) 102 k_disk_write r.1.loose, BF b01 49 (ko_cabalref12_Disk_0_1_2 (g.2.2.1) (g.2.2.2.1) (g.2.2.2.2)) (⟨[], [], [], r.2.Fuse, r.2.Dead⟩ : cabalref12_Disk), RowF (g.2.2.1) 9 kstr r.2.Firm, RowF (g.2.2.2.1) 3 (kint .i64) r.2.At, RowF (g.2.2.2.2) 9 kstr r.2.Data]) := by
 unfold caballaw13_lay at h0
 refine enterX (N := 29) Tryd.func17 rfl rfl (of_decide_eq_true rfl) (.cons u0 (.cons u1 (.cons u2 (.cons u3 .nil)))) nd l0 d0 fun a1 s1 => ?_
 refine wp_seq_k fun K1 hK1 => ?_
 have hj1 : ∀ (y1 : (List Int)) (a : Act) (w : World), (caballaw13_lay.j1 k p2 p3 p1) y1 = some r → St ⟨29, w0, ok, (idsOf [BF b00 68 (ko_disk_Disk_0_1 w0_0 w0_1) (⟨[], [], p1.fuse, p1.dead⟩ : disk_Disk), RowF w0_0 100 (karr 256 (kint .u8)) p1.firm, RowF w0_1 102 k_disk_write p1.loose, BF b01 49 (ko_cabalref12_Disk_0_1_2 w1_0 w1_1 w1_2) (⟨[], [], [], p2.Fuse, p2.Dead⟩ : cabalref12_Disk), RowF w1_0 9 kstr p2.Firm, RowF w1_1 3 (kint .i64) p2.At, RowF w1_2 9 kstr p2.Data])⟩ [BF b00 68 (ko_disk_Disk_0_1 w0_0 w0_1) (⟨[], [], p1.fuse, p1.dead⟩ : disk_Disk), BF b01 49 (ko_cabalref12_Disk_0_1_2 w1_0 w1_1 w1_2) (⟨[], [], [], p2.Fuse, p2.Dead⟩ : cabalref12_Disk), RowF w0_0 100 (karr 256 (kint .u8)) p1.firm, RowF w0_1 102 k_disk_write p1.loose, RowF w1_0 9 kstr p2.Firm, RowF w1_1 3 (kint .i64) p2.At, RowF w1_2 9 kstr p2.Data] [(0, (ptrB b00 0)), (1, (ptrB b01 0)), (2, ((kint .i64).V p3)), (3, (kstr.V y1))] a w → K1 a w := by
  intro y1 a2 w2 h1 s2
  unfold caballaw13_lay.j1 at h1
  refine hK1 _ _ ?_
  refine wp_seq_k fun K2 hK2 => wp_seq_k fun K3 hK3 => ?_
  obtain ⟨x1, e_x1, h2⟩ := bind_some h1; clear h1
  refine wp_region_lit (qs s2 (.c1 rfl (mv rfl rfl) (.c1 rfl (mv rfl rfl) (.c1 rfl ((ob_lendG (L := [_, _, _, _]) (toFront [_] (toFront [_, _, _] (toFront [_, _, _] (toFront [_, _, _] (List.Perm.refl _))))) (.cons (t := 13) rfl (lendObj (K' := k_cabalref12_Disk) (X' := p2) (.head _) rfl (upo_cabalref12_Disk_0_1_2 rfl (.row (LetAll.row (.tail _ (.head _)))) (.row (LetAll.row (.tail _ (.tail _ (.head _))))) (.row (LetAll.row (.tail _ (.tail _ (.tail _ (.head _)))))))) .nil) (Flat.res1 (Flat.V KFlat.bool)) (fun _ => ob_callD0 (args := [_, _]) rfl .direct hb48 (fun a w s => by exact c_cabalref12_Disk_Has k _ _ _ e_x1 _ _ _ _ (s.arg (.tmp rfl)) (s.arg (.tmp rfl)))))) (.c1 rfl (ob_not rfl (.tmp rfl)) (.ce (u 0 rfl (u 1 rfl (u 2 rfl (u 3 rfl (u 16 rfl .nil)))))))))) fun _ _ s7 => wn hK3 ?_); clear s2
  refine cond_split s7 (.tmp rfl) (fun hc1 => ?_) (fun hc1 => ?_)
  ·have h3 := ite_t hc1 h2; clear h2
   refine wp_ret ?_
   have s8 := s7.perm (toFront [] (toFront [_] (toFront [_] (toFront [] (toFront [] (toFront [] (toFront [] (List.Perm.refl _)))))))); clear s7
   obtain rfl := Option.some.inj h3
   exact leaveXD (D := []) ⟨w0_0, w0_1, w1_0, w1_1, w1_2⟩ s8 rfl (.inl rfl) rfl .nil rfl
  ·have h4 := ite_f hc1 h2; clear h2
   refine wp_skip ?_
   refine then_normal (hK2 _ _ ?_)
   have s9 := s7.sub (u 0 rfl (u 1 rfl (u 2 rfl (u 3 rfl .nil)))); clear s7
   obtain ⟨x2, e_x2, h5⟩ := bind_some h4; clear h4
   refine wp_seq_k fun K4 hK4 => wp_region_lit (qs s9 (.c1 rfl (mv rfl rfl) (.c1 rfl (mv rfl rfl) (.c1 rfl (mv rfl rfl) .cz))) fun _ _ s12 => ?_); clear s9
   refine qx (B' := (fun gg : Value × Value => [BF b00 68 (ko_disk_Disk_0_1 gg.1 gg.2) (⟨[], [], x2.2.fuse, x2.2.dead⟩ : disk_Disk), RowF gg.1 100 (karr 256 (kint .u8)) x2.2.firm, RowF gg.2 102 k_disk_write x2.2.loose, BF b01 49 (ko_cabalref12_Disk_0_1_2 w1_0 w1_1 w1_2) (⟨[], [], [], p2.Fuse, p2.Dead⟩ : cabalref12_Disk), RowF w1_0 9 kstr p2.Firm, RowF w1_1 3 (kint .i64) p2.At, RowF w1_2 9 kstr p2.Data])) s12 rfl (ob_callL0 (args := [_, _, _]) (L := [_, _, _]) rfl .direct hb49 (toFront [] (toFront [_] (toFront [_] (List.Perm.refl _)))) (fun a w s => by exact c_disk_Disk_Write k _ _ _ _ e_x2 _ _ _ _ _ _ _ _ (ownL s) (disL s) (nodL s) (s.arg (.tmp rfl)) (s.arg (.tmp rfl)) (s.arg (.tmp rfl))) (by exact fun _ => rfl)) fun gg13 _ _ s13 => ?_; clear s12
   obtain ⟨v1, v2⟩ := gg13
   refine wn hK4 ?_
   have s14 := s13.sub (u 0 rfl (u 1 rfl (u 2 rfl (u 3 rfl .nil)))); clear s13
   obtain ⟨x3, e_x3, h6⟩ := bind_some h5; clear h5
   refine wp_seq_k fun K5 hK5 => wp_region_lit (qs s14 (.c1 rfl (mv rfl rfl) .cz) fun _ _ s15 => ?_); clear s14
   refine qx (B' := (fun gg : Value × Value => [BF b00 68 (ko_disk_Disk_0_1 gg.1 gg.2) (⟨[], [], x3.2.fuse, x3.2.dead⟩ : disk_Disk), RowF gg.1 100 (karr 256 (kint .u8)) x3.2.firm, RowF gg.2 102 k_disk_write x3.2.loose, BF b01 49 (ko_cabalref12_Disk_0_1_2 w1_0 w1_1 w1_2) (⟨[], [], [], p2.Fuse, p2.Dead⟩ : cabalref12_Disk), RowF w1_0 9 kstr p2.Firm, RowF w1_1 3 (kint .i64) p2.At, RowF w1_2 9 kstr p2.Data])) s15 rfl (ob_callL0 (args := [_]) (L := [_, _, _]) rfl .direct hb50 (List.Perm.refl _) (fun a w s => by exact c_disk_Disk_Sync k _ _ e_x3 _ _ _ _ _ _ (ownL s) (disL s) (nodL s) (s.arg (.tmp rfl))) (by exact fun _ => rfl)) fun gg16 _ _ s16 => ?_; clear s15
   obtain ⟨v3, v4⟩ := gg16
   refine wn hK5 ?_
   have s17 := s16.sub (u 1 rfl (u 2 rfl (u 3 rfl .nil))); clear s16
   obtain ⟨x4, e_x4, h7⟩ := bind_some h6; clear h6
   refine wp_seq_k fun K6 hK6 => wp_region_lit (qs s17 (.c1 rfl (mv rfl rfl) (.c1 rfl (mv rfl rfl) (.c1 rfl (mv rfl rfl) .cz))) fun _ _ s20 => ?_); clear s17
   refine qx (B' := (fun gg : Value × Value × Value => [BF b01 49 (ko_cabalref12_Disk_0_1_2 gg.1 gg.2.1 gg.2.2) (⟨[], [], [], x4.2.Fuse, x4.2.Dead⟩ : cabalref12_Disk), RowF gg.1 9 kstr x4.2.Firm, RowF gg.2.1 3 (kint .i64) x4.2.At, RowF gg.2.2 9 kstr x4.2.Data, BF b00 68 (ko_disk_Disk_0_1 v3 v4) (⟨[], [], x3.2.fuse, x3.2.dead⟩ : disk_Disk), RowF v3 100 (karr 256 (kint .u8)) x3.2.firm, RowF v4 102 k_disk_write x3.2.loose])) s20 rfl (ob_callL0 (args := [_, _, _]) (L := [_, _, _, _]) rfl .direct hb51 (toFront [_, _, _] (toFront [_, _, _] (toFront [_, _, _] (toFront [_, _, _] (List.Perm.refl _))))) (fun a w s => by exact c_cabalref12_Disk_Write k _ _ _ _ e_x4 _ _ _ _ _ _ _ _ _ (ownL s) (disL s) (nodL s) (s.arg (.tmp rfl)) (s.arg (.tmp rfl)) (s.arg (.tmp rfl))) (by exact fun _ => rfl)) fun gg21 _ _ s21 => ?_; clear s20
   obtain ⟨v5, v6, v7⟩ := gg21
   refine wn hK6 ?_
   have s22 := s21.sub (u 1 rfl .nil); clear s21
   obtain ⟨x5, e_x5, h8⟩ := bind_some h7; clear h7
   refine wp_region_lit (qs s22 (.c1 rfl (mv rfl rfl) .cz) fun _ _ s23 => ?_); clear s22
   refine qx (B' := (fun gg : Value × Value × Value => [BF b01 49 (ko_cabalref12_Disk_0_1_2 gg.1 gg.2.1 gg.2.2) (⟨[], [], [], x5.2.Fuse, x5.2.Dead⟩ : cabalref12_Disk), RowF gg.1 9 kstr x5.2.Firm, RowF gg.2.1 3 (kint .i64) x5.2.At, RowF gg.2.2 9 kstr x5.2.Data, BF b00 68 (ko_disk_Disk_0_1 v3 v4) (⟨[], [], x3.2.fuse, x3.2.dead⟩ : disk_Disk), RowF v3 100 (karr 256 (kint .u8)) x3.2.firm, RowF v4 102 k_disk_write x3.2.loose])) s23 rfl (ob_callL0 (args := [_]) (L := [_, _, _, _]) rfl .direct hb52 (List.Perm.refl _) (fun a w s => by exact c_cabalref12_Disk_Sync k _ _ e_x5 _ _ _ _ _ _ _ (ownL s) (disL s) (nodL s) (s.arg (.tmp rfl))) (by exact fun _ => rfl)) fun gg24 _ _ s24 => ?_; clear s23
   obtain ⟨v8, v9, v10⟩ := gg24
   refine wpList_nil ?_
   have s25 := s24.perm (toFront [_, _, _, _] (toFront [_, _, _, _] (toFront [_, _, _, _] (toFront [] (toFront [] (toFront [] (toFront [] (List.Perm.refl _)))))))); clear s24
   obtain rfl := Option.some.inj h8
   exact leaveXD (D := []) ⟨v3, v4, v8, v9, v10⟩ s25 rfl (.inr rfl) rfl .nil rfl
 refine wp_block ?_
 have s26 := s1.perm (toFront [] (toFront [_, _] (toFront [] (toFront [] (toFront [] (toFront [] (toFront [] (List.Perm.refl _)))))))); clear s1
 refine wp_loop_fuel (fun m (q : (List Int)) => caballaw13_lay.l1 k p2 p3 p1 m q) r (fun _ => rfl) (fun q a w => St ⟨29, w0, ok, (idsOf [BF b00 68 (ko_disk_Disk_0_1 w0_0 w0_1) (⟨[], [], p1.fuse, p1.dead⟩ : disk_Disk), RowF w0_0 100 (karr 256 (kint .u8)) p1.firm, RowF w0_1 102 k_disk_write p1.loose, BF b01 49 (ko_cabalref12_Disk_0_1_2 w1_0 w1_1 w1_2) (⟨[], [], [], p2.Fuse, p2.Dead⟩ : cabalref12_Disk), RowF w1_0 9 kstr p2.Firm, RowF w1_1 3 (kint .i64) p2.At, RowF w1_2 9 kstr p2.Data])⟩ [BF b00 68 (ko_disk_Disk_0_1 w0_0 w0_1) (⟨[], [], p1.fuse, p1.dead⟩ : disk_Disk), BF b01 49 (ko_cabalref12_Disk_0_1_2 w1_0 w1_1 w1_2) (⟨[], [], [], p2.Fuse, p2.Dead⟩ : cabalref12_Disk), RowF w0_0 100 (karr 256 (kint .u8)) p1.firm, RowF w0_1 102 k_disk_write p1.loose, RowF w1_0 9 kstr p2.Firm, RowF w1_1 3 (kint .i64) p2.At, RowF w1_2 9 kstr p2.Data] [(0, (ptrB b00 0)), (1, (ptrB b01 0)), (2, ((kint .i64).V p3)), (3, (kstr.V q))] a w) ?_ k p4 _ _ h0 (s26.sub (.cons rfl (.cons rfl (.cons rfl (.cons rfl .nil)))))
 rintro n1 y2 a27 w27 h9 s27 K7 hK7
 replace h9 : caballaw13_lay.l1 k p2 p3 p1 (n1 + 1) y2 = some r := h9; unfold caballaw13_lay.l1 at h9
 have h10 := h9; clear h9
 refine wp_seq_k fun K8 hK8 => wp_seq_k fun K9 hK9 => ?_
 refine wp_region_lit (qs s27 (.c1 rfl (mv rfl rfl) (.c1 rfl (ob_lenStr rfl Tryd.underlying9 (.tmp rfl)) (.c1 rfl (ob_lss rfl (.tmp rfl) (opd_int rfl)) (.ce (u 0 rfl (u 1 rfl (u 2 rfl (u 3 rfl (u 10 rfl .nil))))))))) fun _ _ s31 => wn hK9 ?_); clear s27
 refine cond_split s31 (.tmp rfl) (fun hc2 => ?_) (fun hc2 => ?_)
 ·have h11 := ite_t hc2 h10; clear h10
  refine wp_skip ?_
  refine then_normal (hK8 _ _ ?_)
  have s32 := s31.sub (u 0 rfl (u 1 rfl (u 2 rfl (u 3 rfl .nil)))); clear s31
  refine wp_block ?_
  obtain ⟨g1, h12⟩ := guard_some h11; clear h11
  refine wp_region_lit (qs s32 (.c1 rfl (mv rfl rfl) (.c1 rfl (ob_cat rfl (.tmp rfl) (opd_str (by rfl) (by decide)) g1) (.c1 rfl (ob_assign rfl (.tmp rfl)) .cz))) fun _ _ s35 => ?_); clear s32
  refine wpList_nil ?_
  refine in_normal ?_
  refine then_normal ?_
  exact hK7 (y2 ++ ([0] : List Int)) _ _ h12 (s35.sub (.cons rfl (.cons rfl (.cons rfl (.cons rfl .nil)))))
 ·have h13 := ite_f hc2 h10; clear h10
  refine wp_exit ?_
  refine (then_exit (then_exit (in_here ?_)))
  refine then_normal ?_
  exact hj1 y2 _ _ h13 (s31.sub (.cons rfl (.cons rfl (.cons rfl (.cons rfl .nil)))))
theorem c_cabalref13_Half (k : Nat) (p1 : cabalref12_Disk) (r : Int) (h0 : cabalref13_Half k p1 = some r) (ok : Ok) (w0 : World) (z0 : Value) (u0 : (ptrTo k_cabalref12_Disk p1).holds ok w0 z0) :
 Gives Tryd.prog 18 [z0] ok w0 (resFact [(kint .i64).V r]) := by
 unfold cabalref13_Half at h0
 refine enter (N := 10) Tryd.func18 rfl rfl (of_decide_eq_true rfl) (.cons u0 .nil) fun a1 s1 => ?_
 refine wp_seq_k fun K1 hK1 => wp_region_lit (qs s1 (.c1 rfl (ob_assign rfl (opd_int rfl)) (.ce (u 0 rfl .nil))) fun _ _ s3 => wn hK1 ?_); clear s1
 refine wp_seq_k fun K2 hK2 => wp_region_lit (qs s3 (.c1 rfl (mv rfl rfl) (.c1 rfl (ob_nilCheckr rfl (.tmp rfl)) (.c1 rfl (ob_fieldAddrr rfl Tryd.underlying49 rfl sz30 (by decide) (.tmp rfl) (lg_cabalref12_Disk_Firm p1)) (.c1 rfl (ob_loadr rfl tk30 (.tmp rfl)) (.c1 rfl (ob_lens rfl Tryd.underlying30 (.tmp rfl)) (.c1 rfl (ob_sub rfl (.tmp rfl) (opd_int rfl)) (.c1 rfl (ob_quo rfl (.tmp rfl) (opd_int rfl) (by decide)) (.c1 rfl (ob_assign rfl (.tmp rfl)) (.ce (u 2 rfl .nil)))))))))) fun _ _ s12 => wn hK2 ?_); clear s3
 refine wp_ret ?_
 obtain rfl := Option.some.inj h0
 exact leave s12 (.inl rfl) rfl (.cons (.tmp rfl) .nil)
theorem c_cabalref12_Disk_Read (k : Nat) (p1 : cabalref12_Disk) (p2 : Int) (r : (List Int)) (h0 : cabalref12_Disk_Read k p1 p2 = some r) (ok : Ok) (w0 : World) (z0 : Value) (z1 : Value) (u0 : (ptrTo k_cabalref12_Disk p1).holds ok w0 z0) (u1 : ((kint .i64).V p2).holds ok w0 z1) :
 Gives Tryd.prog 53 [z0, z1] ok w0 (resFact [kstr.V r]) := by
 unfold cabalref12_Disk_Read at h0
 refine enter (N := 39) Tryd.func53 rfl rfl (of_decide_eq_true rfl) (.cons u0 (.cons u1 .nil)) fun a1 s1 => ?_
 refine wp_seq_k fun K1 hK1 => wp_region_lit (qs s1 (.c1 rfl (ob_assign rfl (opd_str (by rfl) (by decide))) (.ce (u 0 rfl (u 1 rfl .nil)))) fun _ _ s3 => wn hK1 ?_); clear s1
 refine wp_seq_k fun K2 hK2 => wp_seq_k fun K3 hK3 => ?_
 refine wp_region_lit (qs s3 (.c1 rfl (mv rfl rfl) (.c1 rfl (ob_nilCheckr rfl (.tmp rfl)) (.c1 rfl (ob_fieldAddrr rfl Tryd.underlying49 rfl sz47 (by decide) (.tmp rfl) (lg_cabalref12_Disk_At p1)) (.c1 rfl (ob_loadr rfl tk47 (.tmp rfl)) (.c1 rfl (ob_lens rfl Tryd.underlying47 (.tmp rfl)) (.c1 rfl (ob_sub rfl (.tmp rfl) (opd_int rfl)) (.c1 rfl (ob_assign rfl (.tmp rfl)) (.ce (u 0 rfl (u 1 rfl (u 5 rfl .nil))))))))))) fun _ _ s11 => wn hK3 ?_); clear s3
 have hj1 : ∀ (a : Act) (w : World), (cabalref12_Disk_Read.j1 k p1 p2) = some r → St ⟨39, w0, ok, []⟩ [] [(0, (ptrTo k_cabalref12_Disk p1)), (1, ((kint .i64).V p2))] a w → K2 a w := by
  intro a12 w12 h1 s12
  unfold cabalref12_Disk_Read.j1 at h1
  refine hK2 _ _ ?_
  obtain ⟨x1, e_x1, h2⟩ := bind_some h1; clear h1
  refine wp_seq_k fun K4 hK4 => wp_region_lit (qs s12 (.c1 rfl (mv rfl rfl) (.c1 rfl (ob_nilCheckr rfl (.tmp rfl)) (.c1 rfl (ob_fieldAddrr rfl Tryd.underlying49 rfl sz30 (by decide) (.tmp rfl) (lg_cabalref12_Disk_Firm p1)) (.c1 rfl (ob_loadr rfl tk30 (.tmp rfl)) (.c1 rfl (mv rfl rfl) (.c1 rfl (ob_indexAddrs rfl Tryd.underlying30 sz9 (.tmp rfl) (.tmp rfl) e_x1) (.c1 rfl (ob_loadr rfl tk9 (.tmp rfl)) (.c1 rfl (ob_assign rfl (.tmp rfl)) (.ce (u 4 rfl .nil)))))))))) fun _ _ s21 => wn hK4 ?_); clear s12
  refine wp_ret ?_
  obtain rfl := Option.some.inj h2
  exact leave s21 (.inl rfl) rfl (.cons (.tmp rfl) .nil)
 refine wp_block ?_
 refine wp_loop_fuel (fun m (q : Int) => cabalref12_Disk_Read.l1 k p1 p2 m q) r (fun _ => rfl) (fun q a w => St ⟨39, w0, ok, []⟩ [] [(0, (ptrTo k_cabalref12_Disk p1)), (1, ((kint .i64).V p2)), (5, ((kint .i64).V q))] a w) ?_ k (isub .i64 (p1.At.length : Int) (1 : Int)) _ _ h0 (s11.sub (.cons rfl (.cons rfl (.cons rfl .nil))))
 rintro n1 y1 a22 w22 h3 s22 K5 hK5
 replace h3 : cabalref12_Disk_Read.l1 k p1 p2 (n1 + 1) y1 = some r := h3; rw [cabalref12_Disk_Read.l1] at h3
 have h4 := h3; clear h3
 refine wp_seq_k fun K6 hK6 => wp_seq_k fun K7 hK7 => ?_
 refine wp_region_lit (qs s22 (.c1 rfl (mv rfl rfl) (.c1 rfl (ob_geq rfl (.tmp rfl) (opd_int rfl)) (.ce (u 0 rfl (u 1 rfl (u 5 rfl (u 13 rfl .nil))))))) fun _ _ s25 => wn hK7 ?_); clear s22
 refine cond_split s25 (.tmp rfl) (fun hc1 => ?_) (fun hc1 => ?_)
 ·have h5 := ite_t hc1 h4; clear h4
  refine wp_skip ?_
  refine then_normal (hK6 _ _ ?_)
  have s26 := s25.sub (u 0 rfl (u 1 rfl (u 5 rfl .nil))); clear s25
  refine wp_seq_k fun K8 hK8 => wp_block ?_
  obtain ⟨x2, e_x2, h6⟩ := bind_some h5; clear h5
  refine wp_seq_k fun K9 hK9 => wp_region_lit (qs s26 (.c1 rfl (mv rfl rfl) (.c1 rfl (ob_nilCheckr rfl (.tmp rfl)) (.c1 rfl (ob_fieldAddrr rfl Tryd.underlying49 rfl sz47 (by decide) (.tmp rfl) (lg_cabalref12_Disk_At p1)) (.c1 rfl (ob_loadr rfl tk47 (.tmp rfl)) (.c1 rfl (mv rfl rfl) (.c1 rfl (ob_indexAddrs rfl Tryd.underlying47 sz3 (.tmp rfl) (.tmp rfl) e_x2) (.c1 rfl (ob_loadr rfl tk3 (.tmp rfl)) (.c1 rfl (mv rfl rfl) (.c1 rfl (ob_eql rfl (.tmp rfl) (.tmp rfl)) (.ce (u 0 rfl (u 1 rfl (u 5 rfl (u 24 rfl .nil)))))))))))))) fun _ _ s36 => wn hK9 ?_); clear s26
  refine cond_split s36 (.tmp rfl) (fun hc2 => ?_) (fun hc2 => ?_)
  ·have h7 := ite_t hc2 h6; clear h6
   obtain ⟨x3, e_x3, h8⟩ := bind_some h7; clear h7
   refine wp_seq_k fun K10 hK10 => wp_region_lit (qs s36 (.c1 rfl (mv rfl rfl) (.c1 rfl (ob_nilCheckr rfl (.tmp rfl)) (.c1 rfl (ob_fieldAddrr rfl Tryd.underlying49 rfl sz30 (by decide) (.tmp rfl) (lg_cabalref12_Disk_Data p1)) (.c1 rfl (ob_loadr rfl tk30 (.tmp rfl)) (.c1 rfl (mv rfl rfl) (.c1 rfl (ob_indexAddrs rfl Tryd.underlying30 sz9 (.tmp rfl) (.tmp rfl) e_x3) (.c1 rfl (ob_loadr rfl tk9 (.tmp rfl)) (.c1 rfl (ob_assign rfl (.tmp rfl)) (.ce (u 4 rfl .nil)))))))))) fun _ _ s45 => wn hK10 ?_); clear s36
   refine wp_ret ?_
   obtain rfl := Option.some.inj h8
   exact leave s45 (.inl rfl) rfl (.cons (.tmp rfl) .nil)
  ·have h9 := ite_f hc2 h6; clear h6
   refine wp_skip ?_
   refine in_normal ?_
   refine then_normal (hK8 _ _ ?_)
   have s46 := s36.sub (u 0 rfl (u 1 rfl (u 5 rfl .nil))); clear s36
   refine wp_region_lit (qs s46 (.c1 rfl (mv rfl rfl) (.c1 rfl (ob_sub rfl (.tmp rfl) (opd_int rfl)) (.c1 rfl (ob_assign rfl (.tmp rfl)) .cz))) fun _ _ s49 => ?_); clear s46
   refine wpList_nil ?_
   refine then_normal ?_
   exact hK5 (isub .i64 y1 (1 : Int)) _ _ h9 (s49.sub (.cons rfl (.cons rfl (.cons rfl .nil))))
 ·have h10 := ite_f hc1 h4; clear h4
  refine wp_exit ?_
  refine (then_exit (then_exit (in_here ?_)))
  refine then_normal ?_
  exact hj1 _ _ h10 (s25.sub (.cons rfl (.cons rfl .nil)))
theorem c_cabalref10_Reader_Number (k : Nat) (p1 : cabalref10_Reader) (r : (Int × cabalref10_Reader)) (h0 : cabalref10_Reader_Number k p1 = some r) (ok : Ok) (w0 : World) (z0 : Value) (b00 : Nat) (l0 : ∀ q, q ∈ [BF b00 96 k_cabalref10_Reader p1] → q.holds ok w0) (d0 : ∀ c, c ∈ idsOf [BF b00 96 k_cabalref10_Reader p1] → ¬ ok c) (nd : (idsOf [BF b00 96 k_cabalref10_Reader p1]).Nodup) (u0 : (ptrB b00 0).holds ok w0 z0) :
 GivesX Tryd.prog 88 [z0] ok w0 [BF b00 96 k_cabalref10_Reader p1] (fun g : Unit => resFact [(kint .u32).V r.1]) (fun g : Unit => [BF b00 96 k_cabalref10_Reader r.2]) := by
 unfold cabalref10_Reader_Number at h0
 refine enterX (N := 70) Tryd.func88 rfl rfl (of_decide_eq_true rfl) (.cons u0 .nil) nd l0 d0 fun a1 s1 => ?_
 refine wp_seq_k fun K1 hK1 => wp_region_lit (qs s1 (.c1 rfl (ob_assign rfl (opd_int rfl)) (.ce (u 0 rfl .nil))) fun _ _ s3 => wn hK1 ?_); clear s1
 refine wp_seq_k fun K2 hK2 => wp_seq_k fun K3 hK3 => ?_
 refine wp_region_lit (qs s3 (.c1 rfl (mv rfl rfl) (.c1 rfl (ob_nilCheck rfl (.tmp rfl)) (.c1 rfl (ob_fieldAddr (off' := 1) rfl Tryd.underlying96 rfl sz3 (by decide) (.tmp rfl) rfl) (.c1 rfl (ob_load rfl tk3 (.tmp rfl) (.head _) (lg_cabalref10_Reader_Err p1)) (.c1 rfl (ob_neq rfl (.tmp rfl) (opd_int rfl)) (.ce (u 0 rfl (u 10 rfl .nil)))))))) fun _ _ s9 => wn hK3 ?_); clear s3
 refine cond_split s9 (.tmp rfl) (fun hc1 => ?_) (fun hc1 => ?_)
 ·have h1 := ite_t hc1 h0; clear h0
  refine wp_seq_k fun K4 hK4 => wp_region_lit (qs s9 (.c1 rfl (ob_assign rfl (opd_int rfl)) (.ce (u 2 rfl .nil))) fun _ _ s11 => wn hK4 ?_); clear s9
  refine wp_ret ?_
  obtain rfl := Option.some.inj h1
  exact leaveXD (D := []) () s11 rfl (.inl rfl) rfl (.cons (.tmp rfl) .nil) rfl
 ·have h2 := ite_f hc1 h0; clear h0
  refine wp_skip ?_
  refine then_normal (hK2 _ _ ?_)
  have s12 := s9.sub (u 0 rfl .nil); clear s9
  refine wp_seq_k fun K5 hK5 => wp_region_lit (qs s12 (.c1 rfl (ob_assign rfl (opd_int rfl)) (.ce (u 0 rfl (u 3 rfl .nil)))) fun _ _ s14 => wn hK5 ?_); clear s12
  refine wp_seq_k fun K6 hK6 => wp_seq_k fun K7 hK7 => ?_
  refine wp_region_lit (qs s14 (.c1 rfl (ob_assign rfl (opd_int rfl)) (.ce (u 0 rfl (u 3 rfl (u 4 rfl .nil))))) fun _ _ s16 => wn hK7 ?_); clear s14
  have hj1 : ∀ (a : Act) (w : World), (cabalref10_Reader_Number.j1 k p1) = some r → St ⟨70, w0, ok, (idsOf [BF b00 96 k_cabalref10_Reader p1])⟩ [BF b00 96 k_cabalref10_Reader p1] [(0, (ptrB b00 0))] a w → K6 a w := by
   intro a17 w17 h3 s17
   unfold cabalref10_Reader_Number.j1 at h3
   refine hK6 _ _ ?_
   refine wp_seq_k fun K8 hK8 => wp_region_lit (qs s17 (.c1 rfl (mv rfl rfl) (.c1 rfl (ob_nilCheck rfl (.tmp rfl)) (.c1 rfl (ob_fieldAddr (off' := 1) rfl Tryd.underlying96 rfl sz3 (by decide) (.tmp rfl) rfl) .cz))) fun _ _ s20 => ?_); clear s17
   refine seq_opx0 (B' := (fun _ : Unit => [BF b00 96 k_cabalref10_Reader ({ p1 with Err := (3 : Int) })])) s20 rfl rfl (ob_store (A := []) rfl tk3 (.tmp rfl) (opd_int rfl) rfl (ls_cabalref10_Reader_Err p1 (3 : Int)) rfl) fun _ a21 w21 s21 => ?_; clear s20
   refine wn hK8 ?_
   have s22 := s21.sub .nil; clear s21
   refine wp_seq_k fun K9 hK9 => wp_region_lit (qs s22 (.c1 rfl (ob_assign rfl (opd_int rfl)) (.ce (u 2 rfl .nil))) fun _ _ s24 => wn hK9 ?_); clear s22
   refine wp_ret ?_
   obtain rfl := Option.some.inj h3
   exact leaveXD (D := []) () s24 rfl (.inl rfl) rfl (.cons (.tmp rfl) .nil) rfl
  refine wp_block ?_
  refine wp_loop_fuel (fun m (q : Int × Int) => cabalref10_Reader_Number.l1 k p1 m q.1 q.2) r (fun _ => rfl) (fun q a w => St ⟨70, w0, ok, (idsOf [BF b00 96 k_cabalref10_Reader p1])⟩ [BF b00 96 k_cabalref10_Reader p1] [(0, (ptrB b00 0)), (3, ((kint .u64).V q.1)), (4, ((kint .i64).V q.2))] a w) ?_ k ((0 : Int), (0 : Int)) _ _ h2 (s16.sub (.cons rfl (.cons rfl (.cons rfl .nil))))
  rintro n1 ⟨y1, y2⟩ a25 w25 h4 s25 K10 hK10
  replace h4 : cabalref10_Reader_Number.l1 k p1 (n1 + 1) y1 y2 = some r := h4; rw [cabalref10_Reader_Number.l1] at h4
  have h5 := h4; clear h4
  refine wp_seq_k fun K11 hK11 => wp_seq_k fun K12 hK12 => ?_
  refine wp_region_lit (qs s25 (.c1 rfl (mv rfl rfl) (.c1 rfl (mv rfl rfl) (.c1 rfl (ob_nilCheck rfl (.tmp rfl)) (.c1 rfl (ob_fieldAddr (off' := 0) rfl Tryd.underlying96 rfl sz9 (by decide) (.tmp rfl) rfl) (.c1 rfl (ob_load rfl tk9 (.tmp rfl) (.head _) (lg_cabalref10_Reader_S p1)) (.c1 rfl (ob_lenStr rfl Tryd.underlying9 (.tmp rfl)) (.c1 rfl (ob_lss rfl (.tmp rfl) (.tmp rfl)) (.ce (u 0 rfl (u 3 rfl (u 4 rfl (u 17 rfl .nil)))))))))))) fun _ _ s33 => wn hK12 ?_); clear s25
  refine cond_split s33 (.tmp rfl) (fun hc2 => ?_) (fun hc2 => ?_)
  ·have h6 := ite_t hc2 h5; clear h5
   refine wp_skip ?_
   refine then_normal (hK11 _ _ ?_)
   have s34 := s33.sub (u 0 rfl (u 3 rfl (u 4 rfl .nil))); clear s33
   refine wp_seq_k fun K13 hK13 => wp_block ?_
   obtain ⟨x1, e_x1, h7⟩ := bind_some h6; clear h6
   refine wp_seq_k fun K14 hK14 => wp_region_lit (qs s34 (.c1 rfl (mv rfl rfl) (.c1 rfl (ob_nilCheck rfl (.tmp rfl)) (.c1 rfl (ob_fieldAddr (off' := 0) rfl Tryd.underlying96 rfl sz9 (by decide) (.tmp rfl) rfl) (.c1 rfl (ob_load rfl tk9 (.tmp rfl) (.head _) (lg_cabalref10_Reader_S p1)) (.c1 rfl (mv rfl rfl) (.c1 rfl (ob_indexStr rfl Tryd.underlying9 (.tmp rfl) (.tmp rfl) e_x1) (.c1 rfl (ob_assign rfl (.tmp rfl)) (.ce (u 0 rfl (u 3 rfl (u 4 rfl (u 5 rfl .nil)))))))))))) fun _ _ s42 => wn hK14 ?_); clear s34
   obtain ⟨x2, e_x2, h8⟩ := bind_some h7; clear h7; replace e_x2 := Option.some.inj e_x2
   refine wp_seq_k fun K15 hK15 => wp_region_lit (qs s42 (.c1 rfl (mv rfl rfl) (.c1 rfl (ob_mul rfl (.tmp rfl) (opd_int rfl)) (.c1 rfl (mv rfl rfl) (.c1 rfl (ob_rem rfl (.tmp rfl) (opd_int rfl) (by decide)) (.c1 rfl (ob_conv rfl _ Tryd.underlying5 Tryd.underlying123 (.tmp rfl)) (.c1 rfl ((ob_add rfl (.tmp rfl) (.tmp rfl)).nm e_x2) (.c1 rfl (ob_assign rfl (.tmp rfl)) (.ce (u 0 rfl (u 3 rfl (u 4 rfl (u 5 rfl .nil)))))))))))) fun _ _ s50 => wn hK15 ?_); clear s42
   refine wp_seq_k fun K16 hK16 => wp_seq_k fun K17 hK17 => ?_
   obtain ⟨x3, e_x3, h9⟩ := bind_some h8; clear h8; replace e_x3 := Option.some.inj e_x3
   refine wp_region_lit (qs s50 (.c1 rfl (mv rfl rfl) (.c1 rfl (ob_eql rfl (.tmp rfl) (opd_int rfl)) (.c1 rfl (mv rfl rfl) (.cg rfl rfl rfl rfl (fun hb => ob_move rfl (.tmp rfl)) (.cg rfl rfl rfl rfl (fun hb => (Ob.uncond (t := 35) hb rfl (ob_eql rfl (.tmp rfl) (opd_int rfl)))) (.c1 rfl (ob_and2 rfl (.tmp rfl) (.tmp rfl) opd_bool) (.c1 rfl (mv rfl rfl) (.cg rfl rfl rfl rfl (fun hb => ob_move rfl (.tmp rfl)) (.cg rfl rfl rfl rfl (fun hb => (Ob.uncond (t := 39) hb rfl (ob_gtr rfl (.tmp rfl) (opd_int rfl)))) (.c1 rfl ((ob_or2 rfl (.tmp rfl) opd_bool (.tmp rfl)).nm e_x3) (.c1 rfl (mv rfl rfl) (.cg rfl rfl rfl rfl (fun hb => ob_move rfl (.tmp rfl)) (.cg rfl rfl rfl rfl (fun hb => (Ob.uncond (t := 43) hb rfl (ob_eql rfl (.tmp rfl) (opd_int rfl)))) (.cg rfl rfl rfl rfl (fun hb => (Ob.uncond (t := 44) hb rfl (mv rfl rfl))) .cz)))))))))))))) fun _ _ s64 => ?_); clear s50
   refine seq_opg2 s64 rfl rfl rfl rfl (of_decide_eq_true rfl) (fun hb => ob_move rfl (.tmp rfl)) fun _ _ s65 => ?_; clear s64
   refine seq_opg2 s65 rfl rfl rfl rfl (of_decide_eq_true rfl) (fun hb => (Ob.uncond (t := 46) hb rfl (ob_gtr rfl (.tmp rfl) (opd_int rfl)))) fun _ _ s66 => ?_; clear s65
   obtain ⟨x4, e_x4, h10⟩ := bind_some h9; clear h9; replace e_x4 := Option.some.inj e_x4
   refine qs s66 (.cg rfl rfl rfl rfl (fun hb => (Ob.uncond (t := 45) hb rfl (ob_and3 hb rfl (.tmp rfl) (.tmp rfl) opd_bool))) (.c1 rfl ((ob_or2 rfl (.tmp rfl) opd_bool (.tmp rfl)).nm e_x4) (.ce (u 0 rfl (u 3 rfl (u 4 rfl (u 5 rfl (u 49 rfl .nil)))))))) fun _ _ s69 => wn hK17 ?_; clear s66
   refine cond_split s69 (.tmp rfl) (fun hc3 => ?_) (fun hc3 => ?_)
   ·have h11 := ite_t hc3 h10; clear h10
    refine wp_seq_k fun K18 hK18 => wp_region_lit (qs s69 (.c1 rfl (mv rfl rfl) (.c1 rfl (ob_nilCheck rfl (.tmp rfl)) (.c1 rfl (ob_fieldAddr (off' := 1) rfl Tryd.underlying96 rfl sz3 (by decide) (.tmp rfl) rfl) .cz))) fun _ _ s72 => ?_); clear s69
    refine seq_opx0 (B' := (fun _ : Unit => [BF b00 96 k_cabalref10_Reader ({ p1 with Err := (4 : Int) })])) s72 rfl rfl (ob_store (A := []) rfl tk3 (.tmp rfl) (opd_int rfl) rfl (ls_cabalref10_Reader_Err p1 (4 : Int)) rfl) fun _ a73 w73 s73 => ?_; clear s72
    refine wn hK18 ?_
    have s74 := s73.sub .nil; clear s73
    refine wp_seq_k fun K19 hK19 => wp_region_lit (qs s74 (.c1 rfl (ob_assign rfl (opd_int rfl)) (.ce (u 2 rfl .nil))) fun _ _ s76 => wn hK19 ?_); clear s74
    refine wp_ret ?_
    obtain rfl := Option.some.inj h11
    exact leaveXD (D := []) () s76 rfl (.inl rfl) rfl (.cons (.tmp rfl) .nil) rfl
   ·have h12 := ite_f hc3 h10; clear h10
    refine wp_skip ?_
    refine then_normal (hK16 _ _ ?_)
    have s77 := s69.sub (u 0 rfl (u 3 rfl (u 4 rfl (u 5 rfl .nil)))); clear s69
    refine wp_seq_k fun K20 hK20 => wp_region_lit (qs s77 (.c1 rfl (mv rfl rfl) (.c1 rfl (ob_lss rfl (.tmp rfl) (opd_int rfl)) (.ce (u 0 rfl (u 3 rfl (u 4 rfl (u 54 rfl .nil))))))) fun _ _ s80 => wn hK20 ?_); clear s77
    refine cond_split s80 (.tmp rfl) (fun hc4 => ?_) (fun hc4 => ?_)
    ·have h13 := ite_t hc4 h12; clear h12
     obtain ⟨x5, e_x5, h14⟩ := bind_some h13; clear h13
     refine wp_seq_k fun K21 hK21 => wp_region_lit (qs s80 (.c1 rfl (mv rfl rfl) (.c1 rfl (mv rfl rfl) (.c1 rfl (ob_nilCheck rfl (.tmp rfl)) (.c1 rfl (ob_fieldAddr (off' := 0) rfl Tryd.underlying96 rfl sz9 (by decide) (.tmp rfl) rfl) (.c1 rfl (ob_load rfl tk9 (.tmp rfl) (.head _) (lg_cabalref10_Reader_S p1)) (.c1 rfl (mv rfl rfl) (.c1 rfl (ob_add rfl (.tmp rfl) (opd_int rfl)) (.c1 rfl (ob_cutStr rfl Tryd.underlying9 (.tmp rfl) (.some (.tmp rfl)) .none e_x5) (.c1 rfl (ob_nilCheck rfl (.tmp rfl)) (.c1 rfl (ob_fieldAddr (off' := 0) rfl Tryd.underlying96 rfl sz9 (by decide) (.tmp rfl) rfl) .cz)))))))))) fun _ _ s90 => ?_); clear s80
     refine seq_opx0 (B' := (fun _ : Unit => [BF b00 96 k_cabalref10_Reader ({ p1 with S := x5 })])) s90 rfl rfl (ob_store (A := []) rfl tk9 (.tmp rfl) (.tmp rfl) rfl (ls_cabalref10_Reader_S p1 x5) rfl) fun _ a91 w91 s91 => ?_; clear s90
     refine wn hK21 ?_
     have s92 := s91.sub (u 3 rfl .nil); clear s91
     refine wp_seq_k fun K22 hK22 => wp_region_lit (qs s92 (.c1 rfl (mv rfl rfl) (.c1 rfl (ob_conv rfl _ Tryd.underlying123 Tryd.underlying116 (.tmp rfl)) (.c1 rfl (ob_assign rfl (.tmp rfl)) (.ce (u 2 rfl .nil))))) fun _ _ s96 => wn hK22 ?_); clear s92
     refine wp_ret ?_
     obtain rfl := Option.some.inj h14
     exact leaveXD (D := []) () s96 rfl (.inl rfl) rfl (.cons (.tmp rfl) .nil) rfl
    ·have h15 := ite_f hc4 h12; clear h12
     refine wp_skip ?_
     refine in_normal ?_
     refine then_normal (hK13 _ _ ?_)
     have s97 := s80.sub (u 0 rfl (u 3 rfl (u 4 rfl .nil))); clear s80
     refine wp_region_lit (qs s97 (.c1 rfl (mv rfl rfl) (.c1 rfl (ob_add rfl (.tmp rfl) (opd_int rfl)) (.c1 rfl (ob_assign rfl (.tmp rfl)) .cz))) fun _ _ s100 => ?_); clear s97
     refine wpList_nil ?_
     refine then_normal ?_
     exact hK10 (x2, (iadd .i64 y2 (1 : Int))) _ _ h15 (s100.sub (.cons rfl (.cons rfl (.cons rfl .nil))))
  ·have h16 := ite_f hc2 h5; clear h5
   refine wp_exit ?_
   refine (then_exit (then_exit (in_here ?_)))
   refine then_normal ?_
   exact hj1 _ _ h16 (s33.sub (.cons rfl .nil))
theorem c_cabalref10_Reader_count (k : Nat) (p1 : cabalref10_Reader) (p2 : Int) (r : (Int × cabalref10_Reader)) (h0 : cabalref10_Reader_count k p1 p2 = some r) (ok : Ok) (w0 : World) (z0 : Value) (z1 : Value) (b00 : Nat) (l0 : ∀ q, q ∈ [BF b00 96 k_cabalref10_Reader p1] → q.holds ok w0) (d0 : ∀ c, c ∈ idsOf [BF b00 96 k_cabalref10_Reader p1] → ¬ ok c) (nd : (idsOf [BF b00 96 k_cabalref10_Reader p1]).Nodup) (u0 : (ptrB b00 0).holds ok w0 z0) (u1 : ((kint .i64).V p2).holds ok w0 z1) :
 GivesX Tryd.prog 79 [z0, z1] ok w0 [BF b00 96 k_cabalref10_Reader p1] (fun g : Unit => resFact [(kint .i64).V r.1]) (fun g : Unit => [BF b00 96 k_cabalref10_Reader r.2]) := by
 unfold cabalref10_Reader_count at h0
 refine enterX (N := 32) Tryd.func79 rfl rfl (of_decide_eq_true rfl) (.cons u0 (.cons u1 .nil)) nd l0 d0 fun a1 s1 => ?_
 refine wp_seq_k fun K1 hK1 => wp_region_lit (qs s1 (.c1 rfl (ob_assign rfl (opd_int rfl)) (.ce (u 0 rfl (u 1 rfl .nil)))) fun _ _ s3 => wn hK1 ?_); clear s1
 obtain ⟨x1, e_x1, h1⟩ := bind_some h0; clear h0
 refine wp_seq_k fun K2 hK2 => wp_region_lit (qs s3 (.c1 rfl (mv rfl rfl) .cz) fun _ _ s4 => ?_); clear s3
 refine qx (B' := (fun _ : Unit => [BF b00 96 k_cabalref10_Reader x1.2])) s4 rfl (ob_callL0 (args := [_]) (L := [_]) rfl .direct hb88 (List.Perm.refl _) (fun a w s => by exact c_cabalref10_Reader_Number k _ _ e_x1 _ _ _ _ (ownL s) (disL s) (nodL s) (s.arg (.tmp rfl))) (by exact fun _ => rfl)) fun _ _ _ s5 => ?_; clear s4
 refine qs s5 (.c1 rfl (ob_assign rfl (.tmp rfl)) (.ce (u 0 rfl (u 1 rfl (u 5 rfl .nil))))) fun _ _ s7 => wn hK2 ?_; clear s5
 refine wp_seq_k fun K3 hK3 => wp_seq_k fun K4 hK4 => ?_
 refine wp_region_lit (qs s7 (.c1 rfl (mv rfl rfl) (.c1 rfl (ob_lss rfl (.tmp rfl) (opd_int rfl)) (.ce (u 0 rfl (u 1 rfl (u 5 rfl (u 9 rfl .nil))))))) fun _ _ s10 => wn hK4 ?_); clear s7
 have hj1 : ∀ (y1 : Int) (a : Act) (w : World), (cabalref10_Reader_count.j1 k x1) y1 = some r → St ⟨32, w0, ok, (idsOf [BF b00 96 k_cabalref10_Reader p1])⟩ [BF b00 96 k_cabalref10_Reader x1.2] [(0, (ptrB b00 0)), (1, ((kint .i64).V y1)), (5, ((kint .u32).V x1.1))] a w → K3 a w := by
  intro y1 a11 w11 h2 s11
  unfold cabalref10_Reader_count.j1 at h2
  refine hK3 _ _ ?_
  refine wp_seq_k fun K5 hK5 => wp_seq_k fun K6 hK6 => ?_
  obtain ⟨x2, e_x2, h3⟩ := bind_some h2; clear h2; replace e_x2 := Option.some.inj e_x2
  refine wp_region_lit (qs s11 (.c1 rfl (mv rfl rfl) (.c1 rfl (ob_nilCheck rfl (.tmp rfl)) (.c1 rfl (ob_fieldAddr (off' := 1) rfl Tryd.underlying96 rfl sz3 (by decide) (.tmp rfl) rfl) (.c1 rfl (ob_load rfl tk3 (.tmp rfl) (.head _) (lg_cabalref10_Reader_Err x1.2)) (.c1 rfl (ob_eql rfl (.tmp rfl) (opd_int rfl)) (.c1 rfl (mv rfl rfl) (.cg rfl rfl rfl rfl (fun hb => ob_move rfl (.tmp rfl)) (.cg rfl rfl rfl rfl (fun hb => (Ob.uncond (t := 16) hb rfl (ob_conv rfl _ Tryd.underlying116 Tryd.underlying123 (.tmp rfl)))) (.cg rfl rfl rfl rfl (fun hb => ob_move rfl (.tmp rfl)) (.cg rfl rfl rfl rfl (fun hb => (Ob.uncond (t := 18) hb rfl (ob_conv rfl _ Tryd.underlying3 Tryd.underlying123 (.tmp rfl)))) (.cg rfl rfl rfl rfl (fun hb => (Ob.uncond (t := 19) hb rfl ((Ob.uncond (t := 17) hb rfl (ob_gtr rfl (.tmp rfl) (.tmp rfl)))))) (.c1 rfl ((ob_and2 rfl (.tmp rfl) (.tmp rfl) opd_bool).nm e_x2) (.ce (u 0 rfl (u 5 rfl (u 21 rfl .nil)))))))))))))))) fun _ _ s24 => wn hK6 ?_); clear s11
  have hj2 : ∀ (y2 : cabalref10_Reader) (a : Act) (w : World), (cabalref10_Reader_count.j2 k x1) y2 = some r → St ⟨32, w0, ok, (idsOf [BF b00 96 k_cabalref10_Reader p1])⟩ [BF b00 96 k_cabalref10_Reader y2] [(0, (ptrB b00 0)), (5, ((kint .u32).V x1.1))] a w → K5 a w := by
   intro y2 a25 w25 h4 s25
   unfold cabalref10_Reader_count.j2 at h4
   refine hK5 _ _ ?_
   refine wp_seq_k fun K7 hK7 => wp_seq_k fun K8 hK8 => ?_
   refine wp_region_lit (qs s25 (.c1 rfl (mv rfl rfl) (.c1 rfl (ob_nilCheck rfl (.tmp rfl)) (.c1 rfl (ob_fieldAddr (off' := 1) rfl Tryd.underlying96 rfl sz3 (by decide) (.tmp rfl) rfl) (.c1 rfl (ob_load rfl tk3 (.tmp rfl) (.head _) (lg_cabalref10_Reader_Err y2)) (.c1 rfl (ob_neq rfl (.tmp rfl) (opd_int rfl)) (.ce (u 5 rfl (u 29 rfl .nil)))))))) fun _ _ s31 => wn hK8 ?_); clear s25
   refine cond_split s31 (.tmp rfl) (fun hc1 => ?_) (fun hc1 => ?_)
   ·have h5 := ite_t hc1 h4; clear h4
    refine wp_seq_k fun K9 hK9 => wp_region_lit (qs s31 (.c1 rfl (ob_assign rfl (opd_int rfl)) (.ce (u 4 rfl .nil))) fun _ _ s33 => wn hK9 ?_); clear s31
    refine wp_ret ?_
    obtain rfl := Option.some.inj h5
    exact leaveXD (D := []) () s33 rfl (.inl rfl) rfl (.cons (.tmp rfl) .nil) rfl
   ·have h6 := ite_f hc1 h4; clear h4
    refine wp_skip ?_
    refine then_normal (hK7 _ _ ?_)
    have s34 := s31.sub (u 5 rfl .nil); clear s31
    refine wp_seq_k fun K10 hK10 => wp_region_lit (qs s34 (.c1 rfl (mv rfl rfl) (.c1 rfl (ob_conv rfl _ Tryd.underlying116 Tryd.underlying3 (.tmp rfl)) (.c1 rfl (ob_assign rfl (.tmp rfl)) (.ce (u 4 rfl .nil))))) fun _ _ s38 => wn hK10 ?_); clear s34
    refine wp_ret ?_
    obtain rfl := Option.some.inj h6
    exact leaveXD (D := []) () s38 rfl (.inl rfl) rfl (.cons (.tmp rfl) .nil) rfl
  refine cond_split s24 (.tmp rfl) (fun hc2 => ?_) (fun hc2 => ?_)
  ·have h7 := ite_t hc2 h3; clear h3
   refine wp_region_lit (qs s24 (.c1 rfl (mv rfl rfl) (.c1 rfl (ob_nilCheck rfl (.tmp rfl)) (.c1 rfl (ob_fieldAddr (off' := 1) rfl Tryd.underlying96 rfl sz3 (by decide) (.tmp rfl) rfl) .cz))) fun _ _ s41 => ?_); clear s24
   refine seq_opx0 (B' := (fun _ : Unit => [BF b00 96 k_cabalref10_Reader ({ x1.2 with Err := (5 : Int) })])) s41 rfl rfl (ob_store (A := []) rfl tk3 (.tmp rfl) (opd_int rfl) rfl (ls_cabalref10_Reader_Err x1.2 (5 : Int)) rfl) fun _ a42 w42 s42 => ?_; clear s41
   refine wpList_nil ?_
   refine then_normal ?_
   exact hj2 ({ x1.2 with Err := (5 : Int) }) _ _ h7 (s42.sub (.cons rfl (.cons rfl .nil)))
  ·have h8 := ite_f hc2 h3; clear h3
   refine wp_skip ?_
   refine then_normal ?_
   exact hj2 x1.2 _ _ h8 (s24.sub (.cons rfl (.cons rfl .nil)))
 refine cond_split s10 (.tmp rfl) (fun hc3 => ?_) (fun hc3 => ?_)
 ·have h9 := ite_t hc3 h1; clear h1
  refine wp_region_lit (qs s10 (.c1 rfl (ob_assign rfl (opd_int rfl)) .cz) fun _ _ s43 => ?_); clear s10
  refine wpList_nil ?_
  refine then_normal ?_
  exact hj1 (0 : Int) _ _ h9 (s43.sub (.cons rfl (.cons rfl (.cons rfl .nil))))
 ·have h10 := ite_f hc3 h1; clear h1
  refine wp_skip ?_
  refine then_normal ?_
  exact hj1 p2 _ _ h10 (s10.sub (.cons rfl (.cons rfl (.cons rfl .nil))))
theorem c_cabalref10_Reader_stay (k : Nat) (p1 : cabalref10_Reader) (p2 : (List Int)) (r : cabalref10_Reader) (h0 : cabalref10_Reader_stay k p1 p2 = some r) (ok : Ok) (w0 : World) (z0 : Value) (z1 : Value) (b00 : Nat) (l0 : ∀ q, q ∈ [BF b00 96 k_cabalref10_Reader p1] → q.holds ok w0) (d0 : ∀ c, c ∈ idsOf [BF b00 96 k_cabalref10_Reader p1] → ¬ ok c) (nd : (idsOf [BF b00 96 k_cabalref10_Reader p1]).Nodup) (u0 : (ptrB b00 0).holds ok w0 z0) (u1 : (kstr.V p2).holds ok w0 z1) :
 GivesX Tryd.prog 80 [z0, z1] ok w0 [BF b00 96 k_cabalref10_Reader p1] (fun g : Unit => resFact []) (fun g : Unit => [BF b00 96 k_cabalref10_Reader r]) := by
 unfold cabalref10_Reader_stay at h0
 refine enterX (N := 13) Tryd.func80 rfl rfl (of_decide_eq_true rfl) (.cons u0 (.cons u1 .nil)) nd l0 d0 fun a1 s1 => ?_
 refine wp_seq_k fun K1 hK1 => wp_region_lit (qs s1 (.c1 rfl (mv rfl rfl) (.c1 rfl (ob_nilCheck rfl (.tmp rfl)) (.c1 rfl (ob_fieldAddr (off' := 1) rfl Tryd.underlying96 rfl sz3 (by decide) (.tmp rfl) rfl) (.c1 rfl (ob_load rfl tk3 (.tmp rfl) (.head _) (lg_cabalref10_Reader_Err p1)) (.c1 rfl (ob_neq rfl (.tmp rfl) (opd_int rfl)) (.ce (u 0 rfl (u 1 rfl (u 8 rfl .nil))))))))) fun _ _ s7 => wn hK1 ?_); clear s1
 refine cond_split s7 (.tmp rfl) (fun hc1 => ?_) (fun hc1 => ?_)
 ·have h1 := ite_t hc1 h0; clear h0
  refine wp_region_lit (qs s7 (.c1 rfl (mv rfl rfl) (.c1 rfl (mv rfl rfl) (.c1 rfl (ob_nilCheck rfl (.tmp rfl)) (.c1 rfl (ob_fieldAddr (off' := 0) rfl Tryd.underlying96 rfl sz9 (by decide) (.tmp rfl) rfl) .cz)))) fun _ _ s11 => ?_); clear s7
  refine seq_opx0 (B' := (fun _ : Unit => [BF b00 96 k_cabalref10_Reader ({ p1 with S := p2 })])) s11 rfl rfl (ob_store (A := []) rfl tk9 (.tmp rfl) (.tmp rfl) rfl (ls_cabalref10_Reader_S p1 p2) rfl) fun _ a12 w12 s12 => ?_; clear s11
  refine wpList_nil ?_
  obtain rfl := Option.some.inj h1
  exact leaveXD (D := []) () s12 rfl (.inr rfl) rfl .nil rfl
 ·have h2 := ite_f hc1 h0; clear h0
  refine wp_skip ?_
  obtain rfl := Option.some.inj h2
  exact leaveXD (D := []) () s7 rfl (.inr rfl) rfl .nil rfl
theorem c_cabalref10_Reader_Text (k : Nat) (p1 : cabalref10_Reader) (p2 : Int) (r : ((List Int) × cabalref10_Reader)) (h0 : cabalref10_Reader_Text k p1 p2 = some r) (ok : Ok) (w0 : World) (z0 : Value) (z1 : Value) (b00 : Nat) (l0 : ∀ q, q ∈ [BF b00 96 k_cabalref10_Reader p1] → q.holds ok w0) (d0 : ∀ c, c ∈ idsOf [BF b00 96 k_cabalref10_Reader p1] → ¬ ok c) (nd : (idsOf [BF b00 96 k_cabalref10_Reader p1]).Nodup) (u0 : (ptrB b00 0).holds ok w0 z0) (u1 : ((kint .i64).V p2).holds ok w0 z1) :
 GivesX Tryd.prog 54 [z0, z1] ok w0 [BF b00 96 k_cabalref10_Reader p1] (fun g : Unit => resFact [kstr.V r.1]) (fun g : Unit => [BF b00 96 k_cabalref10_Reader r.2]) := by
 unfold cabalref10_Reader_Text at h0
 refine enterX (N := 56) Tryd.func54 rfl rfl (of_decide_eq_true rfl) (.cons u0 (.cons u1 .nil)) nd l0 d0 fun a1 s1 => ?_
 refine wp_seq_k fun K1 hK1 => wp_region_lit (qs s1 (.c1 rfl (ob_assign rfl (opd_str (by rfl) (by decide))) (.ce (u 0 rfl (u 1 rfl .nil)))) fun _ _ s3 => wn hK1 ?_); clear s1
 refine wp_seq_k fun K2 hK2 => wp_region_lit (qs s3 (.c1 rfl (mv rfl rfl) (.c1 rfl (ob_nilCheck rfl (.tmp rfl)) (.c1 rfl (ob_fieldAddr (off' := 0) rfl Tryd.underlying96 rfl sz9 (by decide) (.tmp rfl) rfl) (.c1 rfl (ob_load rfl tk9 (.tmp rfl) (.head _) (lg_cabalref10_Reader_S p1)) (.c1 rfl (ob_assign rfl (.tmp rfl)) (.ce (u 0 rfl (u 1 rfl (u 5 rfl .nil))))))))) fun _ _ s9 => wn hK2 ?_); clear s3
 obtain ⟨x1, e_x1, h1⟩ := bind_some h0; clear h0
 refine wp_seq_k fun K3 hK3 => wp_region_lit (qs s9 (.c1 rfl (mv rfl rfl) (.c1 rfl (mv rfl rfl) .cz)) fun _ _ s11 => ?_); clear s9
 refine qx (B' := (fun _ : Unit => [BF b00 96 k_cabalref10_Reader x1.2])) s11 rfl (ob_callL0 (args := [_, _]) (L := [_]) rfl .direct hb79 (List.Perm.refl _) (fun a w s => by exact c_cabalref10_Reader_count k _ _ _ e_x1 _ _ _ _ _ (ownL s) (disL s) (nodL s) (s.arg (.tmp rfl)) (s.arg (.tmp rfl))) (by exact fun _ => rfl)) fun _ _ _ s12 => ?_; clear s11
 refine qs s12 (.c1 rfl (ob_assign rfl (.tmp rfl)) (.ce (u 0 rfl (u 5 rfl (u 6 rfl .nil))))) fun _ _ s14 => wn hK3 ?_; clear s12
 refine wp_seq_k fun K4 hK4 => wp_seq_k fun K5 hK5 => ?_
 obtain ⟨x2, e_x2, h2⟩ := bind_some h1; clear h1; replace e_x2 := Option.some.inj e_x2
 refine wp_region_lit (qs s14 (.c1 rfl (mv rfl rfl) (.c1 rfl (ob_nilCheck rfl (.tmp rfl)) (.c1 rfl (ob_fieldAddr (off' := 1) rfl Tryd.underlying96 rfl sz3 (by decide) (.tmp rfl) rfl) (.c1 rfl (ob_load rfl tk3 (.tmp rfl) (.head _) (lg_cabalref10_Reader_Err x1.2)) (.c1 rfl (ob_eql rfl (.tmp rfl) (opd_int rfl)) (.c1 rfl (mv rfl rfl) (.cg rfl rfl rfl rfl (fun hb => ob_move rfl (.tmp rfl)) (.cg rfl rfl rfl rfl (fun hb => ob_move rfl (.tmp rfl)) (.cg rfl rfl rfl rfl (fun hb => (Ob.uncond (t := 22) hb rfl (ob_nilCheck rfl (.tmp rfl)))) (.cg rfl rfl rfl rfl (fun hb => (Ob.uncond (t := 23) hb rfl (ob_fieldAddr (off' := 0) rfl Tryd.underlying96 rfl sz9 (by decide) (.tmp rfl) rfl))) (.cg rfl rfl rfl rfl (fun hb => (Ob.uncond (t := 24) hb rfl (ob_load rfl tk9 (.tmp rfl) (.head _) (lg_cabalref10_Reader_S x1.2)))) (.cg rfl rfl rfl rfl (fun hb => (Ob.uncond (t := 25) hb rfl (ob_lenStr rfl Tryd.underlying9 (.tmp rfl)))) (.cg rfl rfl rfl rfl (fun hb => (Ob.uncond (t := 26) hb rfl ((Ob.uncond (t := 21) hb rfl (ob_gtr rfl (.tmp rfl) (.tmp rfl)))))) (.c1 rfl ((ob_and2 rfl (.tmp rfl) (.tmp rfl) opd_bool).nm e_x2) (.ce (u 0 rfl (u 5 rfl (u 6 rfl (u 28 rfl .nil))))))))))))))))))) fun _ _ s29 => wn hK5 ?_); clear s14
 have hj1 : ∀ (y1 : cabalref10_Reader) (a : Act) (w : World), (cabalref10_Reader_Text.j1 k p1 x1) y1 = some r → St ⟨56, w0, ok, (idsOf [BF b00 96 k_cabalref10_Reader p1])⟩ [BF b00 96 k_cabalref10_Reader y1] [(0, (ptrB b00 0)), (5, (kstr.V p1.S)), (6, ((kint .i64).V x1.1))] a w → K4 a w := by
  intro y1 a30 w30 h3 s30
  unfold cabalref10_Reader_Text.j1 at h3
  refine hK4 _ _ ?_
  refine wp_seq_k fun K6 hK6 => wp_seq_k fun K7 hK7 => ?_
  refine wp_region_lit (qs s30 (.c1 rfl (mv rfl rfl) (.c1 rfl (ob_nilCheck rfl (.tmp rfl)) (.c1 rfl (ob_fieldAddr (off' := 1) rfl Tryd.underlying96 rfl sz3 (by decide) (.tmp rfl) rfl) (.c1 rfl (ob_load rfl tk3 (.tmp rfl) (.head _) (lg_cabalref10_Reader_Err y1)) (.c1 rfl (ob_neq rfl (.tmp rfl) (opd_int rfl)) (.ce (u 0 rfl (u 5 rfl (u 6 rfl (u 36 rfl .nil)))))))))) fun _ _ s36 => wn hK7 ?_); clear s30
  refine cond_split s36 (.tmp rfl) (fun hc1 => ?_) (fun hc1 => ?_)
  ·have h4 := ite_t hc1 h3; clear h3
   obtain ⟨x3, e_x3, h5⟩ := bind_some h4; clear h4
   refine wp_seq_k fun K8 hK8 => wp_region_lit (qs s36 (.c1 rfl (mv rfl rfl) (.c1 rfl (mv rfl rfl) .cz)) fun _ _ s38 => ?_); clear s36
   refine qx (B' := (fun _ : Unit => [BF b00 96 k_cabalref10_Reader x3])) s38 rfl (ob_callL0 (args := [_, _]) (L := [_]) rfl .direct hb80 (List.Perm.refl _) (fun a w s => by exact c_cabalref10_Reader_stay k _ _ _ e_x3 _ _ _ _ _ (ownL s) (disL s) (nodL s) (s.arg (.tmp rfl)) (s.arg (.tmp rfl))) (by exact fun _ => rfl)) fun _ _ _ s39 => ?_; clear s38
   refine wn hK8 ?_
   have s40 := s39.sub .nil; clear s39
   refine wp_seq_k fun K9 hK9 => wp_region_lit (qs s40 (.c1 rfl (ob_assign rfl (opd_str (by rfl) (by decide))) (.ce (u 4 rfl .nil))) fun _ _ s42 => wn hK9 ?_); clear s40
   refine wp_ret ?_
   obtain rfl := Option.some.inj h5
   exact leaveXD (D := []) () s42 rfl (.inl rfl) rfl (.cons (.tmp rfl) .nil) rfl
  ·have h6 := ite_f hc1 h3; clear h3
   refine wp_skip ?_
   refine then_normal (hK6 _ _ ?_)
   have s43 := s36.sub (u 0 rfl (u 6 rfl .nil)); clear s36
   obtain ⟨x4, e_x4, h7⟩ := bind_some h6; clear h6
   refine wp_seq_k fun K10 hK10 => wp_region_lit (qs s43 (.c1 rfl (mv rfl rfl) (.c1 rfl (ob_nilCheck rfl (.tmp rfl)) (.c1 rfl (ob_fieldAddr (off' := 0) rfl Tryd.underlying96 rfl sz9 (by decide) (.tmp rfl) rfl) (.c1 rfl (ob_load rfl tk9 (.tmp rfl) (.head _) (lg_cabalref10_Reader_S y1)) (.c1 rfl (mv rfl rfl) (.c1 rfl (ob_cutStr rfl Tryd.underlying9 (.tmp rfl) .none (.some (.tmp rfl)) e_x4) (.c1 rfl (ob_assign rfl (.tmp rfl)) (.ce (u 0 rfl (u 6 rfl (u 7 rfl .nil))))))))))) fun _ _ s51 => wn hK10 ?_); clear s43
   obtain ⟨x5, e_x5, h8⟩ := bind_some h7; clear h7
   refine wp_seq_k fun K11 hK11 => wp_region_lit (qs s51 (.c1 rfl (mv rfl rfl) (.c1 rfl (mv rfl rfl) (.c1 rfl (ob_nilCheck rfl (.tmp rfl)) (.c1 rfl (ob_fieldAddr (off' := 0) rfl Tryd.underlying96 rfl sz9 (by decide) (.tmp rfl) rfl) (.c1 rfl (ob_load rfl tk9 (.tmp rfl) (.head _) (lg_cabalref10_Reader_S y1)) (.c1 rfl (mv rfl rfl) (.c1 rfl (ob_cutStr rfl Tryd.underlying9 (.tmp rfl) (.some (.tmp rfl)) .none e_x5) (.c1 rfl (ob_nilCheck rfl (.tmp rfl)) (.c1 rfl (ob_fieldAddr (off' := 0) rfl Tryd.underlying96 rfl sz9 (by decide) (.tmp rfl) rfl) .cz))))))))) fun _ _ s60 => ?_); clear s51
   refine seq_opx0 (B' := (fun _ : Unit => [BF b00 96 k_cabalref10_Reader ({ y1 with S := x5 })])) s60 rfl rfl (ob_store (A := []) rfl tk9 (.tmp rfl) (.tmp rfl) rfl (ls_cabalref10_Reader_S y1 x5) rfl) fun _ a61 w61 s61 => ?_; clear s60
   refine wn hK11 ?_
   have s62 := s61.sub (u 7 rfl .nil); clear s61
   refine wp_seq_k fun K12 hK12 => wp_region_lit (qs s62 (.c1 rfl (mv rfl rfl) (.c1 rfl (ob_assign rfl (.tmp rfl)) (.ce (u 4 rfl .nil)))) fun _ _ s65 => wn hK12 ?_); clear s62
   refine wp_ret ?_
   obtain rfl := Option.some.inj h8
   exact leaveXD (D := []) () s65 rfl (.inl rfl) rfl (.cons (.tmp rfl) .nil) rfl
 refine cond_split s29 (.tmp rfl) (fun hc2 => ?_) (fun hc2 => ?_)
 ·have h9 := ite_t hc2 h2; clear h2
  refine wp_region_lit (qs s29 (.c1 rfl (mv rfl rfl) (.c1 rfl (ob_nilCheck rfl (.tmp rfl)) (.c1 rfl (ob_fieldAddr (off' := 1) rfl Tryd.underlying96 rfl sz3 (by decide) (.tmp rfl) rfl) .cz))) fun _ _ s68 => ?_); clear s29
  refine seq_opx0 (B' := (fun _ : Unit => [BF b00 96 k_cabalref10_Reader ({ x1.2 with Err := (3 : Int) })])) s68 rfl rfl (ob_store (A := []) rfl tk3 (.tmp rfl) (opd_int rfl) rfl (ls_cabalref10_Reader_Err x1.2 (3 : Int)) rfl) fun _ a69 w69 s69 => ?_; clear s68
  refine wpList_nil ?_
  refine then_normal ?_
  exact hj1 ({ x1.2 with Err := (3 : Int) }) _ _ h9 (s69.sub (.cons rfl (.cons rfl (.cons rfl .nil))))
 ·have h10 := ite_f hc2 h2; clear h2
  refine wp_skip ?_
  refine then_normal ?_
  exact hj1 x1.2 _ _ h10 (s29.sub (.cons rfl (.cons rfl (.cons rfl .nil))))
end Go.Proofs.YtjbjladhgmknnaaDoor
