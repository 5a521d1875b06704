/- Each function's code comes to what its plain function answers. No condition. -/
import Derived.Test.YtpihmcfojdkpoaaDoorMFacts
namespace Go.Proofs.YtpihmcfojdkpoaaDoor
open Go Go.RowKit Go.Proofs.Kit Go.Proofs.Pure
set_option linter.unusedVariables false
set_option linter.unusedSimpArgs false
set_option maxRecDepth 100000
set_option maxHeartbeats 2000000

/- 44 (*cabal/digest.Hash).begin -/
theorem c_digest_Hash_begin (k : Nat) (p1 : digest_Hash) (r : digest_Hash) (h0 : digest_Hash_begin k p1 = some r) (ok : Ok) (w0 : World) (gl0 : (ptrTo (karr 8 (kint .u32)) G_digest_first).holds ok w0 (.pointer (some ⟨0, 0, none⟩))) (z0 : Value) (b0 : Nat) (U : TypeId) (pre post : List Value) (q1 : ∀ v, v ∈ pre → v.oneCell' = true) (q2 : ∀ v, v ∈ post → v.oneCell' = true) (l0 : (BF b0 U (kin pre k_digest_Hash post q1 q2) p1).holds ok w0) (d0 : ¬ ok b0) (u0 : (ptrB b0 pre.length).holds ok w0 z0) :
    GivesX Tryd.prog 44 [z0] ok w0 [BF b0 U (kin pre k_digest_Hash post q1 q2) p1] (fun _ : Unit => resFact []) (fun _ => [BF b0 U (kin pre k_digest_Hash post q1 q2) r]) := by
  unfold digest_Hash_begin at h0
  refine enterX (N := 14) Tryd.func44 rfl rfl (of_decide_eq_true rfl) (.cons u0 .nil) nodOne (ownOne l0) (disOne d0) fun a1 s1 => ?_
  have s2 := s1.keepKnown 100000 gl0 (okInX (disOne d0)); clear s1
  refine wp_seq_k fun K1 hK1 => ?_
  refine wp_region_lit ?_
  refine seq_op s2 rfl rfl (of_decide_eq_true rfl) (ob_move rfl (.tmp rfl)) fun a3 w3 s3 => ?_; clear s2
  refine seq_op s3 rfl rfl (of_decide_eq_true rfl) (ob_nilCheck rfl (.tmp rfl)) fun a4 w4 s4 => ?_; clear s3
  refine seq_op s4 rfl rfl (of_decide_eq_true rfl) (ob_fieldAddr (off' := pre.length + 0) rfl Tryd.underlying35 rfl sz4 (by decide) (.tmp rfl) rfl) fun a5 w5 s5 => ?_; clear s4
  refine seq_op s5 rfl rfl (of_decide_eq_true rfl) (ob_load rfl tk4 (.tmp rfl) (List.Mem.head _) (LG.trans (LG.kin _) (lg_digest_Hash_begun p1) (by decide))) fun a6 w6 s6 => ?_; clear s5
  refine seq_op s6 rfl rfl (of_decide_eq_true rfl) (ob_not rfl (.tmp rfl)) fun a7 w7 s7 => ?_; clear s6
  refine wpList_nil ?_
  refine then_normal ?_
  refine hK1 _ _ ?_
  have s8 := s7.sub (.cons (t := 0) rfl (.cons (t := 6) rfl (.cons (t := 100000) rfl .nil))); clear s7
  refine cond_split s8 (.tmp rfl) (fun hc1 => ?_) (fun hc1 => ?_)
  · replace h0 := ite_t hc1 h0
    have h1 := h0; clear h0
    refine wp_region_lit ?_
    refine seq_op s8 rfl rfl (of_decide_eq_true rfl) (ob_move rfl (.tmp rfl)) fun a9 w9 s9 => ?_; clear s8
    refine seq_op s9 rfl rfl (of_decide_eq_true rfl) (ob_move rfl (.tmp rfl)) fun a10 w10 s10 => ?_; clear s9
    refine seq_op s10 rfl rfl (of_decide_eq_true rfl) (ob_loadr rfl tk31 (.kept (t := 100000) (fun _ => rfl) rfl)) fun a11 w11 s11 => ?_; clear s10
    refine seq_op s11 rfl rfl (of_decide_eq_true rfl) (ob_nilCheck rfl (.tmp rfl)) fun a12 w12 s12 => ?_; clear s11
    refine seq_op s12 rfl rfl (of_decide_eq_true rfl) (ob_fieldAddr (off' := pre.length + 0) rfl Tryd.underlying35 rfl sz4 (by decide) (.tmp rfl) rfl) fun a13 w13 s13 => ?_; clear s12
    refine seq_opx0 (B' := fun _ => [BF b0 U (kin pre k_digest_Hash post q1 q2) ({ p1 with begun := true })]) s13 rfl rfl (ob_store (A := []) rfl tk4 (.tmp rfl) opd_bool rfl (LS.trans (LG.kin _) (ls_digest_Hash_begun p1 true) (LS.kin _ _)) rfl) fun _ a14 w14 s14 => ?_; clear s13
    refine seq_op s14 rfl rfl (of_decide_eq_true rfl) (ob_nilCheck rfl (.tmp rfl)) fun a15 w15 s15 => ?_; clear s14
    refine seq_op s15 rfl rfl (of_decide_eq_true rfl) (ob_fieldAddr (off' := pre.length + 1) rfl Tryd.underlying35 rfl sz31 (by decide) (.tmp rfl) rfl) fun a16 w16 s16 => ?_; clear s15
    refine seq_opx0 (B' := fun _ => [BF b0 U (kin pre k_digest_Hash post q1 q2) ({ { p1 with begun := true } with state := G_digest_first })]) s16 rfl rfl (ob_store (A := []) rfl tk31 (.tmp rfl) (.tmp rfl) rfl (LS.trans (LG.kin _) (ls_digest_Hash_state ({ p1 with begun := true }) G_digest_first) (LS.kin _ _)) rfl) fun _ a17 w17 s17 => ?_; clear s16
    refine wpList_nil ?_
    obtain rfl := Option.some.inj h1
    exact leaveX () s17 rfl (.inr rfl) rfl .nil rfl
  · replace h0 := ite_f hc1 h0
    have h2 := h0; clear h0
    refine wp_skip ?_
    obtain rfl := Option.some.inj h2
    exact leaveX () s8 rfl (.inr rfl) rfl .nil rfl

/- 72 math/bits.RotateLeft32 -/
theorem c_math_bits_RotateLeft32 (k : Nat) (p1 : Int) (p2 : Int) (r : Int) (h0 : math_bits_RotateLeft32 k p1 p2 = some r) (ok : Ok) (w0 : World) (z0 : Value) (z1 : Value) (u0 : ((kint .u32).V p1).holds ok w0 z0) (u1 : ((kint .i64).V p2).holds ok w0 z1) :
    Gives Tryd.prog 72 [z0, z1] ok w0 (resFact [(kint .u32).V r]) := by
  unfold math_bits_RotateLeft32 at h0
  refine enter (N := 17) Tryd.func72 rfl rfl (of_decide_eq_true rfl) (.cons u0 (.cons u1 .nil)) fun a1 s1 => ?_
  refine wp_seq_k fun K1 hK1 => ?_
  refine wp_region_lit ?_
  refine seq_op s1 rfl rfl (of_decide_eq_true rfl) (ob_assign rfl (opd_int rfl)) fun a2 w2 s2 => ?_; clear s1
  refine wpList_nil ?_
  refine then_normal ?_
  refine hK1 _ _ ?_
  have s3 := s2.sub (.cons (t := 0) rfl (.cons (t := 1) rfl .nil)); clear s2
  refine wp_seq_k fun K2 hK2 => ?_
  refine wp_region_lit ?_
  refine seq_op s3 rfl rfl (of_decide_eq_true rfl) (ob_move rfl (.tmp rfl)) fun a4 w4 s4 => ?_; clear s3
  refine seq_op s4 rfl rfl (of_decide_eq_true rfl) (ob_conv rfl _ Tryd.underlying3 Tryd.underlying54 (.tmp rfl)) fun a5 w5 s5 => ?_; clear s4
  refine seq_op s5 rfl rfl (of_decide_eq_true rfl) (ob_and rfl (.tmp rfl) (opd_int rfl)) fun a6 w6 s6 => ?_; clear s5
  refine seq_op s6 rfl rfl (of_decide_eq_true rfl) (ob_assign rfl (.tmp rfl)) fun a7 w7 s7 => ?_; clear s6
  refine wpList_nil ?_
  refine then_normal ?_
  refine hK2 _ _ ?_
  have s8 := s7.sub (.cons (t := 0) rfl (.cons (t := 5) rfl .nil)); clear s7
  refine wp_seq_k fun K3 hK3 => ?_
  refine wp_region_lit ?_
  refine seq_op s8 rfl rfl (of_decide_eq_true rfl) (ob_move rfl (.tmp rfl)) fun a9 w9 s9 => ?_; clear s8
  refine seq_op s9 rfl rfl (of_decide_eq_true rfl) (ob_move rfl (.tmp rfl)) fun a10 w10 s10 => ?_; clear s9
  obtain ⟨g1, h1⟩ := guard_some h0; clear h0
  refine seq_op s10 rfl rfl (of_decide_eq_true rfl) (ob_shl rfl (.tmp rfl) (.tmp rfl) g1) fun a11 w11 s11 => ?_; clear s10
  refine seq_op s11 rfl rfl (of_decide_eq_true rfl) (ob_move rfl (.tmp rfl)) fun a12 w12 s12 => ?_; clear s11
  refine seq_op s12 rfl rfl (of_decide_eq_true rfl) (ob_move rfl (.tmp rfl)) fun a13 w13 s13 => ?_; clear s12
  refine seq_op s13 rfl rfl (of_decide_eq_true rfl) (ob_sub rfl (opd_int rfl) (.tmp rfl)) fun a14 w14 s14 => ?_; clear s13
  obtain ⟨g2, h2⟩ := guard_some h1; clear h1
  obtain ⟨x1, e_x1, h3⟩ := bind_some h2; clear h2; replace e_x1 := Option.some.inj e_x1
  refine seq_op s14 rfl rfl (of_decide_eq_true rfl) ((ob_shr rfl (.tmp rfl) (.tmp rfl) g2).nm e_x1) fun a15 w15 s15 => ?_; clear s14
  obtain ⟨x2, e_x2, h4⟩ := bind_some h3; clear h3; replace e_x2 := Option.some.inj e_x2
  refine seq_op s15 rfl rfl (of_decide_eq_true rfl) ((ob_or rfl (.tmp rfl) (.tmp rfl)).nm e_x2) fun a16 w16 s16 => ?_; clear s15
  refine seq_op s16 rfl rfl (of_decide_eq_true rfl) (ob_assign rfl (.tmp rfl)) fun a17 w17 s17 => ?_; clear s16
  refine wpList_nil ?_
  refine then_normal ?_
  refine hK3 _ _ ?_
  have s18 := s17.sub (.cons (t := 4) rfl .nil); clear s17
  refine wp_ret ?_
  obtain rfl := Option.some.inj h4
  exact leave s18 (.inl rfl) rfl (.cons (.tmp rfl) .nil)

/- 69 cabal/digest.turn -/
theorem c_digest_turn (k : Nat) (p1 : Int) (p2 : Int) (p3 : Int) (p4 : Int) (r : Int) (h0 : digest_turn k p1 p2 p3 p4 = some r) (ok : Ok) (w0 : World) (z0 : Value) (z1 : Value) (z2 : Value) (z3 : Value) (u0 : ((kint .u32).V p1).holds ok w0 z0) (u1 : ((kint .i64).V p2).holds ok w0 z1) (u2 : ((kint .i64).V p3).holds ok w0 z2) (u3 : ((kint .i64).V p4).holds ok w0 z3) :
    Gives Tryd.prog 69 [z0, z1, z2, z3] ok w0 (resFact [(kint .u32).V r]) := by
  unfold digest_turn at h0
  refine enter (N := 22) Tryd.func69 rfl rfl (of_decide_eq_true rfl) (.cons u0 (.cons u1 (.cons u2 (.cons u3 .nil)))) fun a1 s1 => ?_
  refine wp_seq_k fun K1 hK1 => ?_
  refine wp_region_lit ?_
  refine seq_op s1 rfl rfl (of_decide_eq_true rfl) (ob_assign rfl (opd_int rfl)) fun a2 w2 s2 => ?_; clear s1
  refine wpList_nil ?_
  refine then_normal ?_
  refine hK1 _ _ ?_
  have s3 := s2.sub (.cons (t := 0) rfl (.cons (t := 1) rfl (.cons (t := 2) rfl (.cons (t := 3) rfl .nil)))); clear s2
  refine wp_seq_k fun K2 hK2 => ?_
  obtain ⟨x1, e_x1, h1⟩ := bind_some h0; clear h0
  obtain ⟨x2, e_x2, h2⟩ := bind_some h1; clear h1
  obtain ⟨g1, h3⟩ := guard_some h2; clear h2
  refine wp_drawn (Fs := [((kint .u32).V p1), ((kint .i64).V p2), ((kint .i64).V (isub .i64 0 p2)), ((kint .u32).V x1), ((kint .u32).V p1), ((kint .i64).V p3), ((kint .i64).V (isub .i64 0 p3)), ((kint .u32).V x2), ((kint .u32).V (ixor .u32 x1 x2)), ((kint .u32).V p1), ((kint .i64).V p4), ((kint .u32).V (ishr .u32 p1 p4)), ((kint .u32).V (ixor .u32 (ixor .u32 x1 x2) (ishr .u32 p1 p4))), ((kint .u32).V (ixor .u32 (ixor .u32 x1 x2) (ishr .u32 p1 p4)))]) (bits := [0, 0, 2, 7, 0, 0, 32, 127, 255, 0, 0, 1536, 4095, 8191]) (m := 14) mx s3 (by kernel_rfl) rfl (ops_cons (.plain _ (Av.old (t := 0) rfl rfl Av.nil) rfl rfl (ob_move rfl (.tmp rfl))) (ops_cons (.plain _ (Av.old (t := 1) rfl rfl Av.nil) rfl rfl (ob_move rfl (.tmp rfl))) (ops_cons (.plain _ (Av.new (j := 1) rfl rfl rfl Av.nil) rfl rfl (ob_neg rfl (.tmp rfl))) (ops_cons (.plain _ (Av.new (j := 0) rfl rfl rfl (Av.new (j := 2) rfl rfl rfl Av.nil)) rfl rfl (ob_calls rfl hb72 (fun a w s => c_math_bits_RotateLeft32 k _ _ _ e_x1 _ _ _ _ (s.arg (.tmp rfl)) (s.arg (.tmp rfl))))) (ops_cons (.plain _ (Av.old (t := 0) rfl rfl Av.nil) rfl rfl (ob_move rfl (.tmp rfl))) (ops_cons (.plain _ (Av.old (t := 2) rfl rfl Av.nil) rfl rfl (ob_move rfl (.tmp rfl))) (ops_cons (.plain _ (Av.new (j := 5) rfl rfl rfl Av.nil) rfl rfl (ob_neg rfl (.tmp rfl))) (ops_cons (.plain _ (Av.new (j := 4) rfl rfl rfl (Av.new (j := 6) rfl rfl rfl Av.nil)) rfl rfl (ob_calls rfl hb72 (fun a w s => c_math_bits_RotateLeft32 k _ _ _ e_x2 _ _ _ _ (s.arg (.tmp rfl)) (s.arg (.tmp rfl))))) (ops_cons (.plain _ (Av.new (j := 3) rfl rfl rfl (Av.new (j := 7) rfl rfl rfl Av.nil)) rfl rfl (ob_xor rfl (.tmp rfl) (.tmp rfl))) (ops_cons (.plain _ (Av.old (t := 0) rfl rfl Av.nil) rfl rfl (ob_move rfl (.tmp rfl))) (ops_cons (.plain _ (Av.old (t := 3) rfl rfl Av.nil) rfl rfl (ob_move rfl (.tmp rfl))) (ops_cons (.plain _ (Av.new (j := 9) rfl rfl rfl (Av.new (j := 10) rfl rfl rfl Av.nil)) rfl rfl (ob_shr rfl (.tmp rfl) (.tmp rfl) g1)) (ops_cons (.plain _ (Av.new (j := 8) rfl rfl rfl (Av.new (j := 11) rfl rfl rfl Av.nil)) rfl rfl (ob_xor rfl (.tmp rfl) (.tmp rfl))) (ops_cons (.plain _ (Av.new (j := 12) rfl rfl rfl Av.nil) rfl rfl (ob_assign rfl (.tmp rfl))) ops_nil)))))))))))))) (out_new (i := 13) (by decide) rfl rfl out_nil) fun a4 w4 s4 => ?_; clear s3
  refine wpList_nil ?_
  refine then_normal ?_
  refine hK2 _ _ ?_
  have s5 := s4.sub (.cons (t := 8) rfl .nil); clear s4
  refine wp_ret ?_
  obtain rfl := Option.some.inj h3
  exact leave s5 (.inl rfl) rfl (.cons (.tmp rfl) .nil)

/- 70 cabal/digest.spin -/
theorem c_digest_spin (k : Nat) (p1 : Int) (p2 : Int) (p3 : Int) (p4 : Int) (r : Int) (h0 : digest_spin k p1 p2 p3 p4 = some r) (ok : Ok) (w0 : World) (z0 : Value) (z1 : Value) (z2 : Value) (z3 : Value) (u0 : ((kint .u32).V p1).holds ok w0 z0) (u1 : ((kint .i64).V p2).holds ok w0 z1) (u2 : ((kint .i64).V p3).holds ok w0 z2) (u3 : ((kint .i64).V p4).holds ok w0 z3) :
    Gives Tryd.prog 70 [z0, z1, z2, z3] ok w0 (resFact [(kint .u32).V r]) := by
  unfold digest_spin at h0
  refine enter (N := 23) Tryd.func70 rfl rfl (of_decide_eq_true rfl) (.cons u0 (.cons u1 (.cons u2 (.cons u3 .nil)))) fun a1 s1 => ?_
  refine wp_seq_k fun K1 hK1 => ?_
  refine wp_region_lit ?_
  refine seq_op s1 rfl rfl (of_decide_eq_true rfl) (ob_assign rfl (opd_int rfl)) fun a2 w2 s2 => ?_; clear s1
  refine wpList_nil ?_
  refine then_normal ?_
  refine hK1 _ _ ?_
  have s3 := s2.sub (.cons (t := 0) rfl (.cons (t := 1) rfl (.cons (t := 2) rfl (.cons (t := 3) rfl .nil)))); clear s2
  refine wp_seq_k fun K2 hK2 => ?_
  refine wp_region_lit ?_
  refine seq_op s3 rfl rfl (of_decide_eq_true rfl) (ob_move rfl (.tmp rfl)) fun a4 w4 s4 => ?_; clear s3
  refine seq_op s4 rfl rfl (of_decide_eq_true rfl) (ob_move rfl (.tmp rfl)) fun a5 w5 s5 => ?_; clear s4
  refine seq_op s5 rfl rfl (of_decide_eq_true rfl) (ob_neg rfl (.tmp rfl)) fun a6 w6 s6 => ?_; clear s5
  obtain ⟨x1, e_x1, h1⟩ := bind_some h0; clear h0
  refine seq_op s6 rfl rfl (of_decide_eq_true rfl) (ob_calls rfl hb72 (fun a w s => c_math_bits_RotateLeft32 k _ _ _ e_x1 _ _ _ _ (s.arg (.tmp rfl)) (s.arg (.tmp rfl)))) fun a7 w7 s7 => ?_; clear s6
  refine seq_op s7 rfl rfl (of_decide_eq_true rfl) (ob_move rfl (.tmp rfl)) fun a8 w8 s8 => ?_; clear s7
  refine seq_op s8 rfl rfl (of_decide_eq_true rfl) (ob_move rfl (.tmp rfl)) fun a9 w9 s9 => ?_; clear s8
  refine seq_op s9 rfl rfl (of_decide_eq_true rfl) (ob_neg rfl (.tmp rfl)) fun a10 w10 s10 => ?_; clear s9
  obtain ⟨x2, e_x2, h2⟩ := bind_some h1; clear h1
  refine seq_op s10 rfl rfl (of_decide_eq_true rfl) (ob_calls rfl hb72 (fun a w s => c_math_bits_RotateLeft32 k _ _ _ e_x2 _ _ _ _ (s.arg (.tmp rfl)) (s.arg (.tmp rfl)))) fun a11 w11 s11 => ?_; clear s10
  refine seq_op s11 rfl rfl (of_decide_eq_true rfl) (ob_xor rfl (.tmp rfl) (.tmp rfl)) fun a12 w12 s12 => ?_; clear s11
  refine seq_op s12 rfl rfl (of_decide_eq_true rfl) (ob_move rfl (.tmp rfl)) fun a13 w13 s13 => ?_; clear s12
  refine seq_op s13 rfl rfl (of_decide_eq_true rfl) (ob_move rfl (.tmp rfl)) fun a14 w14 s14 => ?_; clear s13
  refine seq_op s14 rfl rfl (of_decide_eq_true rfl) (ob_neg rfl (.tmp rfl)) fun a15 w15 s15 => ?_; clear s14
  obtain ⟨x3, e_x3, h3⟩ := bind_some h2; clear h2
  refine seq_op s15 rfl rfl (of_decide_eq_true rfl) (ob_calls rfl hb72 (fun a w s => c_math_bits_RotateLeft32 k _ _ _ e_x3 _ _ _ _ (s.arg (.tmp rfl)) (s.arg (.tmp rfl)))) fun a16 w16 s16 => ?_; clear s15
  refine seq_op s16 rfl rfl (of_decide_eq_true rfl) (ob_xor rfl (.tmp rfl) (.tmp rfl)) fun a17 w17 s17 => ?_; clear s16
  refine seq_op s17 rfl rfl (of_decide_eq_true rfl) (ob_assign rfl (.tmp rfl)) fun a18 w18 s18 => ?_; clear s17
  refine wpList_nil ?_
  refine then_normal ?_
  refine hK2 _ _ ?_
  have s19 := s18.sub (.cons (t := 8) rfl .nil); clear s18
  refine wp_ret ?_
  obtain rfl := Option.some.inj h3
  exact leave s19 (.inl rfl) rfl (.cons (.tmp rfl) .nil)

/- 63 (*cabal/digest.Hash).take -/
theorem c_digest_Hash_take (k : Nat) (p1 : digest_Hash) (r : digest_Hash) (h0 : digest_Hash_take k p1 = some r) (ok : Ok) (w0 : World) (gl1 : (ptrTo (karr 64 (kint .u32)) G_digest_rounds).holds ok w0 (.pointer (some ⟨1, 0, none⟩))) (z0 : Value) (b0 : Nat) (U : TypeId) (pre post : List Value) (q1 : ∀ v, v ∈ pre → v.oneCell' = true) (q2 : ∀ v, v ∈ post → v.oneCell' = true) (l0 : (BF b0 U (kin pre k_digest_Hash post q1 q2) p1).holds ok w0) (d0 : ¬ ok b0) (u0 : (ptrB b0 pre.length).holds ok w0 z0) :
    GivesX Tryd.prog 63 [z0] ok w0 [BF b0 U (kin pre k_digest_Hash post q1 q2) p1] (fun _ : Unit => resFact []) (fun _ => [BF b0 U (kin pre k_digest_Hash post q1 q2) r]) := by
  unfold digest_Hash_take at h0
  refine enterX (N := 164) Tryd.func63 rfl rfl (of_decide_eq_true rfl) (.cons u0 .nil) nodOne (ownOne l0) (disOne d0) fun a1 s1 => ?_
  have s2 := s1.keepKnown 100001 gl1 (okInX (disOne d0)); clear s1
  refine wp_seq_k fun K1 hK1 => ?_
  refine wp_region_lit ?_
  refine seq_opx s2 rfl rfl (of_decide_eq_true rfl) (ob_new (k := (karr 64 (kint .u32))) rfl zz39 (Zr.arr 64 (Zr.int .u32))) fun b1 a3 w3 s3 => ?_; clear s2
  refine wpList_nil ?_
  refine then_normal ?_
  refine hK1 _ _ ?_
  have s4 := s3.sub (.cons (t := 0) rfl (.cons (t := 2) rfl (.cons (t := 100001) rfl .nil))); clear s3
  refine wp_seq_k fun K2 hK2 => ?_
  refine wp_seq_k fun K3 hK3 => ?_
  refine wp_region_lit ?_
  refine seq_op s4 rfl rfl (of_decide_eq_true rfl) (ob_move rfl (opd_int rfl)) fun a5 w5 s5 => ?_; clear s4
  refine wpList_nil ?_
  refine then_normal ?_
  refine hK3 _ _ ?_
  have s6 := s5.sub (.cons (t := 0) rfl (.cons (t := 2) rfl (.cons (t := 13) rfl (.cons (t := 100001) rfl .nil)))); clear s5
  have hj1 : ∀ (y1 : (List Int)) (b1 : Nat) (a : Act) (w : World), (digest_Hash_take.j1 k p1) y1 = some r → St ⟨164, w0, ok, (idsOf [BF b0 U (kin pre k_digest_Hash post q1 q2) p1])⟩ [BF b1 39 (karr 64 (kint .u32)) y1, BF b0 U (kin pre k_digest_Hash post q1 q2) p1] [(0, (ptrB b0 pre.length)), (2, (ptrB b1 0)), (100001, (known (.pointer (some ⟨1, 0, none⟩)) (ptrTo (karr 64 (kint .u32)) G_digest_rounds)))] a w → K2 a w := by
    intro y1 b1 a7 w7 h1 s7
    unfold digest_Hash_take.j1 at h1
    refine hK2 _ _ ?_
    refine wp_seq_k fun K4 hK4 => ?_
    refine wp_seq_k fun K5 hK5 => ?_
    refine wp_region_lit ?_
    refine seq_op s7 rfl rfl (of_decide_eq_true rfl) (ob_assign rfl (opd_int rfl)) fun a8 w8 s8 => ?_; clear s7
    refine wpList_nil ?_
    refine then_normal ?_
    refine hK5 _ _ ?_
    have s9 := s8.sub (.cons (t := 0) rfl (.cons (t := 2) rfl (.cons (t := 6) rfl (.cons (t := 100001) rfl .nil)))); clear s8
    have hj2 : ∀ (y2 : (List Int)) (a : Act) (w : World), (digest_Hash_take.j2 k p1) y2 = some r → St ⟨164, w0, ok, (idsOf [BF b0 U (kin pre k_digest_Hash post q1 q2) p1])⟩ [BF b1 39 (karr 64 (kint .u32)) y2, BF b0 U (kin pre k_digest_Hash post q1 q2) p1] [(0, (ptrB b0 pre.length)), (2, (ptrB b1 0)), (100001, (known (.pointer (some ⟨1, 0, none⟩)) (ptrTo (karr 64 (kint .u32)) G_digest_rounds)))] a w → K4 a w := by
      intro y2 a10 w10 h2 s10
      unfold digest_Hash_take.j2 at h2
      refine hK4 _ _ ?_
      refine wp_seq_k fun K6 hK6 => ?_
      refine wp_region_lit ?_
      refine seq_op s10 rfl rfl (of_decide_eq_true rfl) (ob_move rfl (.tmp rfl)) fun a11 w11 s11 => ?_; clear s10
      refine seq_op s11 rfl rfl (of_decide_eq_true rfl) (ob_nilCheck rfl (.tmp rfl)) fun a12 w12 s12 => ?_; clear s11
      refine seq_op s12 rfl rfl (of_decide_eq_true rfl) (ob_fieldAddr (off' := pre.length + 1) rfl Tryd.underlying35 rfl sz31 (by decide) (.tmp rfl) rfl) fun a13 w13 s13 => ?_; clear s12
      refine seq_op s13 rfl rfl (of_decide_eq_true rfl) (ob_load rfl tk31 (.tmp rfl) (List.Mem.tail _ (List.Mem.head _)) (LG.trans (LG.kin _) (lg_digest_Hash_state p1) (by decide))) fun a14 w14 s14 => ?_; clear s13
      refine seq_opx s14 rfl rfl (of_decide_eq_true rfl) (ob_new (k := (karr 8 (kint .u32))) rfl zz31 (Zr.arr 8 (Zr.int .u32))) fun b2 a15 w15 s15 => ?_; clear s14
      refine seq_opx0 (B' := fun _ => [BF b2 31 (karr 8 (kint .u32)) p1.state, BF b1 39 (karr 64 (kint .u32)) y2, BF b0 U (kin pre k_digest_Hash post q1 q2) p1]) s15 rfl rfl (ob_store (A := []) rfl tk31 (.tmp rfl) (.tmp rfl) rfl (LS.refl _ _ _) rfl) fun _ a16 w16 s16 => ?_; clear s15
      refine wpList_nil ?_
      refine then_normal ?_
      refine hK6 _ _ ?_
      have s17 := s16.sub (.cons (t := 0) rfl (.cons (t := 2) rfl (.cons (t := 7) rfl (.cons (t := 100001) rfl .nil)))); clear s16
      refine wp_seq_k fun K7 hK7 => ?_
      refine wp_seq_k fun K8 hK8 => ?_
      refine wp_region_lit ?_
      refine seq_op s17 rfl rfl (of_decide_eq_true rfl) (ob_loadr rfl tk39 (.kept (t := 100001) (fun _ => rfl) rfl)) fun a18 w18 s18 => ?_; clear s17
      refine seq_op s18 rfl rfl (of_decide_eq_true rfl) (ob_move rfl (opd_int rfl)) fun a19 w19 s19 => ?_; clear s18
      refine wpList_nil ?_
      refine then_normal ?_
      refine hK8 _ _ ?_
      have s20 := s19.sub (.cons (t := 0) rfl (.cons (t := 2) rfl (.cons (t := 7) rfl (.cons (t := 72) rfl (.cons (t := 73) rfl (.cons (t := 100001) rfl .nil)))))); clear s19
      have hj3 : ∀ (y3 : (List Int)) (b2 : Nat) (a : Act) (w : World), (digest_Hash_take.j3 k p1) y3 = some r → St ⟨164, w0, ok, (idsOf [BF b0 U (kin pre k_digest_Hash post q1 q2) p1])⟩ [BF b2 31 (karr 8 (kint .u32)) y3, BF b0 U (kin pre k_digest_Hash post q1 q2) p1] [(0, (ptrB b0 pre.length)), (7, (ptrB b2 0)), (100001, (known (.pointer (some ⟨1, 0, none⟩)) (ptrTo (karr 64 (kint .u32)) G_digest_rounds)))] a w → K7 a w := by
        intro y3 b2 a21 w21 h3 s21
        unfold digest_Hash_take.j3 at h3
        refine hK7 _ _ ?_
        refine wp_seq_k fun K9 hK9 => ?_
        refine wp_seq_k fun K10 hK10 => ?_
        refine wp_region_lit ?_
        refine seq_op s21 rfl rfl (of_decide_eq_true rfl) (ob_move rfl (opd_int rfl)) fun a22 w22 s22 => ?_; clear s21
        refine wpList_nil ?_
        refine then_normal ?_
        refine hK10 _ _ ?_
        have s23 := s22.sub (.cons (t := 0) rfl (.cons (t := 7) rfl (.cons (t := 144) rfl (.cons (t := 100001) rfl .nil)))); clear s22
        have hj4 : ∀ (y4 : digest_Hash) (a : Act) (w : World), (digest_Hash_take.j4 k) y4 = some r → St ⟨164, w0, ok, (idsOf [BF b0 U (kin pre k_digest_Hash post q1 q2) p1])⟩ [BF b0 U (kin pre k_digest_Hash post q1 q2) y4] [(0, (ptrB b0 pre.length)), (100001, (known (.pointer (some ⟨1, 0, none⟩)) (ptrTo (karr 64 (kint .u32)) G_digest_rounds)))] a w → K9 a w := by
          intro y4 a24 w24 h4 s24
          unfold digest_Hash_take.j4 at h4
          refine hK9 _ _ ?_
          refine wp_region_lit ?_
          refine seq_op s24 rfl rfl (of_decide_eq_true rfl) (ob_move rfl (.tmp rfl)) fun a25 w25 s25 => ?_; clear s24
          refine seq_op s25 rfl rfl (of_decide_eq_true rfl) (ob_nilCheck rfl (.tmp rfl)) fun a26 w26 s26 => ?_; clear s25
          refine seq_op s26 rfl rfl (of_decide_eq_true rfl) (ob_fieldAddr (off' := pre.length + 73) rfl Tryd.underlying35 rfl sz3 (by decide) (.tmp rfl) rfl) fun a27 w27 s27 => ?_; clear s26
          refine seq_opx0 (B' := fun _ => [BF b0 U (kin pre k_digest_Hash post q1 q2) ({ y4 with many := (0 : Int) })]) s27 rfl rfl (ob_store (A := []) rfl tk3 (.tmp rfl) (opd_int rfl) rfl (LS.trans (LG.kin _) (ls_digest_Hash_many y4 (0 : Int)) (LS.kin _ _)) rfl) fun _ a28 w28 s28 => ?_; clear s27
          refine wpList_nil ?_
          obtain rfl := Option.some.inj h4
          exact leaveX () s28 rfl (.inr rfl) rfl .nil rfl
        refine wp_block ?_
        refine wp_loop_fuel (fun m (q : Int × digest_Hash) => digest_Hash_take.l1 k y3 m q.1 q.2) r (fun _ => rfl) (fun q a w => St ⟨164, w0, ok, (idsOf [BF b0 U (kin pre k_digest_Hash post q1 q2) p1])⟩ [BF b2 31 (karr 8 (kint .u32)) y3, BF b0 U (kin pre k_digest_Hash post q1 q2) q.2] [(0, (ptrB b0 pre.length)), (7, (ptrB b2 0)), (144, ((kint .i64).V q.1)), (100001, (known (.pointer (some ⟨1, 0, none⟩)) (ptrTo (karr 64 (kint .u32)) G_digest_rounds)))] a w) ?_ k ((0 : Int), p1) _ _ h3 (s23.sub (.cons rfl (.cons rfl (.cons rfl (.cons rfl .nil)))))
        rintro n1 ⟨y5, y6⟩ a29 w29 h5 s29 K11 hK11
        replace h5 : digest_Hash_take.l1 k y3 (n1 + 1) y5 y6 = some r := h5; rw [digest_Hash_take.l1] at h5
        have h6 := h5; clear h5
        refine wp_seq_k fun K12 hK12 => ?_
        refine wp_region_lit ?_
        refine seq_op s29 rfl rfl (of_decide_eq_true rfl) (ob_lss rfl (.tmp rfl) (opd_int rfl)) fun a30 w30 s30 => ?_; clear s29
        refine wpList_nil ?_
        refine then_normal ?_
        refine hK12 _ _ ?_
        have s31 := s30.sub (.cons (t := 0) rfl (.cons (t := 7) rfl (.cons (t := 144) rfl (.cons (t := 145) rfl (.cons (t := 100001) rfl .nil))))); clear s30
        refine wp_seq_k fun K13 hK13 => ?_
        refine cond_split s31 (.tmp rfl) (fun hc1 => ?_) (fun hc1 => ?_)
        · replace h6 := ite_t hc1 h6
          have h7 := h6; clear h6
          refine wp_skip ?_
          refine then_normal ?_
          refine hK13 _ _ ?_
          have s32 := s31.sub (.cons (t := 0) rfl (.cons (t := 7) rfl (.cons (t := 144) rfl (.cons (t := 100001) rfl .nil)))); clear s31
          refine wp_seq_k fun K14 hK14 => ?_
          refine wp_block ?_
          refine wp_seq_k fun K15 hK15 => ?_
          refine wp_region_lit ?_
          refine seq_op s32 rfl rfl (of_decide_eq_true rfl) (ob_move rfl (.tmp rfl)) fun a33 w33 s33 => ?_; clear s32
          refine seq_op s33 rfl rfl (of_decide_eq_true rfl) (ob_assign rfl (.tmp rfl)) fun a34 w34 s34 => ?_; clear s33
          refine wpList_nil ?_
          refine then_normal ?_
          refine hK15 _ _ ?_
          have s35 := s34.sub (.cons (t := 0) rfl (.cons (t := 7) rfl (.cons (t := 12) rfl (.cons (t := 144) rfl (.cons (t := 100001) rfl .nil))))); clear s34
          obtain ⟨g1, h8⟩ := guard_some h7; clear h7
          obtain ⟨x1, e_x1, h9⟩ := bind_some h8; clear h8
          obtain ⟨g2, h10⟩ := guard_some h9; clear h9
          obtain ⟨x2, e_x2, h11⟩ := bind_some h10; clear h10
          obtain ⟨g3, h12⟩ := guard_some h11; clear h11
          refine wp_drawn (Fs := [(ptrB b0 pre.length), ((kint .i64).V y5), (ptrB b0 pre.length), (ptrB b0 (pre.length + 1)), (ptrB b0 (pre.length + 1 + y5.toNat * 1)), ((kint .u32).V x1), ((kint .i64).V y5), (ptrB b2 (y5.toNat * 1)), ((kint .u32).V x2), ((kint .u32).V (iadd .u32 x1 x2)), (ptrB b0 pre.length), (ptrB b0 (pre.length + 1)), (ptrB b0 (pre.length + 1 + y5.toNat * 1))]) (bits := [0, 0, 1, 5, 15, 31, 0, 64, 192, 511, 1, 1025, 4095, 8191]) (m := 13) mx s35 (by kernel_rfl) rfl (ops_cons (.plain _ (Av.old (t := 0) rfl rfl (Av.old (t := 100001) rfl rfl Av.nil)) rfl rfl (ob_move rfl (.tmp rfl))) (ops_cons (.plain _ (Av.old (t := 12) rfl rfl (Av.old (t := 100001) rfl rfl Av.nil)) rfl rfl (ob_move rfl (.tmp rfl))) (ops_cons (.plain _ (Av.new (j := 0) rfl rfl rfl (Av.old (t := 100001) rfl rfl Av.nil)) rfl rfl (ob_nilCheck rfl (.tmp rfl))) (ops_cons (.plain _ (Av.new (j := 2) rfl rfl rfl (Av.old (t := 100001) rfl rfl Av.nil)) rfl rfl (ob_fieldAddr (off' := pre.length + 1) rfl Tryd.underlying35 rfl sz31 (by decide) (.tmp rfl) rfl)) (ops_cons (.plain _ (Av.new (j := 1) rfl rfl rfl (Av.new (j := 3) rfl rfl rfl (Av.old (t := 100001) rfl rfl Av.nil))) rfl rfl (ob_indexAddr rfl Tryd.underlying31 sz30 (.tmp rfl) (.tmp rfl) g1.1 g1.2 rfl)) (ops_cons (.plain _ (Av.new (j := 4) rfl rfl rfl (Av.old (t := 100001) rfl rfl Av.nil)) rfl rfl (ob_load rfl tk30 (.tmp rfl) (List.Mem.tail _ (List.Mem.head _)) (LG.trans (LG.trans (LG.kin _) (lg_digest_Hash_state y6) (by decide)) (LG.arrA e_x1) (by decide)))) (ops_cons (.plain _ (Av.old (t := 12) rfl rfl (Av.old (t := 100001) rfl rfl Av.nil)) rfl rfl (ob_move rfl (.tmp rfl))) (ops_cons (.plain _ (Av.old (t := 7) rfl rfl (Av.new (j := 6) rfl rfl rfl (Av.old (t := 100001) rfl rfl Av.nil))) rfl rfl (ob_indexAddr rfl Tryd.underlying31 sz30 (.tmp rfl) (.tmp rfl) g2.1 g2.2 (Nat.zero_add _))) (ops_cons (.plain _ (Av.new (j := 7) rfl rfl rfl (Av.old (t := 100001) rfl rfl Av.nil)) rfl rfl (ob_load rfl tk30 (.tmp rfl) (List.Mem.head _) (LG.arrA e_x2))) (ops_cons (.plain _ (Av.new (j := 5) rfl rfl rfl (Av.new (j := 8) rfl rfl rfl (Av.old (t := 100001) rfl rfl Av.nil))) rfl rfl (ob_add rfl (.tmp rfl) (.tmp rfl))) (ops_cons (.plain _ (Av.new (j := 0) rfl rfl rfl (Av.old (t := 100001) rfl rfl Av.nil)) rfl rfl (ob_nilCheck rfl (.tmp rfl))) (ops_cons (.plain _ (Av.new (j := 10) rfl rfl rfl (Av.old (t := 100001) rfl rfl Av.nil)) rfl rfl (ob_fieldAddr (off' := pre.length + 1) rfl Tryd.underlying35 rfl sz31 (by decide) (.tmp rfl) rfl)) (ops_cons (.plain _ (Av.new (j := 1) rfl rfl rfl (Av.new (j := 11) rfl rfl rfl (Av.old (t := 100001) rfl rfl Av.nil))) rfl rfl (ob_indexAddr rfl Tryd.underlying31 sz30 (.tmp rfl) (.tmp rfl) g3.1 g3.2 rfl)) ops_nil))))))))))))) (out_old (t := 0) rfl rfl (out_old (t := 7) rfl rfl (out_old (t := 144) rfl rfl (out_new (i := 9) (by decide) rfl rfl (out_new (i := 12) (by decide) rfl rfl (out_old (t := 100001) rfl rfl out_nil)))))) fun a36 w36 s36 => ?_; clear s35
          obtain ⟨x3, e_x3, h13⟩ := bind_some h12; clear h12
          refine seq_opx0 (B' := fun _ => [BF b2 31 (karr 8 (kint .u32)) y3, BF b0 U (kin pre k_digest_Hash post q1 q2) ({ y6 with state := x3 })]) s36 rfl rfl (ob_store (A := [_]) rfl tk30 (.tmp rfl) (.tmp rfl) rfl (LS.trans (LG.trans (LG.kin _) (lg_digest_Hash_state y6) (by decide)) (LS.arrS e_x3) (LS.trans (LG.kin _) (ls_digest_Hash_state y6 x3) (LS.kin _ _))) rfl) fun _ a37 w37 s37 => ?_; clear s36
          refine wpList_nil ?_
          refine in_normal ?_
          refine then_normal ?_
          refine hK14 _ _ ?_
          have s38 := s37.sub (.cons (t := 0) rfl (.cons (t := 7) rfl (.cons (t := 144) rfl (.cons (t := 100001) rfl .nil)))); clear s37
          refine wp_region_lit ?_
          refine seq_op s38 rfl rfl (of_decide_eq_true rfl) (ob_add rfl (.tmp rfl) (opd_int rfl)) fun a39 w39 s39 => ?_; clear s38
          refine seq_op s39 rfl rfl (of_decide_eq_true rfl) (ob_move rfl (.tmp rfl)) fun a40 w40 s40 => ?_; clear s39
          refine wpList_nil ?_
          refine then_normal ?_
          exact hK11 ((iadd .i64 y5 (1 : Int)), { y6 with state := x3 }) _ _ h13 (s40.sub (.cons rfl (.cons rfl (.cons rfl (.cons rfl .nil)))))
        · replace h6 := ite_f hc1 h6
          have h14 := h6; clear h6
          refine wp_exit ?_
          refine (then_exit (then_exit (in_here ?_)))
          refine then_normal ?_
          have s41 := St.drop (A := []) s31; clear s31
          exact hj4 y6 _ _ h14 (s41.sub (.cons rfl (.cons rfl .nil)))
      refine wp_block ?_
      refine wp_loop_fuel (fun m (q : Int × (List Int)) => digest_Hash_take.l2 k y2 p1 m q.1 q.2) r (fun _ => rfl) (fun q a w => ∃ (b2 : Nat), St ⟨164, w0, ok, (idsOf [BF b0 U (kin pre k_digest_Hash post q1 q2) p1])⟩ [BF b2 31 (karr 8 (kint .u32)) q.2, BF b1 39 (karr 64 (kint .u32)) y2, BF b0 U (kin pre k_digest_Hash post q1 q2) p1] [(0, (ptrB b0 pre.length)), (2, (ptrB b1 0)), (7, (ptrB b2 0)), (72, ((karr 64 (kint .u32)).V G_digest_rounds)), (73, ((kint .i64).V q.1)), (100001, (known (.pointer (some ⟨1, 0, none⟩)) (ptrTo (karr 64 (kint .u32)) G_digest_rounds)))] a w) ?_ k ((0 : Int), p1.state) _ _ h2 ⟨b2, (s20.sub (.cons rfl (.cons rfl (.cons rfl (.cons rfl (.cons rfl (.cons rfl .nil)))))))⟩
      rintro n2 ⟨y7, y8⟩ a42 w42 h15 ⟨b2, s42⟩ K16 hK16
      replace h15 : digest_Hash_take.l2 k y2 p1 (n2 + 1) y7 y8 = some r := h15; rw [digest_Hash_take.l2] at h15
      have h16 := h15; clear h15
      refine wp_seq_k fun K17 hK17 => ?_
      refine wp_region_lit ?_
      refine seq_op s42 rfl rfl (of_decide_eq_true rfl) (ob_lss rfl (.tmp rfl) (opd_int rfl)) fun a43 w43 s43 => ?_; clear s42
      refine wpList_nil ?_
      refine then_normal ?_
      refine hK17 _ _ ?_
      have s44 := s43.sub (.cons (t := 0) rfl (.cons (t := 2) rfl (.cons (t := 7) rfl (.cons (t := 72) rfl (.cons (t := 73) rfl (.cons (t := 74) rfl (.cons (t := 100001) rfl .nil))))))); clear s43
      refine wp_seq_k fun K18 hK18 => ?_
      refine cond_split s44 (.tmp rfl) (fun hc2 => ?_) (fun hc2 => ?_)
      · replace h16 := ite_t hc2 h16
        have h17 := h16; clear h16
        refine wp_skip ?_
        refine then_normal ?_
        refine hK18 _ _ ?_
        have s45 := s44.sub (.cons (t := 0) rfl (.cons (t := 2) rfl (.cons (t := 7) rfl (.cons (t := 72) rfl (.cons (t := 73) rfl (.cons (t := 100001) rfl .nil)))))); clear s44
        refine wp_seq_k fun K19 hK19 => ?_
        refine wp_block ?_
        refine wp_seq_k fun K20 hK20 => ?_
        refine wp_region_lit ?_
        refine seq_op s45 rfl rfl (of_decide_eq_true rfl) (ob_move rfl (.tmp rfl)) fun a46 w46 s46 => ?_; clear s45
        obtain ⟨x4, e_x4, h18⟩ := bind_some h17; clear h17
        obtain ⟨g4, h19⟩ := guard_some h18; clear h18
        refine seq_op s46 rfl rfl (of_decide_eq_true rfl) (ob_index rfl Tryd.underlying39 tk30 (.tmp rfl) (.tmp rfl) g4 e_x4) fun a47 w47 s47 => ?_; clear s46
        refine seq_op s47 rfl rfl (of_decide_eq_true rfl) (ob_assign rfl (.tmp rfl)) fun a48 w48 s48 => ?_; clear s47
        refine seq_op s48 rfl rfl (of_decide_eq_true rfl) (ob_assign rfl (.tmp rfl)) fun a49 w49 s49 => ?_; clear s48
        refine wpList_nil ?_
        refine then_normal ?_
        refine hK20 _ _ ?_
        have s50 := s49.sub (.cons (t := 0) rfl (.cons (t := 2) rfl (.cons (t := 7) rfl (.cons (t := 8) rfl (.cons (t := 9) rfl (.cons (t := 72) rfl (.cons (t := 73) rfl (.cons (t := 100001) rfl .nil)))))))); clear s49
        refine wp_seq_k fun K21 hK21 => ?_
        obtain ⟨x5, e_x5, h20⟩ := bind_some h19; clear h19
        obtain ⟨x6, e_x6, h21⟩ := bind_some h20; clear h20
        obtain ⟨x7, e_x7, h22⟩ := bind_some h21; clear h21
        obtain ⟨x8, e_x8, h23⟩ := bind_some h22; clear h22
        obtain ⟨x9, e_x9, h24⟩ := bind_some h23; clear h23
        obtain ⟨x10, e_x10, h25⟩ := bind_some h24; clear h24
        obtain ⟨x11, e_x11, h26⟩ := bind_some h25; clear h25
        obtain ⟨x12, e_x12, h27⟩ := bind_some h26; clear h26; replace e_x12 := Option.some.inj e_x12
        obtain ⟨g5, h28⟩ := guard_some h27; clear h27
        obtain ⟨x13, e_x13, h29⟩ := bind_some h28; clear h28
        refine wp_drawn (Fs := [(ptrB b2 ((7 : Int).toNat * 1)), ((kint .u32).V x5), (ptrB b2 ((4 : Int).toNat * 1)), ((kint .u32).V x6), ((kint .u32).V x7), ((kint .u32).V (iadd .u32 x5 x7)), (ptrB b2 ((4 : Int).toNat * 1)), ((kint .u32).V x8), (ptrB b2 ((5 : Int).toNat * 1)), ((kint .u32).V x9), ((kint .u32).V (iand .u32 x8 x9)), (ptrB b2 ((4 : Int).toNat * 1)), ((kint .u32).V x10), ((kint .u32).V (inot .u32 x10)), (ptrB b2 ((6 : Int).toNat * 1)), ((kint .u32).V x11), ((kint .u32).V (iand .u32 (inot .u32 x10) x11)), ((kint .u32).V (ixor .u32 (iand .u32 x8 x9) (iand .u32 (inot .u32 x10) x11))), ((kint .u32).V x12), ((kint .u32).V x4), ((kint .u32).V (iadd .u32 x12 x4)), ((kint .i64).V y7), (ptrB b1 (y7.toNat * 1)), ((kint .u32).V x13), ((kint .u32).V (iadd .u32 (iadd .u32 x12 x4) x13)), ((kint .u32).V (iadd .u32 (iadd .u32 x12 x4) x13))]) (bits := [0, 1, 0, 4, 12, 31, 0, 64, 0, 256, 960, 0, 2048, 6144, 0, 16384, 63488, 131008, 262143, 0, 1048575, 0, 2097152, 6291456, 16777215, 33554431]) (m := 26) mx s50 (by kernel_rfl) rfl (ops_cons (.plain _ (Av.old (t := 7) rfl rfl (Av.old (t := 100001) rfl rfl Av.nil)) rfl rfl (ob_indexAddr rfl Tryd.underlying31 sz30 (.tmp rfl) (opd_int rfl) (by decide) (by decide) (Nat.zero_add _))) (ops_cons (.plain _ (Av.new (j := 0) rfl rfl rfl (Av.old (t := 100001) rfl rfl Av.nil)) rfl rfl (ob_load rfl tk30 (.tmp rfl) (List.Mem.head _) (LG.arrA e_x5))) (ops_cons (.plain _ (Av.old (t := 7) rfl rfl (Av.old (t := 100001) rfl rfl Av.nil)) rfl rfl (ob_indexAddr rfl Tryd.underlying31 sz30 (.tmp rfl) (opd_int rfl) (by decide) (by decide) (Nat.zero_add _))) (ops_cons (.plain _ (Av.new (j := 2) rfl rfl rfl (Av.old (t := 100001) rfl rfl Av.nil)) rfl rfl (ob_load rfl tk30 (.tmp rfl) (List.Mem.head _) (LG.arrA e_x6))) (ops_cons (.plain _ (Av.new (j := 3) rfl rfl rfl (Av.old (t := 100001) rfl rfl Av.nil)) rfl rfl (ob_calls rfl hb70 (fun a w s => c_digest_spin k _ _ _ _ _ e_x7 _ _ _ _ _ _ (s.arg (.tmp rfl)) (s.arg (opd_int rfl)) (s.arg (opd_int rfl)) (s.arg (opd_int rfl))))) (ops_cons (.plain _ (Av.new (j := 1) rfl rfl rfl (Av.new (j := 4) rfl rfl rfl (Av.old (t := 100001) rfl rfl Av.nil))) rfl rfl (ob_add rfl (.tmp rfl) (.tmp rfl))) (ops_cons (.plain _ (Av.old (t := 7) rfl rfl (Av.old (t := 100001) rfl rfl Av.nil)) rfl rfl (ob_indexAddr rfl Tryd.underlying31 sz30 (.tmp rfl) (opd_int rfl) (by decide) (by decide) (Nat.zero_add _))) (ops_cons (.plain _ (Av.new (j := 6) rfl rfl rfl (Av.old (t := 100001) rfl rfl Av.nil)) rfl rfl (ob_load rfl tk30 (.tmp rfl) (List.Mem.head _) (LG.arrA e_x8))) (ops_cons (.plain _ (Av.old (t := 7) rfl rfl (Av.old (t := 100001) rfl rfl Av.nil)) rfl rfl (ob_indexAddr rfl Tryd.underlying31 sz30 (.tmp rfl) (opd_int rfl) (by decide) (by decide) (Nat.zero_add _))) (ops_cons (.plain _ (Av.new (j := 8) rfl rfl rfl (Av.old (t := 100001) rfl rfl Av.nil)) rfl rfl (ob_load rfl tk30 (.tmp rfl) (List.Mem.head _) (LG.arrA e_x9))) (ops_cons (.plain _ (Av.new (j := 7) rfl rfl rfl (Av.new (j := 9) rfl rfl rfl (Av.old (t := 100001) rfl rfl Av.nil))) rfl rfl (ob_and rfl (.tmp rfl) (.tmp rfl))) (ops_cons (.plain _ (Av.old (t := 7) rfl rfl (Av.old (t := 100001) rfl rfl Av.nil)) rfl rfl (ob_indexAddr rfl Tryd.underlying31 sz30 (.tmp rfl) (opd_int rfl) (by decide) (by decide) (Nat.zero_add _))) (ops_cons (.plain _ (Av.new (j := 11) rfl rfl rfl (Av.old (t := 100001) rfl rfl Av.nil)) rfl rfl (ob_load rfl tk30 (.tmp rfl) (List.Mem.head _) (LG.arrA e_x10))) (ops_cons (.plain _ (Av.new (j := 12) rfl rfl rfl (Av.old (t := 100001) rfl rfl Av.nil)) rfl rfl (ob_xor1 rfl (.tmp rfl))) (ops_cons (.plain _ (Av.old (t := 7) rfl rfl (Av.old (t := 100001) rfl rfl Av.nil)) rfl rfl (ob_indexAddr rfl Tryd.underlying31 sz30 (.tmp rfl) (opd_int rfl) (by decide) (by decide) (Nat.zero_add _))) (ops_cons (.plain _ (Av.new (j := 14) rfl rfl rfl (Av.old (t := 100001) rfl rfl Av.nil)) rfl rfl (ob_load rfl tk30 (.tmp rfl) (List.Mem.head _) (LG.arrA e_x11))) (ops_cons (.plain _ (Av.new (j := 13) rfl rfl rfl (Av.new (j := 15) rfl rfl rfl (Av.old (t := 100001) rfl rfl Av.nil))) rfl rfl (ob_and rfl (.tmp rfl) (.tmp rfl))) (ops_cons (.plain _ (Av.new (j := 10) rfl rfl rfl (Av.new (j := 16) rfl rfl rfl (Av.old (t := 100001) rfl rfl Av.nil))) rfl rfl (ob_xor rfl (.tmp rfl) (.tmp rfl))) (ops_cons (.plain _ (Av.new (j := 5) rfl rfl rfl (Av.new (j := 17) rfl rfl rfl (Av.old (t := 100001) rfl rfl Av.nil))) rfl rfl ((ob_add rfl (.tmp rfl) (.tmp rfl)).nm e_x12)) (ops_cons (.plain _ (Av.old (t := 9) rfl rfl (Av.old (t := 100001) rfl rfl Av.nil)) rfl rfl (ob_move rfl (.tmp rfl))) (ops_cons (.plain _ (Av.new (j := 18) rfl rfl rfl (Av.new (j := 19) rfl rfl rfl (Av.old (t := 100001) rfl rfl Av.nil))) rfl rfl (ob_add rfl (.tmp rfl) (.tmp rfl))) (ops_cons (.plain _ (Av.old (t := 8) rfl rfl (Av.old (t := 100001) rfl rfl Av.nil)) rfl rfl (ob_move rfl (.tmp rfl))) (ops_cons (.plain _ (Av.old (t := 2) rfl rfl (Av.new (j := 21) rfl rfl rfl (Av.old (t := 100001) rfl rfl Av.nil))) rfl rfl (ob_indexAddr rfl Tryd.underlying39 sz30 (.tmp rfl) (.tmp rfl) g5.1 g5.2 (Nat.zero_add _))) (ops_cons (.plain _ (Av.new (j := 22) rfl rfl rfl (Av.old (t := 100001) rfl rfl Av.nil)) rfl rfl (ob_load rfl tk30 (.tmp rfl) (List.Mem.tail _ (List.Mem.head _)) (LG.arrA e_x13))) (ops_cons (.plain _ (Av.new (j := 20) rfl rfl rfl (Av.new (j := 23) rfl rfl rfl (Av.old (t := 100001) rfl rfl Av.nil))) rfl rfl (ob_add rfl (.tmp rfl) (.tmp rfl))) (ops_cons (.plain _ (Av.new (j := 24) rfl rfl rfl (Av.old (t := 100001) rfl rfl Av.nil)) rfl rfl (ob_assign rfl (.tmp rfl))) ops_nil)))))))))))))))))))))))))) (out_old (t := 0) rfl rfl (out_old (t := 2) rfl rfl (out_old (t := 7) rfl rfl (out_new (i := 25) (by decide) rfl rfl (out_old (t := 72) rfl rfl (out_old (t := 73) rfl rfl (out_old (t := 100001) rfl rfl out_nil))))))) fun a51 w51 s51 => ?_; clear s50
        refine wpList_nil ?_
        refine then_normal ?_
        refine hK21 _ _ ?_
        have s52 := s51.sub (.cons (t := 0) rfl (.cons (t := 2) rfl (.cons (t := 7) rfl (.cons (t := 10) rfl (.cons (t := 72) rfl (.cons (t := 73) rfl (.cons (t := 100001) rfl .nil))))))); clear s51
        refine wp_seq_k fun K22 hK22 => ?_
        obtain ⟨x14, e_x14, h30⟩ := bind_some h29; clear h29
        obtain ⟨x15, e_x15, h31⟩ := bind_some h30; clear h30
        obtain ⟨x16, e_x16, h32⟩ := bind_some h31; clear h31
        obtain ⟨x17, e_x17, h33⟩ := bind_some h32; clear h32
        obtain ⟨x18, e_x18, h34⟩ := bind_some h33; clear h33
        obtain ⟨x19, e_x19, h35⟩ := bind_some h34; clear h34
        obtain ⟨x20, e_x20, h36⟩ := bind_some h35; clear h35
        obtain ⟨x21, e_x21, h37⟩ := bind_some h36; clear h36
        obtain ⟨x22, e_x22, h38⟩ := bind_some h37; clear h37; replace e_x22 := Option.some.inj e_x22
        refine wp_drawn (Fs := [(ptrB b2 ((0 : Int).toNat * 1)), ((kint .u32).V x14), ((kint .u32).V x15), (ptrB b2 ((0 : Int).toNat * 1)), ((kint .u32).V x16), (ptrB b2 ((1 : Int).toNat * 1)), ((kint .u32).V x17), ((kint .u32).V (iand .u32 x16 x17)), (ptrB b2 ((0 : Int).toNat * 1)), ((kint .u32).V x18), (ptrB b2 ((2 : Int).toNat * 1)), ((kint .u32).V x19), ((kint .u32).V (iand .u32 x18 x19)), ((kint .u32).V (ixor .u32 (iand .u32 x16 x17) (iand .u32 x18 x19))), (ptrB b2 ((1 : Int).toNat * 1)), ((kint .u32).V x20), (ptrB b2 ((2 : Int).toNat * 1)), ((kint .u32).V x21), ((kint .u32).V (iand .u32 x20 x21)), ((kint .u32).V x22), ((kint .u32).V (iadd .u32 x15 x22)), ((kint .u32).V (iadd .u32 x15 x22))]) (bits := [0, 1, 3, 0, 8, 0, 32, 120, 0, 256, 0, 1024, 3840, 8184, 0, 16384, 0, 65536, 245760, 524280, 1048575, 2097151]) (m := 22) mx s52 (by kernel_rfl) rfl (ops_cons (.plain _ (Av.old (t := 7) rfl rfl (Av.old (t := 100001) rfl rfl Av.nil)) rfl rfl (ob_indexAddr rfl Tryd.underlying31 sz30 (.tmp rfl) (opd_int rfl) (by decide) (by decide) (Nat.zero_add _))) (ops_cons (.plain _ (Av.new (j := 0) rfl rfl rfl (Av.old (t := 100001) rfl rfl Av.nil)) rfl rfl (ob_load rfl tk30 (.tmp rfl) (List.Mem.head _) (LG.arrA e_x14))) (ops_cons (.plain _ (Av.new (j := 1) rfl rfl rfl (Av.old (t := 100001) rfl rfl Av.nil)) rfl rfl (ob_calls rfl hb70 (fun a w s => c_digest_spin k _ _ _ _ _ e_x15 _ _ _ _ _ _ (s.arg (.tmp rfl)) (s.arg (opd_int rfl)) (s.arg (opd_int rfl)) (s.arg (opd_int rfl))))) (ops_cons (.plain _ (Av.old (t := 7) rfl rfl (Av.old (t := 100001) rfl rfl Av.nil)) rfl rfl (ob_indexAddr rfl Tryd.underlying31 sz30 (.tmp rfl) (opd_int rfl) (by decide) (by decide) (Nat.zero_add _))) (ops_cons (.plain _ (Av.new (j := 3) rfl rfl rfl (Av.old (t := 100001) rfl rfl Av.nil)) rfl rfl (ob_load rfl tk30 (.tmp rfl) (List.Mem.head _) (LG.arrA e_x16))) (ops_cons (.plain _ (Av.old (t := 7) rfl rfl (Av.old (t := 100001) rfl rfl Av.nil)) rfl rfl (ob_indexAddr rfl Tryd.underlying31 sz30 (.tmp rfl) (opd_int rfl) (by decide) (by decide) (Nat.zero_add _))) (ops_cons (.plain _ (Av.new (j := 5) rfl rfl rfl (Av.old (t := 100001) rfl rfl Av.nil)) rfl rfl (ob_load rfl tk30 (.tmp rfl) (List.Mem.head _) (LG.arrA e_x17))) (ops_cons (.plain _ (Av.new (j := 4) rfl rfl rfl (Av.new (j := 6) rfl rfl rfl (Av.old (t := 100001) rfl rfl Av.nil))) rfl rfl (ob_and rfl (.tmp rfl) (.tmp rfl))) (ops_cons (.plain _ (Av.old (t := 7) rfl rfl (Av.old (t := 100001) rfl rfl Av.nil)) rfl rfl (ob_indexAddr rfl Tryd.underlying31 sz30 (.tmp rfl) (opd_int rfl) (by decide) (by decide) (Nat.zero_add _))) (ops_cons (.plain _ (Av.new (j := 8) rfl rfl rfl (Av.old (t := 100001) rfl rfl Av.nil)) rfl rfl (ob_load rfl tk30 (.tmp rfl) (List.Mem.head _) (LG.arrA e_x18))) (ops_cons (.plain _ (Av.old (t := 7) rfl rfl (Av.old (t := 100001) rfl rfl Av.nil)) rfl rfl (ob_indexAddr rfl Tryd.underlying31 sz30 (.tmp rfl) (opd_int rfl) (by decide) (by decide) (Nat.zero_add _))) (ops_cons (.plain _ (Av.new (j := 10) rfl rfl rfl (Av.old (t := 100001) rfl rfl Av.nil)) rfl rfl (ob_load rfl tk30 (.tmp rfl) (List.Mem.head _) (LG.arrA e_x19))) (ops_cons (.plain _ (Av.new (j := 9) rfl rfl rfl (Av.new (j := 11) rfl rfl rfl (Av.old (t := 100001) rfl rfl Av.nil))) rfl rfl (ob_and rfl (.tmp rfl) (.tmp rfl))) (ops_cons (.plain _ (Av.new (j := 7) rfl rfl rfl (Av.new (j := 12) rfl rfl rfl (Av.old (t := 100001) rfl rfl Av.nil))) rfl rfl (ob_xor rfl (.tmp rfl) (.tmp rfl))) (ops_cons (.plain _ (Av.old (t := 7) rfl rfl (Av.old (t := 100001) rfl rfl Av.nil)) rfl rfl (ob_indexAddr rfl Tryd.underlying31 sz30 (.tmp rfl) (opd_int rfl) (by decide) (by decide) (Nat.zero_add _))) (ops_cons (.plain _ (Av.new (j := 14) rfl rfl rfl (Av.old (t := 100001) rfl rfl Av.nil)) rfl rfl (ob_load rfl tk30 (.tmp rfl) (List.Mem.head _) (LG.arrA e_x20))) (ops_cons (.plain _ (Av.old (t := 7) rfl rfl (Av.old (t := 100001) rfl rfl Av.nil)) rfl rfl (ob_indexAddr rfl Tryd.underlying31 sz30 (.tmp rfl) (opd_int rfl) (by decide) (by decide) (Nat.zero_add _))) (ops_cons (.plain _ (Av.new (j := 16) rfl rfl rfl (Av.old (t := 100001) rfl rfl Av.nil)) rfl rfl (ob_load rfl tk30 (.tmp rfl) (List.Mem.head _) (LG.arrA e_x21))) (ops_cons (.plain _ (Av.new (j := 15) rfl rfl rfl (Av.new (j := 17) rfl rfl rfl (Av.old (t := 100001) rfl rfl Av.nil))) rfl rfl (ob_and rfl (.tmp rfl) (.tmp rfl))) (ops_cons (.plain _ (Av.new (j := 13) rfl rfl rfl (Av.new (j := 18) rfl rfl rfl (Av.old (t := 100001) rfl rfl Av.nil))) rfl rfl ((ob_xor rfl (.tmp rfl) (.tmp rfl)).nm e_x22)) (ops_cons (.plain _ (Av.new (j := 2) rfl rfl rfl (Av.new (j := 19) rfl rfl rfl (Av.old (t := 100001) rfl rfl Av.nil))) rfl rfl (ob_add rfl (.tmp rfl) (.tmp rfl))) (ops_cons (.plain _ (Av.new (j := 20) rfl rfl rfl (Av.old (t := 100001) rfl rfl Av.nil)) rfl rfl (ob_assign rfl (.tmp rfl))) ops_nil)))))))))))))))))))))) (out_old (t := 0) rfl rfl (out_old (t := 2) rfl rfl (out_old (t := 7) rfl rfl (out_old (t := 10) rfl rfl (out_new (i := 21) (by decide) rfl rfl (out_old (t := 72) rfl rfl (out_old (t := 73) rfl rfl (out_old (t := 100001) rfl rfl out_nil)))))))) fun a53 w53 s53 => ?_; clear s52
        refine wpList_nil ?_
        refine then_normal ?_
        refine hK22 _ _ ?_
        have s54 := s53.sub (.cons (t := 0) rfl (.cons (t := 2) rfl (.cons (t := 7) rfl (.cons (t := 10) rfl (.cons (t := 11) rfl (.cons (t := 72) rfl (.cons (t := 73) rfl (.cons (t := 100001) rfl .nil)))))))); clear s53
        refine wp_region_lit ?_
        refine seq_op s54 rfl rfl (of_decide_eq_true rfl) (ob_move rfl (.tmp rfl)) fun a55 w55 s55 => ?_; clear s54
        refine seq_op s55 rfl rfl (of_decide_eq_true rfl) (ob_move rfl (.tmp rfl)) fun a56 w56 s56 => ?_; clear s55
        refine seq_op s56 rfl rfl (of_decide_eq_true rfl) (ob_add rfl (.tmp rfl) (.tmp rfl)) fun a57 w57 s57 => ?_; clear s56
        refine seq_op s57 rfl rfl (of_decide_eq_true rfl) (ob_indexAddr rfl Tryd.underlying31 sz30 (.tmp rfl) (opd_int rfl) (by decide) (by decide) (Nat.zero_add _)) fun a58 w58 s58 => ?_; clear s57
        obtain ⟨x23, e_x23, h39⟩ := bind_some h38; clear h38
        refine seq_op s58 rfl rfl (of_decide_eq_true rfl) (ob_load rfl tk30 (.tmp rfl) (List.Mem.head _) (LG.arrA e_x23)) fun a59 w59 s59 => ?_; clear s58
        refine seq_op s59 rfl rfl (of_decide_eq_true rfl) (ob_indexAddr rfl Tryd.underlying31 sz30 (.tmp rfl) (opd_int rfl) (by decide) (by decide) (Nat.zero_add _)) fun a60 w60 s60 => ?_; clear s59
        obtain ⟨x24, e_x24, h40⟩ := bind_some h39; clear h39
        refine seq_op s60 rfl rfl (of_decide_eq_true rfl) (ob_load rfl tk30 (.tmp rfl) (List.Mem.head _) (LG.arrA e_x24)) fun a61 w61 s61 => ?_; clear s60
        refine seq_op s61 rfl rfl (of_decide_eq_true rfl) (ob_indexAddr rfl Tryd.underlying31 sz30 (.tmp rfl) (opd_int rfl) (by decide) (by decide) (Nat.zero_add _)) fun a62 w62 s62 => ?_; clear s61
        obtain ⟨x25, e_x25, h41⟩ := bind_some h40; clear h40
        refine seq_op s62 rfl rfl (of_decide_eq_true rfl) (ob_load rfl tk30 (.tmp rfl) (List.Mem.head _) (LG.arrA e_x25)) fun a63 w63 s63 => ?_; clear s62
        refine seq_op s63 rfl rfl (of_decide_eq_true rfl) (ob_indexAddr rfl Tryd.underlying31 sz30 (.tmp rfl) (opd_int rfl) (by decide) (by decide) (Nat.zero_add _)) fun a64 w64 s64 => ?_; clear s63
        obtain ⟨x26, e_x26, h42⟩ := bind_some h41; clear h41
        refine seq_op s64 rfl rfl (of_decide_eq_true rfl) (ob_load rfl tk30 (.tmp rfl) (List.Mem.head _) (LG.arrA e_x26)) fun a65 w65 s65 => ?_; clear s64
        refine seq_op s65 rfl rfl (of_decide_eq_true rfl) (ob_move rfl (.tmp rfl)) fun a66 w66 s66 => ?_; clear s65
        refine seq_op s66 rfl rfl (of_decide_eq_true rfl) (ob_add rfl (.tmp rfl) (.tmp rfl)) fun a67 w67 s67 => ?_; clear s66
        refine seq_op s67 rfl rfl (of_decide_eq_true rfl) (ob_indexAddr rfl Tryd.underlying31 sz30 (.tmp rfl) (opd_int rfl) (by decide) (by decide) (Nat.zero_add _)) fun a68 w68 s68 => ?_; clear s67
        obtain ⟨x27, e_x27, h43⟩ := bind_some h42; clear h42
        refine seq_op s68 rfl rfl (of_decide_eq_true rfl) (ob_load rfl tk30 (.tmp rfl) (List.Mem.head _) (LG.arrA e_x27)) fun a69 w69 s69 => ?_; clear s68
        refine seq_op s69 rfl rfl (of_decide_eq_true rfl) (ob_indexAddr rfl Tryd.underlying31 sz30 (.tmp rfl) (opd_int rfl) (by decide) (by decide) (Nat.zero_add _)) fun a70 w70 s70 => ?_; clear s69
        obtain ⟨x28, e_x28, h44⟩ := bind_some h43; clear h43
        refine seq_op s70 rfl rfl (of_decide_eq_true rfl) (ob_load rfl tk30 (.tmp rfl) (List.Mem.head _) (LG.arrA e_x28)) fun a71 w71 s71 => ?_; clear s70
        refine seq_op s71 rfl rfl (of_decide_eq_true rfl) (ob_indexAddr rfl Tryd.underlying31 sz30 (.tmp rfl) (opd_int rfl) (by decide) (by decide) (Nat.zero_add _)) fun a72 w72 s72 => ?_; clear s71
        obtain ⟨x29, e_x29, h45⟩ := bind_some h44; clear h44
        refine seq_op s72 rfl rfl (of_decide_eq_true rfl) (ob_load rfl tk30 (.tmp rfl) (List.Mem.head _) (LG.arrA e_x29)) fun a73 w73 s73 => ?_; clear s72
        obtain ⟨x30, e_x30, h46⟩ := bind_some h45; clear h45; replace e_x30 := Option.some.inj e_x30
        refine seq_op s73 rfl rfl (of_decide_eq_true rfl) (((ob_mkArr (k := (kint .u32)) rfl Tryd.underlying31 zz31 sz30 (Zr.arr 8 (Zr.int .u32)) (.cons (.tmp rfl) rfl (LS.arr' (i := 0) (ys := ([(iadd .u32 (iadd .u32 (iadd .u32 x12 x4) x13) (iadd .u32 x15 x22)), (0 : Int), (0 : Int), (0 : Int), (0 : Int), (0 : Int), (0 : Int), (0 : Int)] : (List Int))) (by simp) (by rfl)) (.cons (.tmp rfl) rfl (LS.arr' (i := 1) (ys := ([(iadd .u32 (iadd .u32 (iadd .u32 x12 x4) x13) (iadd .u32 x15 x22)), x23, (0 : Int), (0 : Int), (0 : Int), (0 : Int), (0 : Int), (0 : Int)] : (List Int))) (by simp) (by rfl)) (.cons (.tmp rfl) rfl (LS.arr' (i := 2) (ys := ([(iadd .u32 (iadd .u32 (iadd .u32 x12 x4) x13) (iadd .u32 x15 x22)), x23, x24, (0 : Int), (0 : Int), (0 : Int), (0 : Int), (0 : Int)] : (List Int))) (by simp) (by rfl)) (.cons (.tmp rfl) rfl (LS.arr' (i := 3) (ys := ([(iadd .u32 (iadd .u32 (iadd .u32 x12 x4) x13) (iadd .u32 x15 x22)), x23, x24, x25, (0 : Int), (0 : Int), (0 : Int), (0 : Int)] : (List Int))) (by simp) (by rfl)) (.cons (.tmp rfl) rfl (LS.arr' (i := 4) (ys := ([(iadd .u32 (iadd .u32 (iadd .u32 x12 x4) x13) (iadd .u32 x15 x22)), x23, x24, x25, (iadd .u32 x26 (iadd .u32 (iadd .u32 x12 x4) x13)), (0 : Int), (0 : Int), (0 : Int)] : (List Int))) (by simp) (by rfl)) (.cons (.tmp rfl) rfl (LS.arr' (i := 5) (ys := ([(iadd .u32 (iadd .u32 (iadd .u32 x12 x4) x13) (iadd .u32 x15 x22)), x23, x24, x25, (iadd .u32 x26 (iadd .u32 (iadd .u32 x12 x4) x13)), x27, (0 : Int), (0 : Int)] : (List Int))) (by simp) (by rfl)) (.cons (.tmp rfl) rfl (LS.arr' (i := 6) (ys := ([(iadd .u32 (iadd .u32 (iadd .u32 x12 x4) x13) (iadd .u32 x15 x22)), x23, x24, x25, (iadd .u32 x26 (iadd .u32 (iadd .u32 x12 x4) x13)), x27, x28, (0 : Int)] : (List Int))) (by simp) (by rfl)) (.cons (.tmp rfl) rfl (LS.arr' (i := 7) (ys := ([(iadd .u32 (iadd .u32 (iadd .u32 x12 x4) x13) (iadd .u32 x15 x22)), x23, x24, x25, (iadd .u32 x26 (iadd .u32 (iadd .u32 x12 x4) x13)), x27, x28, x29] : (List Int))) (by simp) (by rfl)) (.nil _))))))))) : Ob _ _ _ _ _ ((karr 8 (kint .u32)).V ([(iadd .u32 (iadd .u32 (iadd .u32 x12 x4) x13) (iadd .u32 x15 x22)), x23, x24, x25, (iadd .u32 x26 (iadd .u32 (iadd .u32 x12 x4) x13)), x27, x28, x29] : (List Int))))).nm e_x30) fun a74 w74 s74 => ?_; clear s73
        refine seq_opx0 (B' := fun _ => [BF b2 31 (karr 8 (kint .u32)) x30, BF b1 39 (karr 64 (kint .u32)) y2, BF b0 U (kin pre k_digest_Hash post q1 q2) p1]) s74 rfl rfl (ob_store (A := []) rfl tk31 (.tmp rfl) (.tmp rfl) rfl (LS.refl _ _ _) rfl) fun _ a75 w75 s75 => ?_; clear s74
        refine wpList_nil ?_
        refine in_normal ?_
        refine then_normal ?_
        refine hK19 _ _ ?_
        have s76 := s75.sub (.cons (t := 0) rfl (.cons (t := 2) rfl (.cons (t := 7) rfl (.cons (t := 72) rfl (.cons (t := 73) rfl (.cons (t := 100001) rfl .nil)))))); clear s75
        refine wp_region_lit ?_
        refine seq_op s76 rfl rfl (of_decide_eq_true rfl) (ob_add rfl (.tmp rfl) (opd_int rfl)) fun a77 w77 s77 => ?_; clear s76
        refine seq_op s77 rfl rfl (of_decide_eq_true rfl) (ob_move rfl (.tmp rfl)) fun a78 w78 s78 => ?_; clear s77
        refine wpList_nil ?_
        refine then_normal ?_
        exact hK16 ((iadd .i64 y7 (1 : Int)), x30) _ _ h46 ⟨b2, (s78.sub (.cons rfl (.cons rfl (.cons rfl (.cons rfl (.cons rfl (.cons rfl .nil)))))))⟩
      · replace h16 := ite_f hc2 h16
        have h47 := h16; clear h16
        refine wp_exit ?_
        refine (then_exit (then_exit (in_here ?_)))
        refine then_normal ?_
        have s79 := St.drop (A := [_]) s44; clear s44
        exact hj3 y8 b2 _ _ h47 (s79.sub (.cons rfl (.cons rfl (.cons rfl .nil))))
    refine wp_block ?_
    refine wp_loop_fuel (fun m (q : Int × (List Int)) => digest_Hash_take.l3 k p1 m q.1 q.2) r (fun _ => rfl) (fun q a w => St ⟨164, w0, ok, (idsOf [BF b0 U (kin pre k_digest_Hash post q1 q2) p1])⟩ [BF b1 39 (karr 64 (kint .u32)) q.2, BF b0 U (kin pre k_digest_Hash post q1 q2) p1] [(0, (ptrB b0 pre.length)), (2, (ptrB b1 0)), (6, ((kint .i64).V q.1)), (100001, (known (.pointer (some ⟨1, 0, none⟩)) (ptrTo (karr 64 (kint .u32)) G_digest_rounds)))] a w) ?_ k ((16 : Int), y1) _ _ h1 (s9.sub (.cons rfl (.cons rfl (.cons rfl (.cons rfl .nil)))))
    rintro n3 ⟨y9, y10⟩ a80 w80 h48 s80 K23 hK23
    replace h48 : digest_Hash_take.l3 k p1 (n3 + 1) y9 y10 = some r := h48; rw [digest_Hash_take.l3] at h48
    have h49 := h48; clear h48
    refine wp_seq_k fun K24 hK24 => ?_
    refine wp_seq_k fun K25 hK25 => ?_
    refine wp_region_lit ?_
    refine seq_op s80 rfl rfl (of_decide_eq_true rfl) (ob_move rfl (.tmp rfl)) fun a81 w81 s81 => ?_; clear s80
    refine seq_op s81 rfl rfl (of_decide_eq_true rfl) (ob_lss rfl (.tmp rfl) (opd_int rfl)) fun a82 w82 s82 => ?_; clear s81
    refine wpList_nil ?_
    refine then_normal ?_
    refine hK25 _ _ ?_
    have s83 := s82.sub (.cons (t := 0) rfl (.cons (t := 2) rfl (.cons (t := 6) rfl (.cons (t := 42) rfl (.cons (t := 100001) rfl .nil))))); clear s82
    refine cond_split s83 (.tmp rfl) (fun hc3 => ?_) (fun hc3 => ?_)
    · replace h49 := ite_t hc3 h49
      have h50 := h49; clear h49
      refine wp_skip ?_
      refine then_normal ?_
      refine hK24 _ _ ?_
      have s84 := s83.sub (.cons (t := 0) rfl (.cons (t := 2) rfl (.cons (t := 6) rfl (.cons (t := 100001) rfl .nil)))); clear s83
      refine wp_seq_k fun K26 hK26 => ?_
      refine wp_block ?_
      obtain ⟨g6, h51⟩ := guard_some h50; clear h50
      obtain ⟨x31, e_x31, h52⟩ := bind_some h51; clear h51
      obtain ⟨x32, e_x32, h53⟩ := bind_some h52; clear h52
      obtain ⟨g7, h54⟩ := guard_some h53; clear h53
      obtain ⟨x33, e_x33, h55⟩ := bind_some h54; clear h54
      obtain ⟨g8, h56⟩ := guard_some h55; clear h55
      obtain ⟨x34, e_x34, h57⟩ := bind_some h56; clear h56
      obtain ⟨x35, e_x35, h58⟩ := bind_some h57; clear h57
      obtain ⟨g9, h59⟩ := guard_some h58; clear h58
      obtain ⟨x36, e_x36, h60⟩ := bind_some h59; clear h59
      obtain ⟨g10, h61⟩ := guard_some h60; clear h60
      refine wp_drawn (Fs := [((kint .i64).V y9), ((kint .i64).V y9), ((kint .i64).V (isub .i64 y9 (2 : Int))), (ptrB b1 ((isub .i64 y9 (2 : Int)).toNat * 1)), ((kint .u32).V x31), ((kint .u32).V x32), ((kint .i64).V y9), ((kint .i64).V (isub .i64 y9 (7 : Int))), (ptrB b1 ((isub .i64 y9 (7 : Int)).toNat * 1)), ((kint .u32).V x33), ((kint .u32).V (iadd .u32 x32 x33)), ((kint .i64).V y9), ((kint .i64).V (isub .i64 y9 (15 : Int))), (ptrB b1 ((isub .i64 y9 (15 : Int)).toNat * 1)), ((kint .u32).V x34), ((kint .u32).V x35), ((kint .u32).V (iadd .u32 (iadd .u32 x32 x33) x35)), ((kint .i64).V y9), ((kint .i64).V (isub .i64 y9 (16 : Int))), (ptrB b1 ((isub .i64 y9 (16 : Int)).toNat * 1)), ((kint .u32).V x36), ((kint .u32).V (iadd .u32 (iadd .u32 (iadd .u32 x32 x33) x35) x36)), (ptrB b1 (y9.toNat * 1))]) (bits := [0, 0, 2, 6, 14, 30, 0, 64, 192, 448, 1022, 0, 2048, 6144, 14336, 30782, 65534, 0, 131072, 393216, 917504, 2097150, 4194303, 8388607]) (m := 23) mx s84 (by kernel_rfl) rfl (ops_cons (.plain _ (Av.old (t := 6) rfl rfl (Av.old (t := 100001) rfl rfl Av.nil)) rfl rfl (ob_move rfl (.tmp rfl))) (ops_cons (.plain _ (Av.old (t := 6) rfl rfl (Av.old (t := 100001) rfl rfl Av.nil)) rfl rfl (ob_move rfl (.tmp rfl))) (ops_cons (.plain _ (Av.new (j := 1) rfl rfl rfl (Av.old (t := 100001) rfl rfl Av.nil)) rfl rfl (ob_sub rfl (.tmp rfl) (opd_int rfl))) (ops_cons (.plain _ (Av.old (t := 2) rfl rfl (Av.new (j := 2) rfl rfl rfl (Av.old (t := 100001) rfl rfl Av.nil))) rfl rfl (ob_indexAddr rfl Tryd.underlying39 sz30 (.tmp rfl) (.tmp rfl) g6.1 g6.2 (Nat.zero_add _))) (ops_cons (.plain _ (Av.new (j := 3) rfl rfl rfl (Av.old (t := 100001) rfl rfl Av.nil)) rfl rfl (ob_load rfl tk30 (.tmp rfl) (List.Mem.head _) (LG.arrA e_x31))) (ops_cons (.plain _ (Av.new (j := 4) rfl rfl rfl (Av.old (t := 100001) rfl rfl Av.nil)) rfl rfl (ob_calls rfl hb69 (fun a w s => c_digest_turn k _ _ _ _ _ e_x32 _ _ _ _ _ _ (s.arg (.tmp rfl)) (s.arg (opd_int rfl)) (s.arg (opd_int rfl)) (s.arg (opd_int rfl))))) (ops_cons (.plain _ (Av.old (t := 6) rfl rfl (Av.old (t := 100001) rfl rfl Av.nil)) rfl rfl (ob_move rfl (.tmp rfl))) (ops_cons (.plain _ (Av.new (j := 6) rfl rfl rfl (Av.old (t := 100001) rfl rfl Av.nil)) rfl rfl (ob_sub rfl (.tmp rfl) (opd_int rfl))) (ops_cons (.plain _ (Av.old (t := 2) rfl rfl (Av.new (j := 7) rfl rfl rfl (Av.old (t := 100001) rfl rfl Av.nil))) rfl rfl (ob_indexAddr rfl Tryd.underlying39 sz30 (.tmp rfl) (.tmp rfl) g7.1 g7.2 (Nat.zero_add _))) (ops_cons (.plain _ (Av.new (j := 8) rfl rfl rfl (Av.old (t := 100001) rfl rfl Av.nil)) rfl rfl (ob_load rfl tk30 (.tmp rfl) (List.Mem.head _) (LG.arrA e_x33))) (ops_cons (.plain _ (Av.new (j := 5) rfl rfl rfl (Av.new (j := 9) rfl rfl rfl (Av.old (t := 100001) rfl rfl Av.nil))) rfl rfl (ob_add rfl (.tmp rfl) (.tmp rfl))) (ops_cons (.plain _ (Av.old (t := 6) rfl rfl (Av.old (t := 100001) rfl rfl Av.nil)) rfl rfl (ob_move rfl (.tmp rfl))) (ops_cons (.plain _ (Av.new (j := 11) rfl rfl rfl (Av.old (t := 100001) rfl rfl Av.nil)) rfl rfl (ob_sub rfl (.tmp rfl) (opd_int rfl))) (ops_cons (.plain _ (Av.old (t := 2) rfl rfl (Av.new (j := 12) rfl rfl rfl (Av.old (t := 100001) rfl rfl Av.nil))) rfl rfl (ob_indexAddr rfl Tryd.underlying39 sz30 (.tmp rfl) (.tmp rfl) g8.1 g8.2 (Nat.zero_add _))) (ops_cons (.plain _ (Av.new (j := 13) rfl rfl rfl (Av.old (t := 100001) rfl rfl Av.nil)) rfl rfl (ob_load rfl tk30 (.tmp rfl) (List.Mem.head _) (LG.arrA e_x34))) (ops_cons (.plain _ (Av.new (j := 14) rfl rfl rfl (Av.old (t := 100001) rfl rfl Av.nil)) rfl rfl (ob_calls rfl hb69 (fun a w s => c_digest_turn k _ _ _ _ _ e_x35 _ _ _ _ _ _ (s.arg (.tmp rfl)) (s.arg (opd_int rfl)) (s.arg (opd_int rfl)) (s.arg (opd_int rfl))))) (ops_cons (.plain _ (Av.new (j := 10) rfl rfl rfl (Av.new (j := 15) rfl rfl rfl (Av.old (t := 100001) rfl rfl Av.nil))) rfl rfl (ob_add rfl (.tmp rfl) (.tmp rfl))) (ops_cons (.plain _ (Av.old (t := 6) rfl rfl (Av.old (t := 100001) rfl rfl Av.nil)) rfl rfl (ob_move rfl (.tmp rfl))) (ops_cons (.plain _ (Av.new (j := 17) rfl rfl rfl (Av.old (t := 100001) rfl rfl Av.nil)) rfl rfl (ob_sub rfl (.tmp rfl) (opd_int rfl))) (ops_cons (.plain _ (Av.old (t := 2) rfl rfl (Av.new (j := 18) rfl rfl rfl (Av.old (t := 100001) rfl rfl Av.nil))) rfl rfl (ob_indexAddr rfl Tryd.underlying39 sz30 (.tmp rfl) (.tmp rfl) g9.1 g9.2 (Nat.zero_add _))) (ops_cons (.plain _ (Av.new (j := 19) rfl rfl rfl (Av.old (t := 100001) rfl rfl Av.nil)) rfl rfl (ob_load rfl tk30 (.tmp rfl) (List.Mem.head _) (LG.arrA e_x36))) (ops_cons (.plain _ (Av.new (j := 16) rfl rfl rfl (Av.new (j := 20) rfl rfl rfl (Av.old (t := 100001) rfl rfl Av.nil))) rfl rfl (ob_add rfl (.tmp rfl) (.tmp rfl))) (ops_cons (.plain _ (Av.old (t := 2) rfl rfl (Av.new (j := 0) rfl rfl rfl (Av.old (t := 100001) rfl rfl Av.nil))) rfl rfl (ob_indexAddr rfl Tryd.underlying39 sz30 (.tmp rfl) (.tmp rfl) g10.1 g10.2 (Nat.zero_add _))) ops_nil))))))))))))))))))))))) (out_old (t := 0) rfl rfl (out_old (t := 2) rfl rfl (out_old (t := 6) rfl rfl (out_new (i := 21) (by decide) rfl rfl (out_new (i := 22) (by decide) rfl rfl (out_old (t := 100001) rfl rfl out_nil)))))) fun a85 w85 s85 => ?_; clear s84
      obtain ⟨x37, e_x37, h62⟩ := bind_some h61; clear h61
      refine seq_opx0 (B' := fun _ => [BF b1 39 (karr 64 (kint .u32)) x37, BF b0 U (kin pre k_digest_Hash post q1 q2) p1]) s85 rfl rfl (ob_store (A := []) rfl tk30 (.tmp rfl) (.tmp rfl) rfl (LS.arrS e_x37) rfl) fun _ a86 w86 s86 => ?_; clear s85
      refine wpList_nil ?_
      refine in_normal ?_
      refine then_normal ?_
      refine hK26 _ _ ?_
      have s87 := s86.sub (.cons (t := 0) rfl (.cons (t := 2) rfl (.cons (t := 6) rfl (.cons (t := 100001) rfl .nil)))); clear s86
      refine wp_region_lit ?_
      refine seq_op s87 rfl rfl (of_decide_eq_true rfl) (ob_move rfl (.tmp rfl)) fun a88 w88 s88 => ?_; clear s87
      refine seq_op s88 rfl rfl (of_decide_eq_true rfl) (ob_add rfl (.tmp rfl) (opd_int rfl)) fun a89 w89 s89 => ?_; clear s88
      refine seq_op s89 rfl rfl (of_decide_eq_true rfl) (ob_assign rfl (.tmp rfl)) fun a90 w90 s90 => ?_; clear s89
      refine wpList_nil ?_
      refine then_normal ?_
      exact hK23 ((iadd .i64 y9 (1 : Int)), x37) _ _ h62 (s90.sub (.cons rfl (.cons rfl (.cons rfl (.cons rfl .nil)))))
    · replace h49 := ite_f hc3 h49
      have h63 := h49; clear h49
      refine wp_exit ?_
      refine (then_exit (then_exit (in_here ?_)))
      refine then_normal ?_
      exact hj2 y10 _ _ h63 (s83.sub (.cons rfl (.cons rfl (.cons rfl .nil))))
  refine wp_block ?_
  refine wp_loop_fuel (fun m (q : Int × (List Int)) => digest_Hash_take.l4 k p1 m q.1 q.2) r (fun _ => rfl) (fun q a w => ∃ (b1 : Nat), St ⟨164, w0, ok, (idsOf [BF b0 U (kin pre k_digest_Hash post q1 q2) p1])⟩ [BF b1 39 (karr 64 (kint .u32)) q.2, BF b0 U (kin pre k_digest_Hash post q1 q2) p1] [(0, (ptrB b0 pre.length)), (2, (ptrB b1 0)), (13, ((kint .i64).V q.1)), (100001, (known (.pointer (some ⟨1, 0, none⟩)) (ptrTo (karr 64 (kint .u32)) G_digest_rounds)))] a w) ?_ k ((0 : Int), (List.replicate 64 (0 : Int))) _ _ h0 ⟨b1, (s6.sub (.cons rfl (.cons rfl (.cons rfl (.cons rfl .nil)))))⟩
  rintro n4 ⟨y11, y12⟩ a91 w91 h64 ⟨b1, s91⟩ K27 hK27
  replace h64 : digest_Hash_take.l4 k p1 (n4 + 1) y11 y12 = some r := h64; rw [digest_Hash_take.l4] at h64
  have h65 := h64; clear h64
  refine wp_seq_k fun K28 hK28 => ?_
  refine wp_region_lit ?_
  refine seq_op s91 rfl rfl (of_decide_eq_true rfl) (ob_lss rfl (.tmp rfl) (opd_int rfl)) fun a92 w92 s92 => ?_; clear s91
  refine wpList_nil ?_
  refine then_normal ?_
  refine hK28 _ _ ?_
  have s93 := s92.sub (.cons (t := 0) rfl (.cons (t := 2) rfl (.cons (t := 13) rfl (.cons (t := 14) rfl (.cons (t := 100001) rfl .nil))))); clear s92
  refine wp_seq_k fun K29 hK29 => ?_
  refine cond_split s93 (.tmp rfl) (fun hc4 => ?_) (fun hc4 => ?_)
  · replace h65 := ite_t hc4 h65
    have h66 := h65; clear h65
    refine wp_skip ?_
    refine then_normal ?_
    refine hK29 _ _ ?_
    have s94 := s93.sub (.cons (t := 0) rfl (.cons (t := 2) rfl (.cons (t := 13) rfl (.cons (t := 100001) rfl .nil)))); clear s93
    refine wp_seq_k fun K30 hK30 => ?_
    have hj5 : ∀ (y13 : (List Int)) (a : Act) (w : World), (digest_Hash_take.j5 k y11 (digest_Hash_take.l4 k p1 n4)) y13 = some r → St ⟨164, w0, ok, (idsOf [BF b0 U (kin pre k_digest_Hash post q1 q2) p1])⟩ [BF b1 39 (karr 64 (kint .u32)) y13, BF b0 U (kin pre k_digest_Hash post q1 q2) p1] [(0, (ptrB b0 pre.length)), (2, (ptrB b1 0)), (13, ((kint .i64).V y11)), (100001, (known (.pointer (some ⟨1, 0, none⟩)) (ptrTo (karr 64 (kint .u32)) G_digest_rounds)))] a w → K30 a w := by
      intro y13 a95 w95 h67 s95
      unfold digest_Hash_take.j5 at h67
      refine hK30 _ _ ?_
      refine wp_region_lit ?_
      refine seq_op s95 rfl rfl (of_decide_eq_true rfl) (ob_add rfl (.tmp rfl) (opd_int rfl)) fun a96 w96 s96 => ?_; clear s95
      refine seq_op s96 rfl rfl (of_decide_eq_true rfl) (ob_move rfl (.tmp rfl)) fun a97 w97 s97 => ?_; clear s96
      refine wpList_nil ?_
      refine then_normal ?_
      exact hK27 ((iadd .i64 y11 (1 : Int)), y13) _ _ h67 ⟨b1, (s97.sub (.cons rfl (.cons rfl (.cons rfl (.cons rfl .nil)))))⟩
    refine wp_block ?_
    refine wp_seq_k fun K31 hK31 => ?_
    refine wp_region_lit ?_
    refine seq_op s94 rfl rfl (of_decide_eq_true rfl) (ob_move rfl (.tmp rfl)) fun a98 w98 s98 => ?_; clear s94
    refine seq_op s98 rfl rfl (of_decide_eq_true rfl) (ob_assign rfl (.tmp rfl)) fun a99 w99 s99 => ?_; clear s98
    refine wpList_nil ?_
    refine then_normal ?_
    refine hK31 _ _ ?_
    have s100 := s99.sub (.cons (t := 0) rfl (.cons (t := 2) rfl (.cons (t := 3) rfl (.cons (t := 13) rfl (.cons (t := 100001) rfl .nil))))); clear s99
    refine wp_seq_k fun K32 hK32 => ?_
    refine wp_region_lit ?_
    refine seq_op s100 rfl rfl (of_decide_eq_true rfl) (ob_move rfl (.tmp rfl)) fun a101 w101 s101 => ?_; clear s100
    refine seq_op s101 rfl rfl (of_decide_eq_true rfl) (ob_nilCheck rfl (.tmp rfl)) fun a102 w102 s102 => ?_; clear s101
    refine seq_op s102 rfl rfl (of_decide_eq_true rfl) (ob_fieldAddr (off' := pre.length + 9) rfl Tryd.underlying35 rfl sz32 (by decide) (.tmp rfl) rfl) fun a103 w103 s103 => ?_; clear s102
    refine seq_op s103 rfl rfl (of_decide_eq_true rfl) (ob_move rfl (.tmp rfl)) fun a104 w104 s104 => ?_; clear s103
    refine seq_op s104 rfl rfl (of_decide_eq_true rfl) (ob_mul rfl (opd_int rfl) (.tmp rfl)) fun a105 w105 s105 => ?_; clear s104
    refine seq_op s105 rfl rfl (of_decide_eq_true rfl) (ob_move rfl (.tmp rfl)) fun a106 w106 s106 => ?_; clear s105
    refine seq_op s106 rfl rfl (of_decide_eq_true rfl) (ob_mul rfl (opd_int rfl) (.tmp rfl)) fun a107 w107 s107 => ?_; clear s106
    refine seq_op s107 rfl rfl (of_decide_eq_true rfl) (ob_add rfl (.tmp rfl) (opd_int rfl)) fun a108 w108 s108 => ?_; clear s107
    obtain ⟨g11, h68⟩ := guard_some h66; clear h66
    refine seq_op s108 rfl rfl (of_decide_eq_true rfl) (ob_sliceArr rfl Tryd.underlying32 sz5 (.tmp rfl) (.some (.tmp rfl)) (.some (.tmp rfl)) g11) fun a109 w109 s109 => ?_; clear s108
    obtain ⟨x38, e_x38, h69⟩ := bind_some h68; clear h68; replace e_x38 := Option.some.inj e_x38
    refine seq_op s109 rfl rfl (of_decide_eq_true rfl) ((ob_lenSl rfl Tryd.underlying49 (.tmp rfl) (sl_len g11 (by decide))).nm e_x38) fun a110 w110 s110 => ?_; clear s109
    refine seq_op s110 rfl rfl (of_decide_eq_true rfl) (ob_move rfl (opd_int rfl)) fun a111 w111 s111 => ?_; clear s110
    refine wpList_nil ?_
    refine then_normal ?_
    refine hK32 _ _ ?_
    have s112 := s111.sub (.cons (t := 0) rfl (.cons (t := 2) rfl (.cons (t := 3) rfl (.cons (t := 13) rfl (.cons (t := 24) rfl (.cons (t := 25) rfl (.cons (t := 26) rfl (.cons (t := 100001) rfl .nil)))))))); clear s111
    refine wp_block ?_
    refine wp_loop_fuel (fun m (q : Int × (List Int)) => digest_Hash_take.l5 k x38 y11 p1 (digest_Hash_take.l4 k p1 n4) m q.1 q.2) r (fun _ => rfl) (fun q a w => St ⟨164, w0, ok, (idsOf [BF b0 U (kin pre k_digest_Hash post q1 q2) p1])⟩ [BF b1 39 (karr 64 (kint .u32)) q.2, BF b0 U (kin pre k_digest_Hash post q1 q2) p1] [(0, (ptrB b0 pre.length)), (2, (ptrB b1 0)), (3, ((kint .i64).V y11)), (13, ((kint .i64).V y11)), (24, (is (.slice (some ⟨b0, soff 64 (pre.length + 9) (imul .i64 (4 : Int) y11).toNat 1, none⟩) ((iadd .i64 (imul .i64 (4 : Int) y11) (4 : Int)).toNat - (imul .i64 (4 : Int) y11).toNat) (64 - (imul .i64 (4 : Int) y11).toNat)))), (25, ((kint .i64).V x38)), (26, ((kint .i64).V q.1)), (100001, (known (.pointer (some ⟨1, 0, none⟩)) (ptrTo (karr 64 (kint .u32)) G_digest_rounds)))] a w) ?_ k ((0 : Int), y12) _ _ h69 (s112.sub (.cons rfl (.cons rfl (.cons rfl (.cons rfl (.cons rfl (.cons rfl (.cons rfl (.cons rfl .nil)))))))))
    rintro n5 ⟨y14, y15⟩ a113 w113 h70 s113 K33 hK33
    replace h70 : digest_Hash_take.l5 k x38 y11 p1 (digest_Hash_take.l4 k p1 n4) (n5 + 1) y14 y15 = some r := h70; rw [digest_Hash_take.l5] at h70
    have h71 := h70; clear h70
    refine wp_seq_k fun K34 hK34 => ?_
    refine wp_region_lit ?_
    refine seq_op s113 rfl rfl (of_decide_eq_true rfl) (ob_lss rfl (.tmp rfl) (.tmp rfl)) fun a114 w114 s114 => ?_; clear s113
    refine wpList_nil ?_
    refine then_normal ?_
    refine hK34 _ _ ?_
    have s115 := s114.sub (.cons (t := 0) rfl (.cons (t := 2) rfl (.cons (t := 3) rfl (.cons (t := 13) rfl (.cons (t := 24) rfl (.cons (t := 25) rfl (.cons (t := 26) rfl (.cons (t := 27) rfl (.cons (t := 100001) rfl .nil))))))))); clear s114
    refine wp_seq_k fun K35 hK35 => ?_
    refine cond_split s115 (.tmp rfl) (fun hc5 => ?_) (fun hc5 => ?_)
    · replace h71 := ite_t hc5 h71
      have h72 := h71; clear h71
      refine wp_skip ?_
      refine then_normal ?_
      refine hK35 _ _ ?_
      have s116 := s115.sub (.cons (t := 0) rfl (.cons (t := 2) rfl (.cons (t := 3) rfl (.cons (t := 13) rfl (.cons (t := 24) rfl (.cons (t := 25) rfl (.cons (t := 26) rfl (.cons (t := 100001) rfl .nil)))))))); clear s115
      refine wp_seq_k fun K36 hK36 => ?_
      refine wp_block ?_
      refine wp_seq_k fun K37 hK37 => ?_
      refine wp_region_lit ?_
      obtain ⟨g12, h73⟩ := guard_some h72; clear h72
      refine seq_op s116 rfl rfl (of_decide_eq_true rfl) (ob_indexAddrSl rfl Tryd.underlying49 sz5 (.tmp rfl) (.tmp rfl) g12.1 g12.2 (soff_idx g11 g12)) fun a117 w117 s117 => ?_; clear s116
      obtain ⟨x39, e_x39, h74⟩ := bind_some h73; clear h73
      refine seq_op s117 rfl rfl (of_decide_eq_true rfl) (ob_load rfl tk5 (.tmp rfl) (List.Mem.tail _ (List.Mem.head _)) (LG.trans (LG.trans (LG.kin _) (lg_digest_Hash_rest p1) (by decide)) (LG.arrA e_x39) (by decide))) fun a118 w118 s118 => ?_; clear s117
      refine seq_op s118 rfl rfl (of_decide_eq_true rfl) (ob_assign rfl (.tmp rfl)) fun a119 w119 s119 => ?_; clear s118
      refine wpList_nil ?_
      refine then_normal ?_
      refine hK37 _ _ ?_
      have s120 := s119.sub (.cons (t := 0) rfl (.cons (t := 2) rfl (.cons (t := 3) rfl (.cons (t := 5) rfl (.cons (t := 13) rfl (.cons (t := 24) rfl (.cons (t := 25) rfl (.cons (t := 26) rfl (.cons (t := 100001) rfl .nil))))))))); clear s119
      refine wp_region_lit ?_
      refine seq_op s120 rfl rfl (of_decide_eq_true rfl) (ob_move rfl (.tmp rfl)) fun a121 w121 s121 => ?_; clear s120
      refine seq_op s121 rfl rfl (of_decide_eq_true rfl) (ob_move rfl (.tmp rfl)) fun a122 w122 s122 => ?_; clear s121
      obtain ⟨g13, h75⟩ := guard_some h74; clear h74
      refine seq_op s122 rfl rfl (of_decide_eq_true rfl) (ob_indexAddr rfl Tryd.underlying39 sz30 (.tmp rfl) (.tmp rfl) g13.1 g13.2 (Nat.zero_add _)) fun a123 w123 s123 => ?_; clear s122
      obtain ⟨x40, e_x40, h76⟩ := bind_some h75; clear h75
      refine seq_op s123 rfl rfl (of_decide_eq_true rfl) (ob_load rfl tk30 (.tmp rfl) (List.Mem.head _) (LG.arrA e_x40)) fun a124 w124 s124 => ?_; clear s123
      refine seq_op s124 rfl rfl (of_decide_eq_true rfl) (ob_shl rfl (.tmp rfl) (opd_int rfl) (by decide)) fun a125 w125 s125 => ?_; clear s124
      refine seq_op s125 rfl rfl (of_decide_eq_true rfl) (ob_move rfl (.tmp rfl)) fun a126 w126 s126 => ?_; clear s125
      refine seq_op s126 rfl rfl (of_decide_eq_true rfl) (ob_conv rfl _ Tryd.underlying5 Tryd.underlying30 (.tmp rfl)) fun a127 w127 s127 => ?_; clear s126
      refine seq_op s127 rfl rfl (of_decide_eq_true rfl) (ob_or rfl (.tmp rfl) (.tmp rfl)) fun a128 w128 s128 => ?_; clear s127
      obtain ⟨g14, h77⟩ := guard_some h76; clear h76
      refine seq_op s128 rfl rfl (of_decide_eq_true rfl) (ob_indexAddr rfl Tryd.underlying39 sz30 (.tmp rfl) (.tmp rfl) g14.1 g14.2 (Nat.zero_add _)) fun a129 w129 s129 => ?_; clear s128
      obtain ⟨x41, e_x41, h78⟩ := bind_some h77; clear h77
      refine seq_opx0 (B' := fun _ => [BF b1 39 (karr 64 (kint .u32)) x41, BF b0 U (kin pre k_digest_Hash post q1 q2) p1]) s129 rfl rfl (ob_store (A := []) rfl tk30 (.tmp rfl) (.tmp rfl) rfl (LS.arrS e_x41) rfl) fun _ a130 w130 s130 => ?_; clear s129
      refine wpList_nil ?_
      refine in_normal ?_
      refine then_normal ?_
      refine hK36 _ _ ?_
      have s131 := s130.sub (.cons (t := 0) rfl (.cons (t := 2) rfl (.cons (t := 3) rfl (.cons (t := 13) rfl (.cons (t := 24) rfl (.cons (t := 25) rfl (.cons (t := 26) rfl (.cons (t := 100001) rfl .nil)))))))); clear s130
      refine wp_region_lit ?_
      refine seq_op s131 rfl rfl (of_decide_eq_true rfl) (ob_add rfl (.tmp rfl) (opd_int rfl)) fun a132 w132 s132 => ?_; clear s131
      refine seq_op s132 rfl rfl (of_decide_eq_true rfl) (ob_move rfl (.tmp rfl)) fun a133 w133 s133 => ?_; clear s132
      refine wpList_nil ?_
      refine then_normal ?_
      exact hK33 ((iadd .i64 y14 (1 : Int)), x41) _ _ h78 (s133.sub (.cons rfl (.cons rfl (.cons rfl (.cons rfl (.cons rfl (.cons rfl (.cons rfl (.cons rfl .nil)))))))))
    · replace h71 := ite_f hc5 h71
      have h79 := h71; clear h71
      refine wp_exit ?_
      refine (then_exit (then_exit (in_here ?_)))
      refine in_normal ?_
      refine then_normal ?_
      exact hj5 y15 _ _ h79 (s115.sub (.cons rfl (.cons rfl (.cons rfl (.cons rfl .nil)))))
  · replace h65 := ite_f hc4 h65
    have h80 := h65; clear h65
    refine wp_exit ?_
    refine (then_exit (then_exit (in_here ?_)))
    refine then_normal ?_
    exact hj1 y12 b1 _ _ h80 (s93.sub (.cons rfl (.cons rfl (.cons rfl .nil))))

/- 45 (*cabal/digest.Hash).put -/
theorem c_digest_Hash_put (k : Nat) (p1 : digest_Hash) (p2 : Int) (r : digest_Hash) (h0 : digest_Hash_put k p1 p2 = some r) (ok : Ok) (w0 : World) (gl1 : (ptrTo (karr 64 (kint .u32)) G_digest_rounds).holds ok w0 (.pointer (some ⟨1, 0, none⟩))) (z0 : Value) (z1 : Value) (b0 : Nat) (U : TypeId) (pre post : List Value) (q1 : ∀ v, v ∈ pre → v.oneCell' = true) (q2 : ∀ v, v ∈ post → v.oneCell' = true) (l0 : (BF b0 U (kin pre k_digest_Hash post q1 q2) p1).holds ok w0) (d0 : ¬ ok b0) (u0 : (ptrB b0 pre.length).holds ok w0 z0) (u1 : ((kint .u8).V p2).holds ok w0 z1) :
    GivesX Tryd.prog 45 [z0, z1] ok w0 [BF b0 U (kin pre k_digest_Hash post q1 q2) p1] (fun _ : Unit => resFact []) (fun _ => [BF b0 U (kin pre k_digest_Hash post q1 q2) r]) := by
  unfold digest_Hash_put at h0
  refine enterX (N := 27) Tryd.func45 rfl rfl (of_decide_eq_true rfl) (.cons u0 (.cons u1 .nil)) nodOne (ownOne l0) (disOne d0) fun a1 s1 => ?_
  have s2 := s1.keepKnown 100001 gl1 (okInX (disOne d0)); clear s1
  refine wp_seq_k fun K1 hK1 => ?_
  obtain ⟨g1, h1⟩ := guard_some h0; clear h0
  refine wp_drawn (Fs := [(ptrB b0 pre.length), (ptrB b0 pre.length), (ptrB b0 pre.length), (ptrB b0 (pre.length + 73)), ((kint .i64).V p1.many), ((kint .u8).V p2), (ptrB b0 pre.length), (ptrB b0 (pre.length + 9)), (ptrB b0 (pre.length + 9 + p1.many.toNat * 1))]) (bits := [0, 0, 2, 6, 14, 0, 1, 65, 255, 511]) (m := 9) mx s2 (by kernel_rfl) rfl (ops_cons (.plain _ (Av.old (t := 0) rfl rfl (Av.old (t := 100001) rfl rfl Av.nil)) rfl rfl (ob_move rfl (.tmp rfl))) (ops_cons (.plain _ (Av.old (t := 0) rfl rfl (Av.old (t := 100001) rfl rfl Av.nil)) rfl rfl (ob_move rfl (.tmp rfl))) (ops_cons (.plain _ (Av.new (j := 1) rfl rfl rfl (Av.old (t := 100001) rfl rfl Av.nil)) rfl rfl (ob_nilCheck rfl (.tmp rfl))) (ops_cons (.plain _ (Av.new (j := 2) rfl rfl rfl (Av.old (t := 100001) rfl rfl Av.nil)) rfl rfl (ob_fieldAddr (off' := pre.length + 73) rfl Tryd.underlying35 rfl sz3 (by decide) (.tmp rfl) rfl)) (ops_cons (.plain _ (Av.new (j := 3) rfl rfl rfl (Av.old (t := 100001) rfl rfl Av.nil)) rfl rfl (ob_load rfl tk3 (.tmp rfl) (List.Mem.head _) (LG.trans (LG.kin _) (lg_digest_Hash_many p1) (by decide)))) (ops_cons (.plain _ (Av.old (t := 1) rfl rfl (Av.old (t := 100001) rfl rfl Av.nil)) rfl rfl (ob_move rfl (.tmp rfl))) (ops_cons (.plain _ (Av.new (j := 0) rfl rfl rfl (Av.old (t := 100001) rfl rfl Av.nil)) rfl rfl (ob_nilCheck rfl (.tmp rfl))) (ops_cons (.plain _ (Av.new (j := 6) rfl rfl rfl (Av.old (t := 100001) rfl rfl Av.nil)) rfl rfl (ob_fieldAddr (off' := pre.length + 9) rfl Tryd.underlying35 rfl sz32 (by decide) (.tmp rfl) rfl)) (ops_cons (.plain _ (Av.new (j := 4) rfl rfl rfl (Av.new (j := 7) rfl rfl rfl (Av.old (t := 100001) rfl rfl Av.nil))) rfl rfl (ob_indexAddr rfl Tryd.underlying32 sz5 (.tmp rfl) (.tmp rfl) g1.1 g1.2 rfl)) ops_nil))))))))) (out_old (t := 0) rfl rfl (out_new (i := 5) (by decide) rfl rfl (out_new (i := 8) (by decide) rfl rfl (out_old (t := 100001) rfl rfl out_nil)))) fun a3 w3 s3 => ?_; clear s2
  obtain ⟨x1, e_x1, h2⟩ := bind_some h1; clear h1
  refine seq_opx0 (B' := fun _ => [BF b0 U (kin pre k_digest_Hash post q1 q2) ({ p1 with rest := x1 })]) s3 rfl rfl (ob_store (A := []) rfl tk5 (.tmp rfl) (.tmp rfl) rfl (LS.trans (LG.trans (LG.kin _) (lg_digest_Hash_rest p1) (by decide)) (LS.arrS e_x1) (LS.trans (LG.kin _) (ls_digest_Hash_rest p1 x1) (LS.kin _ _))) rfl) fun _ a4 w4 s4 => ?_; clear s3
  refine wpList_nil ?_
  refine then_normal ?_
  refine hK1 _ _ ?_
  have s5 := s4.sub (.cons (t := 0) rfl (.cons (t := 100001) rfl .nil)); clear s4
  refine wp_seq_k fun K2 hK2 => ?_
  refine wp_region_lit ?_
  refine seq_op s5 rfl rfl (of_decide_eq_true rfl) (ob_move rfl (.tmp rfl)) fun a6 w6 s6 => ?_; clear s5
  refine seq_op s6 rfl rfl (of_decide_eq_true rfl) (ob_nilCheck rfl (.tmp rfl)) fun a7 w7 s7 => ?_; clear s6
  refine seq_op s7 rfl rfl (of_decide_eq_true rfl) (ob_fieldAddr (off' := pre.length + 73) rfl Tryd.underlying35 rfl sz3 (by decide) (.tmp rfl) rfl) fun a8 w8 s8 => ?_; clear s7
  refine seq_op s8 rfl rfl (of_decide_eq_true rfl) (ob_load rfl tk3 (.tmp rfl) (List.Mem.head _) (LG.trans (LG.kin _) (lg_digest_Hash_many ({ p1 with rest := x1 })) (by decide))) fun a9 w9 s9 => ?_; clear s8
  refine seq_op s9 rfl rfl (of_decide_eq_true rfl) (ob_add rfl (.tmp rfl) (opd_int rfl)) fun a10 w10 s10 => ?_; clear s9
  refine seq_op s10 rfl rfl (of_decide_eq_true rfl) (ob_nilCheck rfl (.tmp rfl)) fun a11 w11 s11 => ?_; clear s10
  refine seq_op s11 rfl rfl (of_decide_eq_true rfl) (ob_fieldAddr (off' := pre.length + 73) rfl Tryd.underlying35 rfl sz3 (by decide) (.tmp rfl) rfl) fun a12 w12 s12 => ?_; clear s11
  obtain ⟨x2, e_x2, h3⟩ := bind_some h2; clear h2; replace e_x2 := Option.some.inj e_x2
  refine seq_opx0 (B' := fun _ => [BF b0 U (kin pre k_digest_Hash post q1 q2) x2]) s12 rfl rfl (ob_store (A := []) rfl tk3 (.tmp rfl) (.tmp rfl) rfl (LS.trans (LG.kin _) (LS.to (ls_digest_Hash_many ({ p1 with rest := x1 }) (iadd .i64 (({ p1 with rest := x1 }).many) (1 : Int))) e_x2) (LS.kin _ _)) rfl) fun _ a13 w13 s13 => ?_; clear s12
  refine wpList_nil ?_
  refine then_normal ?_
  refine hK2 _ _ ?_
  have s14 := s13.sub (.cons (t := 0) rfl (.cons (t := 100001) rfl .nil)); clear s13
  refine wp_seq_k fun K3 hK3 => ?_
  refine wp_region_lit ?_
  refine seq_op s14 rfl rfl (of_decide_eq_true rfl) (ob_move rfl (.tmp rfl)) fun a15 w15 s15 => ?_; clear s14
  refine seq_op s15 rfl rfl (of_decide_eq_true rfl) (ob_nilCheck rfl (.tmp rfl)) fun a16 w16 s16 => ?_; clear s15
  refine seq_op s16 rfl rfl (of_decide_eq_true rfl) (ob_fieldAddr (off' := pre.length + 73) rfl Tryd.underlying35 rfl sz3 (by decide) (.tmp rfl) rfl) fun a17 w17 s17 => ?_; clear s16
  refine seq_op s17 rfl rfl (of_decide_eq_true rfl) (ob_load rfl tk3 (.tmp rfl) (List.Mem.head _) (LG.trans (LG.kin _) (lg_digest_Hash_many x2) (by decide))) fun a18 w18 s18 => ?_; clear s17
  refine seq_op s18 rfl rfl (of_decide_eq_true rfl) (ob_eql rfl (.tmp rfl) (opd_int rfl)) fun a19 w19 s19 => ?_; clear s18
  refine wpList_nil ?_
  refine then_normal ?_
  refine hK3 _ _ ?_
  have s20 := s19.sub (.cons (t := 0) rfl (.cons (t := 24) rfl (.cons (t := 100001) rfl .nil))); clear s19
  refine cond_split s20 (.tmp rfl) (fun hc1 => ?_) (fun hc1 => ?_)
  · replace h3 := ite_t hc1 h3
    have h4 := h3; clear h3
    refine wp_region_lit ?_
    refine seq_op s20 rfl rfl (of_decide_eq_true rfl) (ob_move rfl (.tmp rfl)) fun a21 w21 s21 => ?_; clear s20
    obtain ⟨x3, e_x3, h5⟩ := bind_some h4; clear h4
    refine seq_opx (B' := fun _ => [BF b0 U (kin pre k_digest_Hash post q1 q2) x3]) s21 rfl rfl (of_decide_eq_true rfl) (ob_callW (A := []) rfl hb63 rfl (LG.kin _) (LS.kin _ _) (by decide) rfl (fun a w s pre post q1 q2 hpl hl hd => c_digest_Hash_take k _ _ e_x3 _ _ (s.env _ _ (show get _ 100001 = _ from rfl)) _ _ _ pre post q1 q2 hl hd (by rw [hpl]; exact s.arg (.tmp rfl)))) fun _ a22 w22 s22 => ?_; clear s21
    refine wpList_nil ?_
    obtain rfl := Option.some.inj h5
    exact leaveX () s22 rfl (.inr rfl) rfl .nil rfl
  · replace h3 := ite_f hc1 h3
    have h6 := h3; clear h3
    refine wp_skip ?_
    obtain rfl := Option.some.inj h6
    exact leaveX () s20 rfl (.inr rfl) rfl .nil rfl

/- 21 (*cabal/digest.Hash).Write -/
theorem c_digest_Hash_Write (k : Nat) (p1 : digest_Hash) (p2 : (List (List Int))) (r : digest_Hash) (h0 : digest_Hash_Write k p1 p2 = some r) (ok : Ok) (w0 : World) (gl0 : (ptrTo (karr 8 (kint .u32)) G_digest_first).holds ok w0 (.pointer (some ⟨0, 0, none⟩))) (gl1 : (ptrTo (karr 64 (kint .u32)) G_digest_rounds).holds ok w0 (.pointer (some ⟨1, 0, none⟩))) (z0 : Value) (z1 : Value) (b0 : Nat) (U : TypeId) (pre post : List Value) (q1 : ∀ v, v ∈ pre → v.oneCell' = true) (q2 : ∀ v, v ∈ post → v.oneCell' = true) (l0 : (BF b0 U (kin pre k_digest_Hash post q1 q2) p1).holds ok w0) (d0 : ¬ ok b0) (u0 : (ptrB b0 pre.length).holds ok w0 z0) (u1 : ((ksl kstr).V p2).holds ok w0 z1) :
    GivesX Tryd.prog 21 [z0, z1] ok w0 [BF b0 U (kin pre k_digest_Hash post q1 q2) p1] (fun _ : Unit => resFact []) (fun _ => [BF b0 U (kin pre k_digest_Hash post q1 q2) r]) := by
  unfold digest_Hash_Write at h0
  refine enterX (N := 39) Tryd.func21 rfl rfl (of_decide_eq_true rfl) (.cons u0 (.cons u1 .nil)) nodOne (ownOne l0) (disOne d0) fun a1 s1 => ?_
  have s2 := s1.keepKnown 100000 gl0 (okInX (disOne d0)); clear s1
  have s3 := s2.keepKnown 100001 gl1 (okInX (disOne d0)); clear s2
  refine wp_seq_k fun K1 hK1 => ?_
  refine wp_seq_k fun K2 hK2 => ?_
  refine wp_region_lit ?_
  refine seq_op s3 rfl rfl (of_decide_eq_true rfl) (ob_move rfl (.tmp rfl)) fun a4 w4 s4 => ?_; clear s3
  refine seq_op s4 rfl rfl (of_decide_eq_true rfl) (ob_ptrNil (p := some _) rfl pt44 (.tmp rfl) opd_is) fun a5 w5 s5 => ?_; clear s4
  refine wpList_nil ?_
  refine then_normal ?_
  refine hK2 _ _ ?_
  have s6 := s5.sub (.cons (t := 0) rfl (.cons (t := 1) rfl (.cons (t := 8) rfl (.cons (t := 100000) rfl (.cons (t := 100001) rfl .nil))))); clear s5
  refine cond_f s6 (.tmp rfl) ?_
  refine wp_skip ?_
  refine then_normal ?_
  refine hK1 _ _ ?_
  have s7 := s6.sub (.cons (t := 0) rfl (.cons (t := 1) rfl (.cons (t := 100000) rfl (.cons (t := 100001) rfl .nil)))); clear s6
  refine wp_seq_k fun K3 hK3 => ?_
  refine wp_region_lit ?_
  refine seq_op s7 rfl rfl (of_decide_eq_true rfl) (ob_move rfl (.tmp rfl)) fun a8 w8 s8 => ?_; clear s7
  obtain ⟨x1, e_x1, h1⟩ := bind_some h0; clear h0
  refine seq_opx (B' := fun _ => [BF b0 U (kin pre k_digest_Hash post q1 q2) x1]) s8 rfl rfl (of_decide_eq_true rfl) (ob_callW (A := []) rfl hb44 rfl (LG.kin _) (LS.kin _ _) (by decide) rfl (fun a w s pre post q1 q2 hpl hl hd => c_digest_Hash_begin k _ _ e_x1 _ _ (s.env _ _ (show get _ 100000 = _ from rfl)) _ _ _ pre post q1 q2 hl hd (by rw [hpl]; exact s.arg (.tmp rfl)))) fun _ a9 w9 s9 => ?_; clear s8
  refine wpList_nil ?_
  refine then_normal ?_
  refine hK3 _ _ ?_
  have s10 := s9.sub (.cons (t := 0) rfl (.cons (t := 1) rfl (.cons (t := 100000) rfl (.cons (t := 100001) rfl .nil)))); clear s9
  refine wp_seq_k fun K4 hK4 => ?_
  refine wp_region_lit ?_
  refine seq_op s10 rfl rfl (of_decide_eq_true rfl) (ob_move rfl (.tmp rfl)) fun a11 w11 s11 => ?_; clear s10
  refine seq_op s11 rfl rfl (of_decide_eq_true rfl) (ob_lens rfl Tryd.underlying22 (.tmp rfl)) fun a12 w12 s12 => ?_; clear s11
  refine seq_op s12 rfl rfl (of_decide_eq_true rfl) (ob_move rfl (opd_int rfl)) fun a13 w13 s13 => ?_; clear s12
  refine wpList_nil ?_
  refine then_normal ?_
  refine hK4 _ _ ?_
  have s14 := s13.sub (.cons (t := 0) rfl (.cons (t := 11) rfl (.cons (t := 12) rfl (.cons (t := 13) rfl (.cons (t := 100000) rfl (.cons (t := 100001) rfl .nil)))))); clear s13
  refine wp_block ?_
  refine wp_loop_fuel (fun m (q : Int × digest_Hash) => digest_Hash_Write.l1 k p2 m q.1 q.2) r (fun _ => rfl) (fun q a w => St ⟨39, w0, ok, (idsOf [BF b0 U (kin pre k_digest_Hash post q1 q2) p1])⟩ [BF b0 U (kin pre k_digest_Hash post q1 q2) q.2] [(0, (ptrB b0 pre.length)), (11, ((ksl kstr).V p2)), (12, ((kint .i64).V (p2.length : Int))), (13, ((kint .i64).V q.1)), (100000, (known (.pointer (some ⟨0, 0, none⟩)) (ptrTo (karr 8 (kint .u32)) G_digest_first))), (100001, (known (.pointer (some ⟨1, 0, none⟩)) (ptrTo (karr 64 (kint .u32)) G_digest_rounds)))] a w) ?_ k ((0 : Int), x1) _ _ h1 (s14.sub (.cons rfl (.cons rfl (.cons rfl (.cons rfl (.cons rfl (.cons rfl .nil)))))))
  rintro n1 ⟨y1, y2⟩ a15 w15 h2 s15 K5 hK5
  replace h2 : digest_Hash_Write.l1 k p2 (n1 + 1) y1 y2 = some r := h2; rw [digest_Hash_Write.l1] at h2
  have h3 := h2; clear h2
  refine wp_seq_k fun K6 hK6 => ?_
  refine wp_region_lit ?_
  refine seq_op s15 rfl rfl (of_decide_eq_true rfl) (ob_lss rfl (.tmp rfl) (.tmp rfl)) fun a16 w16 s16 => ?_; clear s15
  refine wpList_nil ?_
  refine then_normal ?_
  refine hK6 _ _ ?_
  have s17 := s16.sub (.cons (t := 0) rfl (.cons (t := 11) rfl (.cons (t := 12) rfl (.cons (t := 13) rfl (.cons (t := 14) rfl (.cons (t := 100000) rfl (.cons (t := 100001) rfl .nil))))))); clear s16
  refine wp_seq_k fun K7 hK7 => ?_
  refine cond_split s17 (.tmp rfl) (fun hc2 => ?_) (fun hc2 => ?_)
  · replace h3 := ite_t hc2 h3
    have h4 := h3; clear h3
    refine wp_skip ?_
    refine then_normal ?_
    refine hK7 _ _ ?_
    have s18 := s17.sub (.cons (t := 0) rfl (.cons (t := 11) rfl (.cons (t := 12) rfl (.cons (t := 13) rfl (.cons (t := 100000) rfl (.cons (t := 100001) rfl .nil)))))); clear s17
    refine wp_seq_k fun K8 hK8 => ?_
    have hj1 : ∀ (y3 : digest_Hash) (a : Act) (w : World), (digest_Hash_Write.j1 k y1 (digest_Hash_Write.l1 k p2 n1)) y3 = some r → St ⟨39, w0, ok, (idsOf [BF b0 U (kin pre k_digest_Hash post q1 q2) p1])⟩ [BF b0 U (kin pre k_digest_Hash post q1 q2) y3] [(0, (ptrB b0 pre.length)), (11, ((ksl kstr).V p2)), (12, ((kint .i64).V (p2.length : Int))), (13, ((kint .i64).V y1)), (100000, (known (.pointer (some ⟨0, 0, none⟩)) (ptrTo (karr 8 (kint .u32)) G_digest_first))), (100001, (known (.pointer (some ⟨1, 0, none⟩)) (ptrTo (karr 64 (kint .u32)) G_digest_rounds)))] a w → K8 a w := by
      intro y3 a19 w19 h5 s19
      unfold digest_Hash_Write.j1 at h5
      refine hK8 _ _ ?_
      refine wp_region_lit ?_
      refine seq_op s19 rfl rfl (of_decide_eq_true rfl) (ob_add rfl (.tmp rfl) (opd_int rfl)) fun a20 w20 s20 => ?_; clear s19
      refine seq_op s20 rfl rfl (of_decide_eq_true rfl) (ob_move rfl (.tmp rfl)) fun a21 w21 s21 => ?_; clear s20
      refine wpList_nil ?_
      refine then_normal ?_
      exact hK5 ((iadd .i64 y1 (1 : Int)), y3) _ _ h5 (s21.sub (.cons rfl (.cons rfl (.cons rfl (.cons rfl (.cons rfl (.cons rfl .nil)))))))
    refine wp_block ?_
    refine wp_seq_k fun K9 hK9 => ?_
    refine wp_region_lit ?_
    obtain ⟨x2, e_x2, h6⟩ := bind_some h4; clear h4
    refine seq_op s18 rfl rfl (of_decide_eq_true rfl) (ob_indexAddrs rfl Tryd.underlying22 sz9 (.tmp rfl) (.tmp rfl) e_x2) fun a22 w22 s22 => ?_; clear s18
    refine seq_op s22 rfl rfl (of_decide_eq_true rfl) (ob_loadr rfl tk9 (.tmp rfl)) fun a23 w23 s23 => ?_; clear s22
    refine seq_op s23 rfl rfl (of_decide_eq_true rfl) (ob_assign rfl (.tmp rfl)) fun a24 w24 s24 => ?_; clear s23
    refine wpList_nil ?_
    refine then_normal ?_
    refine hK9 _ _ ?_
    have s25 := s24.sub (.cons (t := 0) rfl (.cons (t := 5) rfl (.cons (t := 11) rfl (.cons (t := 12) rfl (.cons (t := 13) rfl (.cons (t := 100000) rfl (.cons (t := 100001) rfl .nil))))))); clear s24
    refine wp_seq_k fun K10 hK10 => ?_
    refine wp_seq_k fun K11 hK11 => ?_
    refine wp_region_lit ?_
    refine seq_op s25 rfl rfl (of_decide_eq_true rfl) (ob_move rfl (.tmp rfl)) fun a26 w26 s26 => ?_; clear s25
    refine seq_op s26 rfl rfl (of_decide_eq_true rfl) (ob_lenStr rfl Tryd.underlying9 (.tmp rfl)) fun a27 w27 s27 => ?_; clear s26
    refine seq_op s27 rfl rfl (of_decide_eq_true rfl) (ob_move rfl (opd_int rfl)) fun a28 w28 s28 => ?_; clear s27
    refine wpList_nil ?_
    refine then_normal ?_
    refine hK11 _ _ ?_
    have s29 := s28.sub (.cons (t := 0) rfl (.cons (t := 5) rfl (.cons (t := 11) rfl (.cons (t := 12) rfl (.cons (t := 13) rfl (.cons (t := 18) rfl (.cons (t := 19) rfl (.cons (t := 100000) rfl (.cons (t := 100001) rfl .nil))))))))); clear s28
    have hj2 : ∀ (y4 : digest_Hash) (a : Act) (w : World), (digest_Hash_Write.j2 k x2 y1 (digest_Hash_Write.l1 k p2 n1)) y4 = some r → St ⟨39, w0, ok, (idsOf [BF b0 U (kin pre k_digest_Hash post q1 q2) p1])⟩ [BF b0 U (kin pre k_digest_Hash post q1 q2) y4] [(0, (ptrB b0 pre.length)), (5, (kstr.V x2)), (11, ((ksl kstr).V p2)), (12, ((kint .i64).V (p2.length : Int))), (13, ((kint .i64).V y1)), (100000, (known (.pointer (some ⟨0, 0, none⟩)) (ptrTo (karr 8 (kint .u32)) G_digest_first))), (100001, (known (.pointer (some ⟨1, 0, none⟩)) (ptrTo (karr 64 (kint .u32)) G_digest_rounds)))] a w → K10 a w := by
      intro y4 a30 w30 h7 s30
      unfold digest_Hash_Write.j2 at h7
      refine hK10 _ _ ?_
      refine wp_region_lit ?_
      refine seq_op s30 rfl rfl (of_decide_eq_true rfl) (ob_move rfl (.tmp rfl)) fun a31 w31 s31 => ?_; clear s30
      refine seq_op s31 rfl rfl (of_decide_eq_true rfl) (ob_nilCheck rfl (.tmp rfl)) fun a32 w32 s32 => ?_; clear s31
      refine seq_op s32 rfl rfl (of_decide_eq_true rfl) (ob_fieldAddr (off' := pre.length + 74) rfl Tryd.underlying35 rfl sz33 (by decide) (.tmp rfl) rfl) fun a33 w33 s33 => ?_; clear s32
      refine seq_op s33 rfl rfl (of_decide_eq_true rfl) (ob_load rfl tk33 (.tmp rfl) (List.Mem.head _) (LG.trans (LG.kin _) (lg_digest_Hash_taken y4) (by decide))) fun a34 w34 s34 => ?_; clear s33
      refine seq_op s34 rfl rfl (of_decide_eq_true rfl) (ob_move rfl (.tmp rfl)) fun a35 w35 s35 => ?_; clear s34
      refine seq_op s35 rfl rfl (of_decide_eq_true rfl) (ob_lenStr rfl Tryd.underlying9 (.tmp rfl)) fun a36 w36 s36 => ?_; clear s35
      refine seq_op s36 rfl rfl (of_decide_eq_true rfl) (ob_conv rfl _ Tryd.underlying3 Tryd.underlying33 (.tmp rfl)) fun a37 w37 s37 => ?_; clear s36
      refine seq_op s37 rfl rfl (of_decide_eq_true rfl) (ob_add rfl (.tmp rfl) (.tmp rfl)) fun a38 w38 s38 => ?_; clear s37
      refine seq_op s38 rfl rfl (of_decide_eq_true rfl) (ob_nilCheck rfl (.tmp rfl)) fun a39 w39 s39 => ?_; clear s38
      refine seq_op s39 rfl rfl (of_decide_eq_true rfl) (ob_fieldAddr (off' := pre.length + 74) rfl Tryd.underlying35 rfl sz33 (by decide) (.tmp rfl) rfl) fun a40 w40 s40 => ?_; clear s39
      obtain ⟨x3, e_x3, h8⟩ := bind_some h7; clear h7; replace e_x3 := Option.some.inj e_x3
      refine seq_opx0 (B' := fun _ => [BF b0 U (kin pre k_digest_Hash post q1 q2) x3]) s40 rfl rfl (ob_store (A := []) rfl tk33 (.tmp rfl) (.tmp rfl) rfl (LS.trans (LG.kin _) (LS.to (ls_digest_Hash_taken y4 (iadd .u64 y4.taken (IntKind.wrap .u64 (x2.length : Int)))) e_x3) (LS.kin _ _)) rfl) fun _ a41 w41 s41 => ?_; clear s40
      refine wpList_nil ?_
      refine in_normal ?_
      refine then_normal ?_
      exact hj1 x3 _ _ h8 (s41.sub (.cons rfl (.cons rfl (.cons rfl (.cons rfl (.cons rfl (.cons rfl .nil)))))))
    refine wp_block ?_
    refine wp_loop_fuel (fun m (q : Int × digest_Hash) => digest_Hash_Write.l2 k x2 y1 (digest_Hash_Write.l1 k p2 n1) m q.1 q.2) r (fun _ => rfl) (fun q a w => St ⟨39, w0, ok, (idsOf [BF b0 U (kin pre k_digest_Hash post q1 q2) p1])⟩ [BF b0 U (kin pre k_digest_Hash post q1 q2) q.2] [(0, (ptrB b0 pre.length)), (5, (kstr.V x2)), (11, ((ksl kstr).V p2)), (12, ((kint .i64).V (p2.length : Int))), (13, ((kint .i64).V y1)), (18, ((kint .i64).V (x2.length : Int))), (19, ((kint .i64).V q.1)), (100000, (known (.pointer (some ⟨0, 0, none⟩)) (ptrTo (karr 8 (kint .u32)) G_digest_first))), (100001, (known (.pointer (some ⟨1, 0, none⟩)) (ptrTo (karr 64 (kint .u32)) G_digest_rounds)))] a w) ?_ k ((0 : Int), y2) _ _ h6 (s29.sub (.cons rfl (.cons rfl (.cons rfl (.cons rfl (.cons rfl (.cons rfl (.cons rfl (.cons rfl (.cons rfl .nil))))))))))
    rintro n2 ⟨y5, y6⟩ a42 w42 h9 s42 K12 hK12
    replace h9 : digest_Hash_Write.l2 k x2 y1 (digest_Hash_Write.l1 k p2 n1) (n2 + 1) y5 y6 = some r := h9; rw [digest_Hash_Write.l2] at h9
    have h10 := h9; clear h9
    refine wp_seq_k fun K13 hK13 => ?_
    refine wp_region_lit ?_
    refine seq_op s42 rfl rfl (of_decide_eq_true rfl) (ob_lss rfl (.tmp rfl) (.tmp rfl)) fun a43 w43 s43 => ?_; clear s42
    refine wpList_nil ?_
    refine then_normal ?_
    refine hK13 _ _ ?_
    have s44 := s43.sub (.cons (t := 0) rfl (.cons (t := 5) rfl (.cons (t := 11) rfl (.cons (t := 12) rfl (.cons (t := 13) rfl (.cons (t := 18) rfl (.cons (t := 19) rfl (.cons (t := 20) rfl (.cons (t := 100000) rfl (.cons (t := 100001) rfl .nil)))))))))); clear s43
    refine wp_seq_k fun K14 hK14 => ?_
    refine cond_split s44 (.tmp rfl) (fun hc3 => ?_) (fun hc3 => ?_)
    · replace h10 := ite_t hc3 h10
      have h11 := h10; clear h10
      refine wp_skip ?_
      refine then_normal ?_
      refine hK14 _ _ ?_
      have s45 := s44.sub (.cons (t := 0) rfl (.cons (t := 5) rfl (.cons (t := 11) rfl (.cons (t := 12) rfl (.cons (t := 13) rfl (.cons (t := 18) rfl (.cons (t := 19) rfl (.cons (t := 100000) rfl (.cons (t := 100001) rfl .nil))))))))); clear s44
      refine wp_seq_k fun K15 hK15 => ?_
      refine wp_block ?_
      refine wp_seq_k fun K16 hK16 => ?_
      refine wp_region_lit ?_
      refine seq_op s45 rfl rfl (of_decide_eq_true rfl) (ob_move rfl (.tmp rfl)) fun a46 w46 s46 => ?_; clear s45
      refine seq_op s46 rfl rfl (of_decide_eq_true rfl) (ob_assign rfl (.tmp rfl)) fun a47 w47 s47 => ?_; clear s46
      refine wpList_nil ?_
      refine then_normal ?_
      refine hK16 _ _ ?_
      have s48 := s47.sub (.cons (t := 0) rfl (.cons (t := 5) rfl (.cons (t := 6) rfl (.cons (t := 11) rfl (.cons (t := 12) rfl (.cons (t := 13) rfl (.cons (t := 18) rfl (.cons (t := 19) rfl (.cons (t := 100000) rfl (.cons (t := 100001) rfl .nil)))))))))); clear s47
      refine wp_region_lit ?_
      refine seq_op s48 rfl rfl (of_decide_eq_true rfl) (ob_move rfl (.tmp rfl)) fun a49 w49 s49 => ?_; clear s48
      refine seq_op s49 rfl rfl (of_decide_eq_true rfl) (ob_move rfl (.tmp rfl)) fun a50 w50 s50 => ?_; clear s49
      refine seq_op s50 rfl rfl (of_decide_eq_true rfl) (ob_move rfl (.tmp rfl)) fun a51 w51 s51 => ?_; clear s50
      obtain ⟨x4, e_x4, h12⟩ := bind_some h11; clear h11
      refine seq_op s51 rfl rfl (of_decide_eq_true rfl) (ob_indexStr rfl Tryd.underlying9 (.tmp rfl) (.tmp rfl) e_x4) fun a52 w52 s52 => ?_; clear s51
      obtain ⟨x5, e_x5, h13⟩ := bind_some h12; clear h12
      refine seq_opx (B' := fun _ => [BF b0 U (kin pre k_digest_Hash post q1 q2) x5]) s52 rfl rfl (of_decide_eq_true rfl) (ob_callW (A := []) rfl hb45 rfl (LG.kin _) (LS.kin _ _) (by decide) rfl (fun a w s pre post q1 q2 hpl hl hd => c_digest_Hash_put k _ _ _ e_x5 _ _ (s.env _ _ (show get _ 100001 = _ from rfl)) _ _ _ _ pre post q1 q2 hl hd (by rw [hpl]; exact s.arg (.tmp rfl)) (s.arg (.tmp rfl)))) fun _ a53 w53 s53 => ?_; clear s52
      refine wpList_nil ?_
      refine in_normal ?_
      refine then_normal ?_
      refine hK15 _ _ ?_
      have s54 := s53.sub (.cons (t := 0) rfl (.cons (t := 5) rfl (.cons (t := 11) rfl (.cons (t := 12) rfl (.cons (t := 13) rfl (.cons (t := 18) rfl (.cons (t := 19) rfl (.cons (t := 100000) rfl (.cons (t := 100001) rfl .nil))))))))); clear s53
      refine wp_region_lit ?_
      refine seq_op s54 rfl rfl (of_decide_eq_true rfl) (ob_add rfl (.tmp rfl) (opd_int rfl)) fun a55 w55 s55 => ?_; clear s54
      refine seq_op s55 rfl rfl (of_decide_eq_true rfl) (ob_move rfl (.tmp rfl)) fun a56 w56 s56 => ?_; clear s55
      refine wpList_nil ?_
      refine then_normal ?_
      exact hK12 ((iadd .i64 y5 (1 : Int)), x5) _ _ h13 (s56.sub (.cons rfl (.cons rfl (.cons rfl (.cons rfl (.cons rfl (.cons rfl (.cons rfl (.cons rfl (.cons rfl .nil))))))))))
    · replace h10 := ite_f hc3 h10
      have h14 := h10; clear h10
      refine wp_exit ?_
      refine (then_exit (then_exit (in_here ?_)))
      refine then_normal ?_
      exact hj2 y6 _ _ h14 (s44.sub (.cons rfl (.cons rfl (.cons rfl (.cons rfl (.cons rfl (.cons rfl (.cons rfl .nil))))))))
  · replace h3 := ite_f hc2 h3
    have h15 := h3; clear h3
    refine wp_exit ?_
    refine (then_exit (then_exit (in_here ?_)))
    obtain rfl := Option.some.inj h15
    exact leaveX () s17 rfl (.inr rfl) rfl .nil rfl

/- 21 (*cabal/digest.Hash).Write (nil) -/
theorem c_digest_Hash_Write_nil (k : Nat) (p1 : (List (List Int))) (r : Unit) (h0 : digest_Hash_Write_nil k p1 = some r) (ok : Ok) (w0 : World) (gl0 : (ptrTo (karr 8 (kint .u32)) G_digest_first).holds ok w0 (.pointer (some ⟨0, 0, none⟩))) (gl1 : (ptrTo (karr 64 (kint .u32)) G_digest_rounds).holds ok w0 (.pointer (some ⟨1, 0, none⟩))) (z0 : Value) (z1 : Value) (u0 : (is (.pointer none)).holds ok w0 z0) (u1 : ((ksl kstr).V p1).holds ok w0 z1) :
    Gives Tryd.prog 21 [z0, z1] ok w0 (resFact []) := by
  unfold digest_Hash_Write_nil at h0
  refine enter (N := 39) Tryd.func21 rfl rfl (of_decide_eq_true rfl) (.cons u0 (.cons u1 .nil)) fun a1 s1 => ?_
  have s2 := s1.keepKnown 100000 gl0 okIn; clear s1
  have s3 := s2.keepKnown 100001 gl1 okIn; clear s2
  refine wp_seq_k fun K1 hK1 => ?_
  refine wp_seq_k fun K2 hK2 => ?_
  refine wp_region_lit ?_
  refine seq_op s3 rfl rfl (of_decide_eq_true rfl) (ob_move rfl (.tmp rfl)) fun a4 w4 s4 => ?_; clear s3
  refine seq_op s4 rfl rfl (of_decide_eq_true rfl) (ob_ptrNil (p := none) rfl pt44 (.tmp rfl) opd_is) fun a5 w5 s5 => ?_; clear s4
  refine wpList_nil ?_
  refine then_normal ?_
  refine hK2 _ _ ?_
  have s6 := s5.sub (.cons (t := 0) rfl (.cons (t := 1) rfl (.cons (t := 8) rfl (.cons (t := 100000) rfl (.cons (t := 100001) rfl .nil))))); clear s5
  refine cond_t s6 (.tmp rfl) ?_
  refine wp_ret ?_
  obtain rfl := Option.some.inj h0
  exact leave s6 (.inl rfl) rfl .nil

/- 22 (*cabal/digest.Hash).Sum -/
theorem c_digest_Hash_Sum (k : Nat) (p1 : digest_Hash) (r : (List Int)) (h0 : digest_Hash_Sum k p1 = some r) (ok : Ok) (w0 : World) (gl0 : (ptrTo (karr 8 (kint .u32)) G_digest_first).holds ok w0 (.pointer (some ⟨0, 0, none⟩))) (gl1 : (ptrTo (karr 64 (kint .u32)) G_digest_rounds).holds ok w0 (.pointer (some ⟨1, 0, none⟩))) (z0 : Value) (u0 : (ptrTo k_digest_Hash p1).holds ok w0 z0) :
    Gives Tryd.prog 22 [z0] ok w0 (resFact [(karr 32 (kint .u8)).V r]) := by
  unfold digest_Hash_Sum at h0
  refine enter (N := 64) Tryd.func22 rfl rfl (of_decide_eq_true rfl) (.cons u0 .nil) fun a1 s1 => ?_
  have s2 := s1.keepKnown 100000 gl0 okIn; clear s1
  have s3 := s2.keepKnown 100001 gl1 okIn; clear s2
  refine wp_seq_k fun K1 hK1 => ?_
  refine wp_region_lit ?_
  refine seq_opx s3 rfl rfl (of_decide_eq_true rfl) (ob_new (k := (karr 32 (kint .u8))) rfl zz26 (Zr.arr 32 (Zr.int .u8))) fun b1 a4 w4 s4 => ?_; clear s3
  refine wpList_nil ?_
  refine then_normal ?_
  refine hK1 _ _ ?_
  have s5 := s4.sub (.cons (t := 0) rfl (.cons (t := 2) rfl (.cons (t := 100000) rfl (.cons (t := 100001) rfl .nil)))); clear s4
  refine wp_seq_k fun K2 hK2 => ?_
  refine wp_region_lit ?_
  refine seq_opx s5 rfl rfl (of_decide_eq_true rfl) (ob_new (k := k_digest_Hash) rfl zz35 (Zr.iso (f := t_digest_Hash) (x := (⟨false, (List.replicate 8 (0 : Int)), (List.replicate 64 (0 : Int)), (0 : Int), (0 : Int)⟩ : digest_Hash)) (Zr.pair Zr.bool (Zr.pair (Zr.arr 8 (Zr.int .u32)) (Zr.pair (Zr.arr 64 (Zr.int .u8)) (Zr.pair (Zr.int .i64) (Zr.pair (Zr.int .u64) Zr.nil))))))) fun b2 a6 w6 s6 => ?_; clear s5
  refine wpList_nil ?_
  refine then_normal ?_
  refine hK2 _ _ ?_
  have s7 := s6.sub (.cons (t := 0) rfl (.cons (t := 2) rfl (.cons (t := 3) rfl (.cons (t := 100000) rfl (.cons (t := 100001) rfl .nil))))); clear s6
  refine wp_seq_k fun K3 hK3 => ?_
  refine wp_seq_k fun K4 hK4 => ?_
  refine wp_region_lit ?_
  refine seq_op s7 rfl rfl (of_decide_eq_true rfl) (ob_move rfl (.tmp rfl)) fun a8 w8 s8 => ?_; clear s7
  refine seq_op s8 rfl rfl (of_decide_eq_true rfl) (ob_ptrrNotNil rfl pt44 (.tmp rfl) opd_is) fun a9 w9 s9 => ?_; clear s8
  refine wpList_nil ?_
  refine then_normal ?_
  refine hK4 _ _ ?_
  have s10 := s9.sub (.cons (t := 0) rfl (.cons (t := 2) rfl (.cons (t := 3) rfl (.cons (t := 9) rfl (.cons (t := 100000) rfl (.cons (t := 100001) rfl .nil)))))); clear s9
  refine cond_t s10 (.tmp rfl) ?_
  refine wp_region_lit ?_
  refine seq_op s10 rfl rfl (of_decide_eq_true rfl) (ob_move rfl (.tmp rfl)) fun a11 w11 s11 => ?_; clear s10
  refine seq_op s11 rfl rfl (of_decide_eq_true rfl) (ob_nilCheckr rfl (.tmp rfl)) fun a12 w12 s12 => ?_; clear s11
  refine seq_op s12 rfl rfl (of_decide_eq_true rfl) (ob_loadr rfl tk35 (.tmp rfl)) fun a13 w13 s13 => ?_; clear s12
  refine seq_opx0 (B' := fun _ => [BF b2 35 k_digest_Hash p1, BF b1 26 (karr 32 (kint .u8)) (List.replicate 32 (0 : Int))]) s13 rfl rfl (ob_store (A := []) rfl tk35 (.tmp rfl) (.tmp rfl) rfl (LS.refl _ _ _) rfl) fun _ a14 w14 s14 => ?_; clear s13
  refine wpList_nil ?_
  refine then_normal ?_
  refine hK3 _ _ ?_
  have s15 := s14.sub (.cons (t := 2) rfl (.cons (t := 3) rfl (.cons (t := 100000) rfl (.cons (t := 100001) rfl .nil)))); clear s14
  refine wp_seq_k fun K5 hK5 => ?_
  refine wp_region_lit ?_
  obtain ⟨x1, e_x1, h1⟩ := bind_some h0; clear h0
  refine seq_opx (B' := fun _ => [BF b2 35 k_digest_Hash x1, BF b1 26 (karr 32 (kint .u8)) (List.replicate 32 (0 : Int))]) s15 rfl rfl (of_decide_eq_true rfl) (ob_callW (A := []) rfl hb44 rfl (LG.refl _ _) (LS.refl _ _ _) (by decide) rfl (fun a w s pre post q1 q2 hpl hl hd => c_digest_Hash_begin k _ _ e_x1 _ _ (s.env _ _ (show get _ 100000 = _ from rfl)) _ _ _ pre post q1 q2 hl hd (by rw [hpl]; exact s.arg (.tmp rfl)))) fun _ a16 w16 s16 => ?_; clear s15
  refine wpList_nil ?_
  refine then_normal ?_
  refine hK5 _ _ ?_
  have s17 := s16.sub (.cons (t := 2) rfl (.cons (t := 3) rfl (.cons (t := 100000) rfl (.cons (t := 100001) rfl .nil)))); clear s16
  refine wp_seq_k fun K6 hK6 => ?_
  refine wp_region_lit ?_
  obtain ⟨x2, e_x2, h2⟩ := bind_some h1; clear h1
  refine seq_opx (B' := fun _ => [BF b2 35 k_digest_Hash x2, BF b1 26 (karr 32 (kint .u8)) (List.replicate 32 (0 : Int))]) s17 rfl rfl (of_decide_eq_true rfl) (ob_callW (A := []) rfl hb45 rfl (LG.refl _ _) (LS.refl _ _ _) (by decide) rfl (fun a w s pre post q1 q2 hpl hl hd => c_digest_Hash_put k _ _ _ e_x2 _ _ (s.env _ _ (show get _ 100001 = _ from rfl)) _ _ _ _ pre post q1 q2 hl hd (by rw [hpl]; exact s.arg (.tmp rfl)) (s.arg (opd_int rfl)))) fun _ a18 w18 s18 => ?_; clear s17
  refine wpList_nil ?_
  refine then_normal ?_
  refine hK6 _ _ ?_
  have s19 := s18.sub (.cons (t := 2) rfl (.cons (t := 3) rfl (.cons (t := 100000) rfl (.cons (t := 100001) rfl .nil)))); clear s18
  refine wp_seq_k fun K7 hK7 => ?_
  have hj1 : ∀ (y1 : digest_Hash) (b2 : Nat) (b1 : Nat) (a : Act) (w : World), (digest_Hash_Sum.j1 k) y1 = some r → St ⟨64, w0, ok, []⟩ [BF b2 35 k_digest_Hash y1, BF b1 26 (karr 32 (kint .u8)) (List.replicate 32 (0 : Int))] [(2, (ptrB b1 0)), (3, (ptrB b2 0)), (100000, (known (.pointer (some ⟨0, 0, none⟩)) (ptrTo (karr 8 (kint .u32)) G_digest_first))), (100001, (known (.pointer (some ⟨1, 0, none⟩)) (ptrTo (karr 64 (kint .u32)) G_digest_rounds)))] a w → K7 a w := by
    intro y1 b2 b1 a20 w20 h3 s20
    unfold digest_Hash_Sum.j1 at h3
    refine hK7 _ _ ?_
    refine wp_seq_k fun K8 hK8 => ?_
    refine wp_seq_k fun K9 hK9 => ?_
    refine wp_region_lit ?_
    refine seq_op s20 rfl rfl (of_decide_eq_true rfl) (ob_assign rfl (opd_int rfl)) fun a21 w21 s21 => ?_; clear s20
    refine wpList_nil ?_
    refine then_normal ?_
    refine hK9 _ _ ?_
    have s22 := s21.sub (.cons (t := 2) rfl (.cons (t := 3) rfl (.cons (t := 4) rfl (.cons (t := 100000) rfl (.cons (t := 100001) rfl .nil))))); clear s21
    have hj2 : ∀ (y2 : digest_Hash) (a : Act) (w : World), (digest_Hash_Sum.j2 k) y2 = some r → St ⟨64, w0, ok, []⟩ [BF b2 35 k_digest_Hash y2, BF b1 26 (karr 32 (kint .u8)) (List.replicate 32 (0 : Int))] [(2, (ptrB b1 0)), (3, (ptrB b2 0)), (100000, (known (.pointer (some ⟨0, 0, none⟩)) (ptrTo (karr 8 (kint .u32)) G_digest_first))), (100001, (known (.pointer (some ⟨1, 0, none⟩)) (ptrTo (karr 64 (kint .u32)) G_digest_rounds)))] a w → K8 a w := by
      intro y2 a23 w23 h4 s23
      unfold digest_Hash_Sum.j2 at h4
      refine hK8 _ _ ?_
      refine wp_seq_k fun K10 hK10 => ?_
      refine wp_region_lit ?_
      refine seq_opx s23 rfl rfl (of_decide_eq_true rfl) (ob_new (k := (karr 32 (kint .u8))) rfl zz26 (Zr.arr 32 (Zr.int .u8))) fun b3 a24 w24 s24 => ?_; clear s23
      refine wpList_nil ?_
      refine then_normal ?_
      refine hK10 _ _ ?_
      have s25 := s24.sub (.cons (t := 2) rfl (.cons (t := 3) rfl (.cons (t := 5) rfl (.cons (t := 100000) rfl (.cons (t := 100001) rfl .nil))))); clear s24
      refine wp_seq_k fun K11 hK11 => ?_
      refine wp_seq_k fun K12 hK12 => ?_
      refine wp_region_lit ?_
      refine seq_op s25 rfl rfl (of_decide_eq_true rfl) (ob_fieldAddr (off' := 1) rfl Tryd.underlying35 rfl sz31 (by decide) (.tmp rfl) rfl) fun a26 w26 s26 => ?_; clear s25
      refine seq_op s26 rfl rfl (of_decide_eq_true rfl) (ob_load rfl tk31 (.tmp rfl) (List.Mem.tail _ (List.Mem.head _)) (lg_digest_Hash_state y2)) fun a27 w27 s27 => ?_; clear s26
      refine seq_op s27 rfl rfl (of_decide_eq_true rfl) (ob_move rfl (opd_int rfl)) fun a28 w28 s28 => ?_; clear s27
      refine wpList_nil ?_
      refine then_normal ?_
      refine hK12 _ _ ?_
      have s29 := s28.sub (.cons (t := 2) rfl (.cons (t := 5) rfl (.cons (t := 31) rfl (.cons (t := 32) rfl (.cons (t := 100000) rfl (.cons (t := 100001) rfl .nil)))))); clear s28
      have s30 := St.drop (A := [_]) s29; clear s29
      have hj3 : ∀ (y3 : (List Int)) (b3 : Nat) (a : Act) (w : World), (digest_Hash_Sum.j3 k) y3 = some r → St ⟨64, w0, ok, []⟩ [BF b3 26 (karr 32 (kint .u8)) y3, BF b1 26 (karr 32 (kint .u8)) (List.replicate 32 (0 : Int))] [(2, (ptrB b1 0)), (5, (ptrB b3 0)), (100000, (known (.pointer (some ⟨0, 0, none⟩)) (ptrTo (karr 8 (kint .u32)) G_digest_first))), (100001, (known (.pointer (some ⟨1, 0, none⟩)) (ptrTo (karr 64 (kint .u32)) G_digest_rounds)))] a w → K11 a w := by
        intro y3 b3 a31 w31 h5 s31
        unfold digest_Hash_Sum.j3 at h5
        refine hK11 _ _ ?_
        refine wp_seq_k fun K13 hK13 => ?_
        refine wp_region_lit ?_
        refine seq_op s31 rfl rfl (of_decide_eq_true rfl) (ob_load rfl tk26 (.tmp rfl) (List.Mem.head _) (LG.refl _ _)) fun a32 w32 s32 => ?_; clear s31
        refine seq_opx0 (B' := fun _ => [BF b3 26 (karr 32 (kint .u8)) y3, BF b1 26 (karr 32 (kint .u8)) y3]) s32 rfl rfl (ob_store (A := [_]) rfl tk26 (.tmp rfl) (.tmp rfl) rfl (LS.refl _ _ _) rfl) fun _ a33 w33 s33 => ?_; clear s32
        refine wpList_nil ?_
        refine then_normal ?_
        refine hK13 _ _ ?_
        have s34 := s33.sub (.cons (t := 2) rfl (.cons (t := 100000) rfl (.cons (t := 100001) rfl .nil))); clear s33
        have s35 := St.drop (A := []) s34; clear s34
        refine wp_ret ?_
        obtain rfl := Option.some.inj h5
        exact leave s35 (.inl rfl) rfl (.cons (.cell rfl tk26 (List.Mem.head _) (LG.refl _ _)) .nil)
      refine wp_block ?_
      refine wp_loop_fuel (fun m (q : Int × (List Int)) => digest_Hash_Sum.l1 k y2 m q.1 q.2) r (fun _ => rfl) (fun q a w => ∃ (b3 : Nat), St ⟨64, w0, ok, []⟩ [BF b3 26 (karr 32 (kint .u8)) q.2, BF b1 26 (karr 32 (kint .u8)) (List.replicate 32 (0 : Int))] [(2, (ptrB b1 0)), (5, (ptrB b3 0)), (31, ((karr 8 (kint .u32)).V y2.state)), (32, ((kint .i64).V q.1)), (100000, (known (.pointer (some ⟨0, 0, none⟩)) (ptrTo (karr 8 (kint .u32)) G_digest_first))), (100001, (known (.pointer (some ⟨1, 0, none⟩)) (ptrTo (karr 64 (kint .u32)) G_digest_rounds)))] a w) ?_ k ((0 : Int), (List.replicate 32 (0 : Int))) _ _ h4 ⟨b3, (s30.sub (.cons rfl (.cons rfl (.cons rfl (.cons rfl (.cons rfl (.cons rfl .nil)))))))⟩
      rintro n1 ⟨y4, y5⟩ a36 w36 h6 ⟨b3, s36⟩ K14 hK14
      replace h6 : digest_Hash_Sum.l1 k y2 (n1 + 1) y4 y5 = some r := h6; rw [digest_Hash_Sum.l1] at h6
      have h7 := h6; clear h6
      refine wp_seq_k fun K15 hK15 => ?_
      refine wp_region_lit ?_
      refine seq_op s36 rfl rfl (of_decide_eq_true rfl) (ob_lss rfl (.tmp rfl) (opd_int rfl)) fun a37 w37 s37 => ?_; clear s36
      refine wpList_nil ?_
      refine then_normal ?_
      refine hK15 _ _ ?_
      have s38 := s37.sub (.cons (t := 2) rfl (.cons (t := 5) rfl (.cons (t := 31) rfl (.cons (t := 32) rfl (.cons (t := 33) rfl (.cons (t := 100000) rfl (.cons (t := 100001) rfl .nil))))))); clear s37
      refine wp_seq_k fun K16 hK16 => ?_
      refine cond_split s38 (.tmp rfl) (fun hc2 => ?_) (fun hc2 => ?_)
      · replace h7 := ite_t hc2 h7
        have h8 := h7; clear h7
        refine wp_skip ?_
        refine then_normal ?_
        refine hK16 _ _ ?_
        have s39 := s38.sub (.cons (t := 2) rfl (.cons (t := 5) rfl (.cons (t := 31) rfl (.cons (t := 32) rfl (.cons (t := 100000) rfl (.cons (t := 100001) rfl .nil)))))); clear s38
        refine wp_seq_k fun K17 hK17 => ?_
        refine wp_block ?_
        refine wp_seq_k fun K18 hK18 => ?_
        refine wp_region_lit ?_
        refine seq_op s39 rfl rfl (of_decide_eq_true rfl) (ob_move rfl (.tmp rfl)) fun a40 w40 s40 => ?_; clear s39
        obtain ⟨x3, e_x3, h9⟩ := bind_some h8; clear h8
        obtain ⟨g1, h10⟩ := guard_some h9; clear h9
        refine seq_op s40 rfl rfl (of_decide_eq_true rfl) (ob_index rfl Tryd.underlying31 tk30 (.tmp rfl) (.tmp rfl) g1 e_x3) fun a41 w41 s41 => ?_; clear s40
        refine seq_op s41 rfl rfl (of_decide_eq_true rfl) (ob_assign rfl (.tmp rfl)) fun a42 w42 s42 => ?_; clear s41
        refine seq_op s42 rfl rfl (of_decide_eq_true rfl) (ob_assign rfl (.tmp rfl)) fun a43 w43 s43 => ?_; clear s42
        refine wpList_nil ?_
        refine then_normal ?_
        refine hK18 _ _ ?_
        have s44 := s43.sub (.cons (t := 2) rfl (.cons (t := 5) rfl (.cons (t := 6) rfl (.cons (t := 7) rfl (.cons (t := 31) rfl (.cons (t := 32) rfl (.cons (t := 100000) rfl (.cons (t := 100001) rfl .nil)))))))); clear s43
        refine wp_region_lit ?_
        refine seq_op s44 rfl rfl (of_decide_eq_true rfl) (ob_move rfl (.tmp rfl)) fun a45 w45 s45 => ?_; clear s44
        refine seq_op s45 rfl rfl (of_decide_eq_true rfl) (ob_mul rfl (opd_int rfl) (.tmp rfl)) fun a46 w46 s46 => ?_; clear s45
        refine seq_op s46 rfl rfl (of_decide_eq_true rfl) (ob_move rfl (.tmp rfl)) fun a47 w47 s47 => ?_; clear s46
        refine seq_op s47 rfl rfl (of_decide_eq_true rfl) (ob_mul rfl (opd_int rfl) (.tmp rfl)) fun a48 w48 s48 => ?_; clear s47
        refine seq_op s48 rfl rfl (of_decide_eq_true rfl) (ob_add rfl (.tmp rfl) (opd_int rfl)) fun a49 w49 s49 => ?_; clear s48
        refine seq_op s49 rfl rfl (of_decide_eq_true rfl) (ob_move rfl (.tmp rfl)) fun a50 w50 s50 => ?_; clear s49
        refine seq_op s50 rfl rfl (of_decide_eq_true rfl) (ob_mul rfl (opd_int rfl) (.tmp rfl)) fun a51 w51 s51 => ?_; clear s50
        refine seq_op s51 rfl rfl (of_decide_eq_true rfl) (ob_add rfl (.tmp rfl) (opd_int rfl)) fun a52 w52 s52 => ?_; clear s51
        refine seq_op s52 rfl rfl (of_decide_eq_true rfl) (ob_move rfl (.tmp rfl)) fun a53 w53 s53 => ?_; clear s52
        refine seq_op s53 rfl rfl (of_decide_eq_true rfl) (ob_mul rfl (opd_int rfl) (.tmp rfl)) fun a54 w54 s54 => ?_; clear s53
        refine seq_op s54 rfl rfl (of_decide_eq_true rfl) (ob_add rfl (.tmp rfl) (opd_int rfl)) fun a55 w55 s55 => ?_; clear s54
        refine seq_op s55 rfl rfl (of_decide_eq_true rfl) (ob_move rfl (.tmp rfl)) fun a56 w56 s56 => ?_; clear s55
        refine seq_op s56 rfl rfl (of_decide_eq_true rfl) (ob_shr rfl (.tmp rfl) (opd_int rfl) (by decide)) fun a57 w57 s57 => ?_; clear s56
        refine seq_op s57 rfl rfl (of_decide_eq_true rfl) (ob_conv rfl _ Tryd.underlying30 Tryd.underlying5 (.tmp rfl)) fun a58 w58 s58 => ?_; clear s57
        refine seq_op s58 rfl rfl (of_decide_eq_true rfl) (ob_move rfl (.tmp rfl)) fun a59 w59 s59 => ?_; clear s58
        refine seq_op s59 rfl rfl (of_decide_eq_true rfl) (ob_shr rfl (.tmp rfl) (opd_int rfl) (by decide)) fun a60 w60 s60 => ?_; clear s59
        refine seq_op s60 rfl rfl (of_decide_eq_true rfl) (ob_conv rfl _ Tryd.underlying30 Tryd.underlying5 (.tmp rfl)) fun a61 w61 s61 => ?_; clear s60
        refine seq_op s61 rfl rfl (of_decide_eq_true rfl) (ob_move rfl (.tmp rfl)) fun a62 w62 s62 => ?_; clear s61
        refine seq_op s62 rfl rfl (of_decide_eq_true rfl) (ob_shr rfl (.tmp rfl) (opd_int rfl) (by decide)) fun a63 w63 s63 => ?_; clear s62
        refine seq_op s63 rfl rfl (of_decide_eq_true rfl) (ob_conv rfl _ Tryd.underlying30 Tryd.underlying5 (.tmp rfl)) fun a64 w64 s64 => ?_; clear s63
        refine seq_op s64 rfl rfl (of_decide_eq_true rfl) (ob_move rfl (.tmp rfl)) fun a65 w65 s65 => ?_; clear s64
        refine seq_op s65 rfl rfl (of_decide_eq_true rfl) (ob_conv rfl _ Tryd.underlying30 Tryd.underlying5 (.tmp rfl)) fun a66 w66 s66 => ?_; clear s65
        obtain ⟨g2, h11⟩ := guard_some h10; clear h10
        refine seq_op s66 rfl rfl (of_decide_eq_true rfl) (ob_indexAddr rfl Tryd.underlying26 sz5 (.tmp rfl) (.tmp rfl) g2.1 g2.2 (Nat.zero_add _)) fun a67 w67 s67 => ?_; clear s66
        obtain ⟨x4, e_x4, h12⟩ := bind_some h11; clear h11
        refine seq_opx0 (B' := fun _ => [BF b3 26 (karr 32 (kint .u8)) x4, BF b1 26 (karr 32 (kint .u8)) (List.replicate 32 (0 : Int))]) s67 rfl rfl (ob_store (A := []) rfl tk5 (.tmp rfl) (.tmp rfl) rfl (LS.arrS e_x4) rfl) fun _ a68 w68 s68 => ?_; clear s67
        obtain ⟨g3, h13⟩ := guard_some h12; clear h12
        refine seq_op s68 rfl rfl (of_decide_eq_true rfl) (ob_indexAddr rfl Tryd.underlying26 sz5 (.tmp rfl) (.tmp rfl) g3.1 g3.2 (Nat.zero_add _)) fun a69 w69 s69 => ?_; clear s68
        obtain ⟨x5, e_x5, h14⟩ := bind_some h13; clear h13
        refine seq_opx0 (B' := fun _ => [BF b3 26 (karr 32 (kint .u8)) x5, BF b1 26 (karr 32 (kint .u8)) (List.replicate 32 (0 : Int))]) s69 rfl rfl (ob_store (A := []) rfl tk5 (.tmp rfl) (.tmp rfl) rfl (LS.arrS e_x5) rfl) fun _ a70 w70 s70 => ?_; clear s69
        obtain ⟨g4, h15⟩ := guard_some h14; clear h14
        refine seq_op s70 rfl rfl (of_decide_eq_true rfl) (ob_indexAddr rfl Tryd.underlying26 sz5 (.tmp rfl) (.tmp rfl) g4.1 g4.2 (Nat.zero_add _)) fun a71 w71 s71 => ?_; clear s70
        obtain ⟨x6, e_x6, h16⟩ := bind_some h15; clear h15
        refine seq_opx0 (B' := fun _ => [BF b3 26 (karr 32 (kint .u8)) x6, BF b1 26 (karr 32 (kint .u8)) (List.replicate 32 (0 : Int))]) s71 rfl rfl (ob_store (A := []) rfl tk5 (.tmp rfl) (.tmp rfl) rfl (LS.arrS e_x6) rfl) fun _ a72 w72 s72 => ?_; clear s71
        obtain ⟨g5, h17⟩ := guard_some h16; clear h16
        refine seq_op s72 rfl rfl (of_decide_eq_true rfl) (ob_indexAddr rfl Tryd.underlying26 sz5 (.tmp rfl) (.tmp rfl) g5.1 g5.2 (Nat.zero_add _)) fun a73 w73 s73 => ?_; clear s72
        obtain ⟨x7, e_x7, h18⟩ := bind_some h17; clear h17
        refine seq_opx0 (B' := fun _ => [BF b3 26 (karr 32 (kint .u8)) x7, BF b1 26 (karr 32 (kint .u8)) (List.replicate 32 (0 : Int))]) s73 rfl rfl (ob_store (A := []) rfl tk5 (.tmp rfl) (.tmp rfl) rfl (LS.arrS e_x7) rfl) fun _ a74 w74 s74 => ?_; clear s73
        refine wpList_nil ?_
        refine in_normal ?_
        refine then_normal ?_
        refine hK17 _ _ ?_
        have s75 := s74.sub (.cons (t := 2) rfl (.cons (t := 5) rfl (.cons (t := 31) rfl (.cons (t := 32) rfl (.cons (t := 100000) rfl (.cons (t := 100001) rfl .nil)))))); clear s74
        refine wp_region_lit ?_
        refine seq_op s75 rfl rfl (of_decide_eq_true rfl) (ob_add rfl (.tmp rfl) (opd_int rfl)) fun a76 w76 s76 => ?_; clear s75
        refine seq_op s76 rfl rfl (of_decide_eq_true rfl) (ob_move rfl (.tmp rfl)) fun a77 w77 s77 => ?_; clear s76
        refine wpList_nil ?_
        refine then_normal ?_
        exact hK14 ((iadd .i64 y4 (1 : Int)), x7) _ _ h18 ⟨b3, (s77.sub (.cons rfl (.cons rfl (.cons rfl (.cons rfl (.cons rfl (.cons rfl .nil)))))))⟩
      · replace h7 := ite_f hc2 h7
        have h19 := h7; clear h7
        refine wp_exit ?_
        refine (then_exit (then_exit (in_here ?_)))
        refine then_normal ?_
        exact hj3 y5 b3 _ _ h19 (s38.sub (.cons rfl (.cons rfl (.cons rfl (.cons rfl .nil)))))
    refine wp_block ?_
    refine wp_loop_fuel (fun m (q : Int × digest_Hash) => digest_Hash_Sum.l2 k m q.1 q.2) r (fun _ => rfl) (fun q a w => St ⟨64, w0, ok, []⟩ [BF b2 35 k_digest_Hash q.2, BF b1 26 (karr 32 (kint .u8)) (List.replicate 32 (0 : Int))] [(2, (ptrB b1 0)), (3, (ptrB b2 0)), (4, ((kint .i64).V q.1)), (100000, (known (.pointer (some ⟨0, 0, none⟩)) (ptrTo (karr 8 (kint .u32)) G_digest_first))), (100001, (known (.pointer (some ⟨1, 0, none⟩)) (ptrTo (karr 64 (kint .u32)) G_digest_rounds)))] a w) ?_ k ((56 : Int), y1) _ _ h3 (s22.sub (.cons rfl (.cons rfl (.cons rfl (.cons rfl (.cons rfl .nil))))))
    rintro n2 ⟨y6, y7⟩ a78 w78 h20 s78 K19 hK19
    replace h20 : digest_Hash_Sum.l2 k (n2 + 1) y6 y7 = some r := h20; rw [digest_Hash_Sum.l2] at h20
    have h21 := h20; clear h20
    refine wp_seq_k fun K20 hK20 => ?_
    refine wp_seq_k fun K21 hK21 => ?_
    refine wp_region_lit ?_
    refine seq_op s78 rfl rfl (of_decide_eq_true rfl) (ob_move rfl (.tmp rfl)) fun a79 w79 s79 => ?_; clear s78
    refine seq_op s79 rfl rfl (of_decide_eq_true rfl) (ob_geq rfl (.tmp rfl) (opd_int rfl)) fun a80 w80 s80 => ?_; clear s79
    refine wpList_nil ?_
    refine then_normal ?_
    refine hK21 _ _ ?_
    have s81 := s80.sub (.cons (t := 2) rfl (.cons (t := 3) rfl (.cons (t := 4) rfl (.cons (t := 20) rfl (.cons (t := 100000) rfl (.cons (t := 100001) rfl .nil)))))); clear s80
    refine cond_split s81 (.tmp rfl) (fun hc3 => ?_) (fun hc3 => ?_)
    · replace h21 := ite_t hc3 h21
      have h22 := h21; clear h21
      refine wp_skip ?_
      refine then_normal ?_
      refine hK20 _ _ ?_
      have s82 := s81.sub (.cons (t := 2) rfl (.cons (t := 3) rfl (.cons (t := 4) rfl (.cons (t := 100000) rfl (.cons (t := 100001) rfl .nil))))); clear s81
      refine wp_seq_k fun K22 hK22 => ?_
      refine wp_block ?_
      refine wp_region_lit ?_
      refine seq_op s82 rfl rfl (of_decide_eq_true rfl) (ob_fieldAddr (off' := 74) rfl Tryd.underlying35 rfl sz33 (by decide) (.tmp rfl) rfl) fun a83 w83 s83 => ?_; clear s82
      refine seq_op s83 rfl rfl (of_decide_eq_true rfl) (ob_load rfl tk33 (.tmp rfl) (List.Mem.head _) (lg_digest_Hash_taken y7)) fun a84 w84 s84 => ?_; clear s83
      refine seq_op s84 rfl rfl (of_decide_eq_true rfl) (ob_mul rfl (opd_int rfl) (.tmp rfl)) fun a85 w85 s85 => ?_; clear s84
      refine seq_op s85 rfl rfl (of_decide_eq_true rfl) (ob_move rfl (.tmp rfl)) fun a86 w86 s86 => ?_; clear s85
      obtain ⟨g6, h23⟩ := guard_some h22; clear h22
      refine seq_op s86 rfl rfl (of_decide_eq_true rfl) (ob_shr rfl (.tmp rfl) (.tmp rfl) g6) fun a87 w87 s87 => ?_; clear s86
      refine seq_op s87 rfl rfl (of_decide_eq_true rfl) (ob_conv rfl _ Tryd.underlying33 Tryd.underlying5 (.tmp rfl)) fun a88 w88 s88 => ?_; clear s87
      obtain ⟨x8, e_x8, h24⟩ := bind_some h23; clear h23
      refine seq_opx (B' := fun _ => [BF b2 35 k_digest_Hash x8, BF b1 26 (karr 32 (kint .u8)) (List.replicate 32 (0 : Int))]) s88 rfl rfl (of_decide_eq_true rfl) (ob_callW (A := []) rfl hb45 rfl (LG.refl _ _) (LS.refl _ _ _) (by decide) rfl (fun a w s pre post q1 q2 hpl hl hd => c_digest_Hash_put k _ _ _ e_x8 _ _ (s.env _ _ (show get _ 100001 = _ from rfl)) _ _ _ _ pre post q1 q2 hl hd (by rw [hpl]; exact s.arg (.tmp rfl)) (s.arg (.tmp rfl)))) fun _ a89 w89 s89 => ?_; clear s88
      refine wpList_nil ?_
      refine in_normal ?_
      refine then_normal ?_
      refine hK22 _ _ ?_
      have s90 := s89.sub (.cons (t := 2) rfl (.cons (t := 3) rfl (.cons (t := 4) rfl (.cons (t := 100000) rfl (.cons (t := 100001) rfl .nil))))); clear s89
      refine wp_region_lit ?_
      refine seq_op s90 rfl rfl (of_decide_eq_true rfl) (ob_move rfl (.tmp rfl)) fun a91 w91 s91 => ?_; clear s90
      refine seq_op s91 rfl rfl (of_decide_eq_true rfl) (ob_sub rfl (.tmp rfl) (opd_int rfl)) fun a92 w92 s92 => ?_; clear s91
      refine seq_op s92 rfl rfl (of_decide_eq_true rfl) (ob_assign rfl (.tmp rfl)) fun a93 w93 s93 => ?_; clear s92
      refine wpList_nil ?_
      refine then_normal ?_
      exact hK19 ((isub .i64 y6 (8 : Int)), x8) _ _ h24 (s93.sub (.cons rfl (.cons rfl (.cons rfl (.cons rfl (.cons rfl .nil))))))
    · replace h21 := ite_f hc3 h21
      have h25 := h21; clear h21
      refine wp_exit ?_
      refine (then_exit (then_exit (in_here ?_)))
      refine then_normal ?_
      exact hj2 y7 _ _ h25 (s81.sub (.cons rfl (.cons rfl (.cons rfl (.cons rfl .nil)))))
  refine wp_block ?_
  refine wp_loop_fuel (fun m (q : digest_Hash) => digest_Hash_Sum.l3 k m q) r (fun _ => rfl) (fun q a w => ∃ (b2 : Nat) (b1 : Nat), St ⟨64, w0, ok, []⟩ [BF b2 35 k_digest_Hash q, BF b1 26 (karr 32 (kint .u8)) (List.replicate 32 (0 : Int))] [(2, (ptrB b1 0)), (3, (ptrB b2 0)), (100000, (known (.pointer (some ⟨0, 0, none⟩)) (ptrTo (karr 8 (kint .u32)) G_digest_first))), (100001, (known (.pointer (some ⟨1, 0, none⟩)) (ptrTo (karr 64 (kint .u32)) G_digest_rounds)))] a w) ?_ k x2 _ _ h2 ⟨b2, b1, (s19.sub (.cons rfl (.cons rfl (.cons rfl (.cons rfl .nil)))))⟩
  rintro n3 y8 a94 w94 h26 ⟨b2, b1, s94⟩ K23 hK23
  replace h26 : digest_Hash_Sum.l3 k (n3 + 1) y8 = some r := h26; rw [digest_Hash_Sum.l3] at h26
  have h27 := h26; clear h26
  refine wp_seq_k fun K24 hK24 => ?_
  refine wp_seq_k fun K25 hK25 => ?_
  refine wp_region_lit ?_
  refine seq_op s94 rfl rfl (of_decide_eq_true rfl) (ob_fieldAddr (off' := 73) rfl Tryd.underlying35 rfl sz3 (by decide) (.tmp rfl) rfl) fun a95 w95 s95 => ?_; clear s94
  refine seq_op s95 rfl rfl (of_decide_eq_true rfl) (ob_load rfl tk3 (.tmp rfl) (List.Mem.head _) (lg_digest_Hash_many y8)) fun a96 w96 s96 => ?_; clear s95
  refine seq_op s96 rfl rfl (of_decide_eq_true rfl) (ob_neq rfl (.tmp rfl) (opd_int rfl)) fun a97 w97 s97 => ?_; clear s96
  refine wpList_nil ?_
  refine then_normal ?_
  refine hK25 _ _ ?_
  have s98 := s97.sub (.cons (t := 2) rfl (.cons (t := 3) rfl (.cons (t := 17) rfl (.cons (t := 100000) rfl (.cons (t := 100001) rfl .nil))))); clear s97
  refine cond_split s98 (.tmp rfl) (fun hc4 => ?_) (fun hc4 => ?_)
  · replace h27 := ite_t hc4 h27
    have h28 := h27; clear h27
    refine wp_skip ?_
    refine then_normal ?_
    refine hK24 _ _ ?_
    have s99 := s98.sub (.cons (t := 2) rfl (.cons (t := 3) rfl (.cons (t := 100000) rfl (.cons (t := 100001) rfl .nil)))); clear s98
    refine wp_block ?_
    refine wp_region_lit ?_
    obtain ⟨x9, e_x9, h29⟩ := bind_some h28; clear h28
    refine seq_opx (B' := fun _ => [BF b2 35 k_digest_Hash x9, BF b1 26 (karr 32 (kint .u8)) (List.replicate 32 (0 : Int))]) s99 rfl rfl (of_decide_eq_true rfl) (ob_callW (A := []) rfl hb45 rfl (LG.refl _ _) (LS.refl _ _ _) (by decide) rfl (fun a w s pre post q1 q2 hpl hl hd => c_digest_Hash_put k _ _ _ e_x9 _ _ (s.env _ _ (show get _ 100001 = _ from rfl)) _ _ _ _ pre post q1 q2 hl hd (by rw [hpl]; exact s.arg (.tmp rfl)) (s.arg (opd_int rfl)))) fun _ a100 w100 s100 => ?_; clear s99
    refine wpList_nil ?_
    refine in_normal ?_
    refine then_normal ?_
    exact hK23 x9 _ _ h29 ⟨b2, b1, (s100.sub (.cons rfl (.cons rfl (.cons rfl (.cons rfl .nil)))))⟩
  · replace h27 := ite_f hc4 h27
    have h30 := h27; clear h27
    refine wp_exit ?_
    refine (then_exit (then_exit (in_here ?_)))
    refine then_normal ?_
    exact hj1 y8 b2 b1 _ _ h30 (s98.sub (.cons rfl (.cons rfl (.cons rfl (.cons rfl .nil)))))

/- 22 (*cabal/digest.Hash).Sum (nil) -/
theorem c_digest_Hash_Sum_nil (k : Nat) (r : (List Int)) (h0 : digest_Hash_Sum_nil k = some r) (ok : Ok) (w0 : World) (gl0 : (ptrTo (karr 8 (kint .u32)) G_digest_first).holds ok w0 (.pointer (some ⟨0, 0, none⟩))) (gl1 : (ptrTo (karr 64 (kint .u32)) G_digest_rounds).holds ok w0 (.pointer (some ⟨1, 0, none⟩))) (z0 : Value) (u0 : (is (.pointer none)).holds ok w0 z0) :
    Gives Tryd.prog 22 [z0] ok w0 (resFact [(karr 32 (kint .u8)).V r]) := by
  unfold digest_Hash_Sum_nil at h0
  refine enter (N := 64) Tryd.func22 rfl rfl (of_decide_eq_true rfl) (.cons u0 .nil) fun a1 s1 => ?_
  have s2 := s1.keepKnown 100000 gl0 okIn; clear s1
  have s3 := s2.keepKnown 100001 gl1 okIn; clear s2
  refine wp_seq_k fun K1 hK1 => ?_
  refine wp_region_lit ?_
  refine seq_opx s3 rfl rfl (of_decide_eq_true rfl) (ob_new (k := (karr 32 (kint .u8))) rfl zz26 (Zr.arr 32 (Zr.int .u8))) fun b1 a4 w4 s4 => ?_; clear s3
  refine wpList_nil ?_
  refine then_normal ?_
  refine hK1 _ _ ?_
  have s5 := s4.sub (.cons (t := 0) rfl (.cons (t := 2) rfl (.cons (t := 100000) rfl (.cons (t := 100001) rfl .nil)))); clear s4
  refine wp_seq_k fun K2 hK2 => ?_
  refine wp_region_lit ?_
  refine seq_opx s5 rfl rfl (of_decide_eq_true rfl) (ob_new (k := k_digest_Hash) rfl zz35 (Zr.iso (f := t_digest_Hash) (x := (⟨false, (List.replicate 8 (0 : Int)), (List.replicate 64 (0 : Int)), (0 : Int), (0 : Int)⟩ : digest_Hash)) (Zr.pair Zr.bool (Zr.pair (Zr.arr 8 (Zr.int .u32)) (Zr.pair (Zr.arr 64 (Zr.int .u8)) (Zr.pair (Zr.int .i64) (Zr.pair (Zr.int .u64) Zr.nil))))))) fun b2 a6 w6 s6 => ?_; clear s5
  refine wpList_nil ?_
  refine then_normal ?_
  refine hK2 _ _ ?_
  have s7 := s6.sub (.cons (t := 0) rfl (.cons (t := 2) rfl (.cons (t := 3) rfl (.cons (t := 100000) rfl (.cons (t := 100001) rfl .nil))))); clear s6
  refine wp_seq_k fun K3 hK3 => ?_
  refine wp_seq_k fun K4 hK4 => ?_
  refine wp_region_lit ?_
  refine seq_op s7 rfl rfl (of_decide_eq_true rfl) (ob_move rfl (.tmp rfl)) fun a8 w8 s8 => ?_; clear s7
  refine seq_op s8 rfl rfl (of_decide_eq_true rfl) (ob_ptrNotNil (p := none) rfl pt44 (.tmp rfl) opd_is) fun a9 w9 s9 => ?_; clear s8
  refine wpList_nil ?_
  refine then_normal ?_
  refine hK4 _ _ ?_
  have s10 := s9.sub (.cons (t := 0) rfl (.cons (t := 2) rfl (.cons (t := 3) rfl (.cons (t := 9) rfl (.cons (t := 100000) rfl (.cons (t := 100001) rfl .nil)))))); clear s9
  refine cond_f s10 (.tmp rfl) ?_
  refine wp_skip ?_
  refine then_normal ?_
  refine hK3 _ _ ?_
  have s11 := s10.sub (.cons (t := 2) rfl (.cons (t := 3) rfl (.cons (t := 100000) rfl (.cons (t := 100001) rfl .nil)))); clear s10
  refine wp_seq_k fun K5 hK5 => ?_
  refine wp_region_lit ?_
  obtain ⟨x1, e_x1, h1⟩ := bind_some h0; clear h0
  refine seq_opx (B' := fun _ => [BF b2 35 k_digest_Hash x1, BF b1 26 (karr 32 (kint .u8)) (List.replicate 32 (0 : Int))]) s11 rfl rfl (of_decide_eq_true rfl) (ob_callW (A := []) rfl hb44 rfl (LG.refl _ _) (LS.refl _ _ _) (by decide) rfl (fun a w s pre post q1 q2 hpl hl hd => c_digest_Hash_begin k _ _ e_x1 _ _ (s.env _ _ (show get _ 100000 = _ from rfl)) _ _ _ pre post q1 q2 hl hd (by rw [hpl]; exact s.arg (.tmp rfl)))) fun _ a12 w12 s12 => ?_; clear s11
  refine wpList_nil ?_
  refine then_normal ?_
  refine hK5 _ _ ?_
  have s13 := s12.sub (.cons (t := 2) rfl (.cons (t := 3) rfl (.cons (t := 100000) rfl (.cons (t := 100001) rfl .nil)))); clear s12
  refine wp_seq_k fun K6 hK6 => ?_
  refine wp_region_lit ?_
  obtain ⟨x2, e_x2, h2⟩ := bind_some h1; clear h1
  refine seq_opx (B' := fun _ => [BF b2 35 k_digest_Hash x2, BF b1 26 (karr 32 (kint .u8)) (List.replicate 32 (0 : Int))]) s13 rfl rfl (of_decide_eq_true rfl) (ob_callW (A := []) rfl hb45 rfl (LG.refl _ _) (LS.refl _ _ _) (by decide) rfl (fun a w s pre post q1 q2 hpl hl hd => c_digest_Hash_put k _ _ _ e_x2 _ _ (s.env _ _ (show get _ 100001 = _ from rfl)) _ _ _ _ pre post q1 q2 hl hd (by rw [hpl]; exact s.arg (.tmp rfl)) (s.arg (opd_int rfl)))) fun _ a14 w14 s14 => ?_; clear s13
  refine wpList_nil ?_
  refine then_normal ?_
  refine hK6 _ _ ?_
  have s15 := s14.sub (.cons (t := 2) rfl (.cons (t := 3) rfl (.cons (t := 100000) rfl (.cons (t := 100001) rfl .nil)))); clear s14
  refine wp_seq_k fun K7 hK7 => ?_
  have hj1 : ∀ (y1 : digest_Hash) (b2 : Nat) (b1 : Nat) (a : Act) (w : World), (digest_Hash_Sum_nil.j1 k) y1 = some r → St ⟨64, w0, ok, []⟩ [BF b2 35 k_digest_Hash y1, BF b1 26 (karr 32 (kint .u8)) (List.replicate 32 (0 : Int))] [(2, (ptrB b1 0)), (3, (ptrB b2 0)), (100000, (known (.pointer (some ⟨0, 0, none⟩)) (ptrTo (karr 8 (kint .u32)) G_digest_first))), (100001, (known (.pointer (some ⟨1, 0, none⟩)) (ptrTo (karr 64 (kint .u32)) G_digest_rounds)))] a w → K7 a w := by
    intro y1 b2 b1 a16 w16 h3 s16
    unfold digest_Hash_Sum_nil.j1 at h3
    refine hK7 _ _ ?_
    refine wp_seq_k fun K8 hK8 => ?_
    refine wp_seq_k fun K9 hK9 => ?_
    refine wp_region_lit ?_
    refine seq_op s16 rfl rfl (of_decide_eq_true rfl) (ob_assign rfl (opd_int rfl)) fun a17 w17 s17 => ?_; clear s16
    refine wpList_nil ?_
    refine then_normal ?_
    refine hK9 _ _ ?_
    have s18 := s17.sub (.cons (t := 2) rfl (.cons (t := 3) rfl (.cons (t := 4) rfl (.cons (t := 100000) rfl (.cons (t := 100001) rfl .nil))))); clear s17
    have hj2 : ∀ (y2 : digest_Hash) (a : Act) (w : World), (digest_Hash_Sum_nil.j2 k) y2 = some r → St ⟨64, w0, ok, []⟩ [BF b2 35 k_digest_Hash y2, BF b1 26 (karr 32 (kint .u8)) (List.replicate 32 (0 : Int))] [(2, (ptrB b1 0)), (3, (ptrB b2 0)), (100000, (known (.pointer (some ⟨0, 0, none⟩)) (ptrTo (karr 8 (kint .u32)) G_digest_first))), (100001, (known (.pointer (some ⟨1, 0, none⟩)) (ptrTo (karr 64 (kint .u32)) G_digest_rounds)))] a w → K8 a w := by
      intro y2 a19 w19 h4 s19
      unfold digest_Hash_Sum_nil.j2 at h4
      refine hK8 _ _ ?_
      refine wp_seq_k fun K10 hK10 => ?_
      refine wp_region_lit ?_
      refine seq_opx s19 rfl rfl (of_decide_eq_true rfl) (ob_new (k := (karr 32 (kint .u8))) rfl zz26 (Zr.arr 32 (Zr.int .u8))) fun b3 a20 w20 s20 => ?_; clear s19
      refine wpList_nil ?_
      refine then_normal ?_
      refine hK10 _ _ ?_
      have s21 := s20.sub (.cons (t := 2) rfl (.cons (t := 3) rfl (.cons (t := 5) rfl (.cons (t := 100000) rfl (.cons (t := 100001) rfl .nil))))); clear s20
      refine wp_seq_k fun K11 hK11 => ?_
      refine wp_seq_k fun K12 hK12 => ?_
      refine wp_region_lit ?_
      refine seq_op s21 rfl rfl (of_decide_eq_true rfl) (ob_fieldAddr (off' := 1) rfl Tryd.underlying35 rfl sz31 (by decide) (.tmp rfl) rfl) fun a22 w22 s22 => ?_; clear s21
      refine seq_op s22 rfl rfl (of_decide_eq_true rfl) (ob_load rfl tk31 (.tmp rfl) (List.Mem.tail _ (List.Mem.head _)) (lg_digest_Hash_state y2)) fun a23 w23 s23 => ?_; clear s22
      refine seq_op s23 rfl rfl (of_decide_eq_true rfl) (ob_move rfl (opd_int rfl)) fun a24 w24 s24 => ?_; clear s23
      refine wpList_nil ?_
      refine then_normal ?_
      refine hK12 _ _ ?_
      have s25 := s24.sub (.cons (t := 2) rfl (.cons (t := 5) rfl (.cons (t := 31) rfl (.cons (t := 32) rfl (.cons (t := 100000) rfl (.cons (t := 100001) rfl .nil)))))); clear s24
      have s26 := St.drop (A := [_]) s25; clear s25
      have hj3 : ∀ (y3 : (List Int)) (b3 : Nat) (a : Act) (w : World), (digest_Hash_Sum_nil.j3 k) y3 = some r → St ⟨64, w0, ok, []⟩ [BF b3 26 (karr 32 (kint .u8)) y3, BF b1 26 (karr 32 (kint .u8)) (List.replicate 32 (0 : Int))] [(2, (ptrB b1 0)), (5, (ptrB b3 0)), (100000, (known (.pointer (some ⟨0, 0, none⟩)) (ptrTo (karr 8 (kint .u32)) G_digest_first))), (100001, (known (.pointer (some ⟨1, 0, none⟩)) (ptrTo (karr 64 (kint .u32)) G_digest_rounds)))] a w → K11 a w := by
        intro y3 b3 a27 w27 h5 s27
        unfold digest_Hash_Sum_nil.j3 at h5
        refine hK11 _ _ ?_
        refine wp_seq_k fun K13 hK13 => ?_
        refine wp_region_lit ?_
        refine seq_op s27 rfl rfl (of_decide_eq_true rfl) (ob_load rfl tk26 (.tmp rfl) (List.Mem.head _) (LG.refl _ _)) fun a28 w28 s28 => ?_; clear s27
        refine seq_opx0 (B' := fun _ => [BF b3 26 (karr 32 (kint .u8)) y3, BF b1 26 (karr 32 (kint .u8)) y3]) s28 rfl rfl (ob_store (A := [_]) rfl tk26 (.tmp rfl) (.tmp rfl) rfl (LS.refl _ _ _) rfl) fun _ a29 w29 s29 => ?_; clear s28
        refine wpList_nil ?_
        refine then_normal ?_
        refine hK13 _ _ ?_
        have s30 := s29.sub (.cons (t := 2) rfl (.cons (t := 100000) rfl (.cons (t := 100001) rfl .nil))); clear s29
        have s31 := St.drop (A := []) s30; clear s30
        refine wp_ret ?_
        obtain rfl := Option.some.inj h5
        exact leave s31 (.inl rfl) rfl (.cons (.cell rfl tk26 (List.Mem.head _) (LG.refl _ _)) .nil)
      refine wp_block ?_
      refine wp_loop_fuel (fun m (q : Int × (List Int)) => digest_Hash_Sum_nil.l1 k y2 m q.1 q.2) r (fun _ => rfl) (fun q a w => ∃ (b3 : Nat), St ⟨64, w0, ok, []⟩ [BF b3 26 (karr 32 (kint .u8)) q.2, BF b1 26 (karr 32 (kint .u8)) (List.replicate 32 (0 : Int))] [(2, (ptrB b1 0)), (5, (ptrB b3 0)), (31, ((karr 8 (kint .u32)).V y2.state)), (32, ((kint .i64).V q.1)), (100000, (known (.pointer (some ⟨0, 0, none⟩)) (ptrTo (karr 8 (kint .u32)) G_digest_first))), (100001, (known (.pointer (some ⟨1, 0, none⟩)) (ptrTo (karr 64 (kint .u32)) G_digest_rounds)))] a w) ?_ k ((0 : Int), (List.replicate 32 (0 : Int))) _ _ h4 ⟨b3, (s26.sub (.cons rfl (.cons rfl (.cons rfl (.cons rfl (.cons rfl (.cons rfl .nil)))))))⟩
      rintro n1 ⟨y4, y5⟩ a32 w32 h6 ⟨b3, s32⟩ K14 hK14
      replace h6 : digest_Hash_Sum_nil.l1 k y2 (n1 + 1) y4 y5 = some r := h6; rw [digest_Hash_Sum_nil.l1] at h6
      have h7 := h6; clear h6
      refine wp_seq_k fun K15 hK15 => ?_
      refine wp_region_lit ?_
      refine seq_op s32 rfl rfl (of_decide_eq_true rfl) (ob_lss rfl (.tmp rfl) (opd_int rfl)) fun a33 w33 s33 => ?_; clear s32
      refine wpList_nil ?_
      refine then_normal ?_
      refine hK15 _ _ ?_
      have s34 := s33.sub (.cons (t := 2) rfl (.cons (t := 5) rfl (.cons (t := 31) rfl (.cons (t := 32) rfl (.cons (t := 33) rfl (.cons (t := 100000) rfl (.cons (t := 100001) rfl .nil))))))); clear s33
      refine wp_seq_k fun K16 hK16 => ?_
      refine cond_split s34 (.tmp rfl) (fun hc2 => ?_) (fun hc2 => ?_)
      · replace h7 := ite_t hc2 h7
        have h8 := h7; clear h7
        refine wp_skip ?_
        refine then_normal ?_
        refine hK16 _ _ ?_
        have s35 := s34.sub (.cons (t := 2) rfl (.cons (t := 5) rfl (.cons (t := 31) rfl (.cons (t := 32) rfl (.cons (t := 100000) rfl (.cons (t := 100001) rfl .nil)))))); clear s34
        refine wp_seq_k fun K17 hK17 => ?_
        refine wp_block ?_
        refine wp_seq_k fun K18 hK18 => ?_
        refine wp_region_lit ?_
        refine seq_op s35 rfl rfl (of_decide_eq_true rfl) (ob_move rfl (.tmp rfl)) fun a36 w36 s36 => ?_; clear s35
        obtain ⟨x3, e_x3, h9⟩ := bind_some h8; clear h8
        obtain ⟨g1, h10⟩ := guard_some h9; clear h9
        refine seq_op s36 rfl rfl (of_decide_eq_true rfl) (ob_index rfl Tryd.underlying31 tk30 (.tmp rfl) (.tmp rfl) g1 e_x3) fun a37 w37 s37 => ?_; clear s36
        refine seq_op s37 rfl rfl (of_decide_eq_true rfl) (ob_assign rfl (.tmp rfl)) fun a38 w38 s38 => ?_; clear s37
        refine seq_op s38 rfl rfl (of_decide_eq_true rfl) (ob_assign rfl (.tmp rfl)) fun a39 w39 s39 => ?_; clear s38
        refine wpList_nil ?_
        refine then_normal ?_
        refine hK18 _ _ ?_
        have s40 := s39.sub (.cons (t := 2) rfl (.cons (t := 5) rfl (.cons (t := 6) rfl (.cons (t := 7) rfl (.cons (t := 31) rfl (.cons (t := 32) rfl (.cons (t := 100000) rfl (.cons (t := 100001) rfl .nil)))))))); clear s39
        refine wp_region_lit ?_
        refine seq_op s40 rfl rfl (of_decide_eq_true rfl) (ob_move rfl (.tmp rfl)) fun a41 w41 s41 => ?_; clear s40
        refine seq_op s41 rfl rfl (of_decide_eq_true rfl) (ob_mul rfl (opd_int rfl) (.tmp rfl)) fun a42 w42 s42 => ?_; clear s41
        refine seq_op s42 rfl rfl (of_decide_eq_true rfl) (ob_move rfl (.tmp rfl)) fun a43 w43 s43 => ?_; clear s42
        refine seq_op s43 rfl rfl (of_decide_eq_true rfl) (ob_mul rfl (opd_int rfl) (.tmp rfl)) fun a44 w44 s44 => ?_; clear s43
        refine seq_op s44 rfl rfl (of_decide_eq_true rfl) (ob_add rfl (.tmp rfl) (opd_int rfl)) fun a45 w45 s45 => ?_; clear s44
        refine seq_op s45 rfl rfl (of_decide_eq_true rfl) (ob_move rfl (.tmp rfl)) fun a46 w46 s46 => ?_; clear s45
        refine seq_op s46 rfl rfl (of_decide_eq_true rfl) (ob_mul rfl (opd_int rfl) (.tmp rfl)) fun a47 w47 s47 => ?_; clear s46
        refine seq_op s47 rfl rfl (of_decide_eq_true rfl) (ob_add rfl (.tmp rfl) (opd_int rfl)) fun a48 w48 s48 => ?_; clear s47
        refine seq_op s48 rfl rfl (of_decide_eq_true rfl) (ob_move rfl (.tmp rfl)) fun a49 w49 s49 => ?_; clear s48
        refine seq_op s49 rfl rfl (of_decide_eq_true rfl) (ob_mul rfl (opd_int rfl) (.tmp rfl)) fun a50 w50 s50 => ?_; clear s49
        refine seq_op s50 rfl rfl (of_decide_eq_true rfl) (ob_add rfl (.tmp rfl) (opd_int rfl)) fun a51 w51 s51 => ?_; clear s50
        refine seq_op s51 rfl rfl (of_decide_eq_true rfl) (ob_move rfl (.tmp rfl)) fun a52 w52 s52 => ?_; clear s51
        refine seq_op s52 rfl rfl (of_decide_eq_true rfl) (ob_shr rfl (.tmp rfl) (opd_int rfl) (by decide)) fun a53 w53 s53 => ?_; clear s52
        refine seq_op s53 rfl rfl (of_decide_eq_true rfl) (ob_conv rfl _ Tryd.underlying30 Tryd.underlying5 (.tmp rfl)) fun a54 w54 s54 => ?_; clear s53
        refine seq_op s54 rfl rfl (of_decide_eq_true rfl) (ob_move rfl (.tmp rfl)) fun a55 w55 s55 => ?_; clear s54
        refine seq_op s55 rfl rfl (of_decide_eq_true rfl) (ob_shr rfl (.tmp rfl) (opd_int rfl) (by decide)) fun a56 w56 s56 => ?_; clear s55
        refine seq_op s56 rfl rfl (of_decide_eq_true rfl) (ob_conv rfl _ Tryd.underlying30 Tryd.underlying5 (.tmp rfl)) fun a57 w57 s57 => ?_; clear s56
        refine seq_op s57 rfl rfl (of_decide_eq_true rfl) (ob_move rfl (.tmp rfl)) fun a58 w58 s58 => ?_; clear s57
        refine seq_op s58 rfl rfl (of_decide_eq_true rfl) (ob_shr rfl (.tmp rfl) (opd_int rfl) (by decide)) fun a59 w59 s59 => ?_; clear s58
        refine seq_op s59 rfl rfl (of_decide_eq_true rfl) (ob_conv rfl _ Tryd.underlying30 Tryd.underlying5 (.tmp rfl)) fun a60 w60 s60 => ?_; clear s59
        refine seq_op s60 rfl rfl (of_decide_eq_true rfl) (ob_move rfl (.tmp rfl)) fun a61 w61 s61 => ?_; clear s60
        refine seq_op s61 rfl rfl (of_decide_eq_true rfl) (ob_conv rfl _ Tryd.underlying30 Tryd.underlying5 (.tmp rfl)) fun a62 w62 s62 => ?_; clear s61
        obtain ⟨g2, h11⟩ := guard_some h10; clear h10
        refine seq_op s62 rfl rfl (of_decide_eq_true rfl) (ob_indexAddr rfl Tryd.underlying26 sz5 (.tmp rfl) (.tmp rfl) g2.1 g2.2 (Nat.zero_add _)) fun a63 w63 s63 => ?_; clear s62
        obtain ⟨x4, e_x4, h12⟩ := bind_some h11; clear h11
        refine seq_opx0 (B' := fun _ => [BF b3 26 (karr 32 (kint .u8)) x4, BF b1 26 (karr 32 (kint .u8)) (List.replicate 32 (0 : Int))]) s63 rfl rfl (ob_store (A := []) rfl tk5 (.tmp rfl) (.tmp rfl) rfl (LS.arrS e_x4) rfl) fun _ a64 w64 s64 => ?_; clear s63
        obtain ⟨g3, h13⟩ := guard_some h12; clear h12
        refine seq_op s64 rfl rfl (of_decide_eq_true rfl) (ob_indexAddr rfl Tryd.underlying26 sz5 (.tmp rfl) (.tmp rfl) g3.1 g3.2 (Nat.zero_add _)) fun a65 w65 s65 => ?_; clear s64
        obtain ⟨x5, e_x5, h14⟩ := bind_some h13; clear h13
        refine seq_opx0 (B' := fun _ => [BF b3 26 (karr 32 (kint .u8)) x5, BF b1 26 (karr 32 (kint .u8)) (List.replicate 32 (0 : Int))]) s65 rfl rfl (ob_store (A := []) rfl tk5 (.tmp rfl) (.tmp rfl) rfl (LS.arrS e_x5) rfl) fun _ a66 w66 s66 => ?_; clear s65
        obtain ⟨g4, h15⟩ := guard_some h14; clear h14
        refine seq_op s66 rfl rfl (of_decide_eq_true rfl) (ob_indexAddr rfl Tryd.underlying26 sz5 (.tmp rfl) (.tmp rfl) g4.1 g4.2 (Nat.zero_add _)) fun a67 w67 s67 => ?_; clear s66
        obtain ⟨x6, e_x6, h16⟩ := bind_some h15; clear h15
        refine seq_opx0 (B' := fun _ => [BF b3 26 (karr 32 (kint .u8)) x6, BF b1 26 (karr 32 (kint .u8)) (List.replicate 32 (0 : Int))]) s67 rfl rfl (ob_store (A := []) rfl tk5 (.tmp rfl) (.tmp rfl) rfl (LS.arrS e_x6) rfl) fun _ a68 w68 s68 => ?_; clear s67
        obtain ⟨g5, h17⟩ := guard_some h16; clear h16
        refine seq_op s68 rfl rfl (of_decide_eq_true rfl) (ob_indexAddr rfl Tryd.underlying26 sz5 (.tmp rfl) (.tmp rfl) g5.1 g5.2 (Nat.zero_add _)) fun a69 w69 s69 => ?_; clear s68
        obtain ⟨x7, e_x7, h18⟩ := bind_some h17; clear h17
        refine seq_opx0 (B' := fun _ => [BF b3 26 (karr 32 (kint .u8)) x7, BF b1 26 (karr 32 (kint .u8)) (List.replicate 32 (0 : Int))]) s69 rfl rfl (ob_store (A := []) rfl tk5 (.tmp rfl) (.tmp rfl) rfl (LS.arrS e_x7) rfl) fun _ a70 w70 s70 => ?_; clear s69
        refine wpList_nil ?_
        refine in_normal ?_
        refine then_normal ?_
        refine hK17 _ _ ?_
        have s71 := s70.sub (.cons (t := 2) rfl (.cons (t := 5) rfl (.cons (t := 31) rfl (.cons (t := 32) rfl (.cons (t := 100000) rfl (.cons (t := 100001) rfl .nil)))))); clear s70
        refine wp_region_lit ?_
        refine seq_op s71 rfl rfl (of_decide_eq_true rfl) (ob_add rfl (.tmp rfl) (opd_int rfl)) fun a72 w72 s72 => ?_; clear s71
        refine seq_op s72 rfl rfl (of_decide_eq_true rfl) (ob_move rfl (.tmp rfl)) fun a73 w73 s73 => ?_; clear s72
        refine wpList_nil ?_
        refine then_normal ?_
        exact hK14 ((iadd .i64 y4 (1 : Int)), x7) _ _ h18 ⟨b3, (s73.sub (.cons rfl (.cons rfl (.cons rfl (.cons rfl (.cons rfl (.cons rfl .nil)))))))⟩
      · replace h7 := ite_f hc2 h7
        have h19 := h7; clear h7
        refine wp_exit ?_
        refine (then_exit (then_exit (in_here ?_)))
        refine then_normal ?_
        exact hj3 y5 b3 _ _ h19 (s34.sub (.cons rfl (.cons rfl (.cons rfl (.cons rfl .nil)))))
    refine wp_block ?_
    refine wp_loop_fuel (fun m (q : Int × digest_Hash) => digest_Hash_Sum_nil.l2 k m q.1 q.2) r (fun _ => rfl) (fun q a w => St ⟨64, w0, ok, []⟩ [BF b2 35 k_digest_Hash q.2, BF b1 26 (karr 32 (kint .u8)) (List.replicate 32 (0 : Int))] [(2, (ptrB b1 0)), (3, (ptrB b2 0)), (4, ((kint .i64).V q.1)), (100000, (known (.pointer (some ⟨0, 0, none⟩)) (ptrTo (karr 8 (kint .u32)) G_digest_first))), (100001, (known (.pointer (some ⟨1, 0, none⟩)) (ptrTo (karr 64 (kint .u32)) G_digest_rounds)))] a w) ?_ k ((56 : Int), y1) _ _ h3 (s18.sub (.cons rfl (.cons rfl (.cons rfl (.cons rfl (.cons rfl .nil))))))
    rintro n2 ⟨y6, y7⟩ a74 w74 h20 s74 K19 hK19
    replace h20 : digest_Hash_Sum_nil.l2 k (n2 + 1) y6 y7 = some r := h20; rw [digest_Hash_Sum_nil.l2] at h20
    have h21 := h20; clear h20
    refine wp_seq_k fun K20 hK20 => ?_
    refine wp_seq_k fun K21 hK21 => ?_
    refine wp_region_lit ?_
    refine seq_op s74 rfl rfl (of_decide_eq_true rfl) (ob_move rfl (.tmp rfl)) fun a75 w75 s75 => ?_; clear s74
    refine seq_op s75 rfl rfl (of_decide_eq_true rfl) (ob_geq rfl (.tmp rfl) (opd_int rfl)) fun a76 w76 s76 => ?_; clear s75
    refine wpList_nil ?_
    refine then_normal ?_
    refine hK21 _ _ ?_
    have s77 := s76.sub (.cons (t := 2) rfl (.cons (t := 3) rfl (.cons (t := 4) rfl (.cons (t := 20) rfl (.cons (t := 100000) rfl (.cons (t := 100001) rfl .nil)))))); clear s76
    refine cond_split s77 (.tmp rfl) (fun hc3 => ?_) (fun hc3 => ?_)
    · replace h21 := ite_t hc3 h21
      have h22 := h21; clear h21
      refine wp_skip ?_
      refine then_normal ?_
      refine hK20 _ _ ?_
      have s78 := s77.sub (.cons (t := 2) rfl (.cons (t := 3) rfl (.cons (t := 4) rfl (.cons (t := 100000) rfl (.cons (t := 100001) rfl .nil))))); clear s77
      refine wp_seq_k fun K22 hK22 => ?_
      refine wp_block ?_
      refine wp_region_lit ?_
      refine seq_op s78 rfl rfl (of_decide_eq_true rfl) (ob_fieldAddr (off' := 74) rfl Tryd.underlying35 rfl sz33 (by decide) (.tmp rfl) rfl) fun a79 w79 s79 => ?_; clear s78
      refine seq_op s79 rfl rfl (of_decide_eq_true rfl) (ob_load rfl tk33 (.tmp rfl) (List.Mem.head _) (lg_digest_Hash_taken y7)) fun a80 w80 s80 => ?_; clear s79
      refine seq_op s80 rfl rfl (of_decide_eq_true rfl) (ob_mul rfl (opd_int rfl) (.tmp rfl)) fun a81 w81 s81 => ?_; clear s80
      refine seq_op s81 rfl rfl (of_decide_eq_true rfl) (ob_move rfl (.tmp rfl)) fun a82 w82 s82 => ?_; clear s81
      obtain ⟨g6, h23⟩ := guard_some h22; clear h22
      refine seq_op s82 rfl rfl (of_decide_eq_true rfl) (ob_shr rfl (.tmp rfl) (.tmp rfl) g6) fun a83 w83 s83 => ?_; clear s82
      refine seq_op s83 rfl rfl (of_decide_eq_true rfl) (ob_conv rfl _ Tryd.underlying33 Tryd.underlying5 (.tmp rfl)) fun a84 w84 s84 => ?_; clear s83
      obtain ⟨x8, e_x8, h24⟩ := bind_some h23; clear h23
      refine seq_opx (B' := fun _ => [BF b2 35 k_digest_Hash x8, BF b1 26 (karr 32 (kint .u8)) (List.replicate 32 (0 : Int))]) s84 rfl rfl (of_decide_eq_true rfl) (ob_callW (A := []) rfl hb45 rfl (LG.refl _ _) (LS.refl _ _ _) (by decide) rfl (fun a w s pre post q1 q2 hpl hl hd => c_digest_Hash_put k _ _ _ e_x8 _ _ (s.env _ _ (show get _ 100001 = _ from rfl)) _ _ _ _ pre post q1 q2 hl hd (by rw [hpl]; exact s.arg (.tmp rfl)) (s.arg (.tmp rfl)))) fun _ a85 w85 s85 => ?_; clear s84
      refine wpList_nil ?_
      refine in_normal ?_
      refine then_normal ?_
      refine hK22 _ _ ?_
      have s86 := s85.sub (.cons (t := 2) rfl (.cons (t := 3) rfl (.cons (t := 4) rfl (.cons (t := 100000) rfl (.cons (t := 100001) rfl .nil))))); clear s85
      refine wp_region_lit ?_
      refine seq_op s86 rfl rfl (of_decide_eq_true rfl) (ob_move rfl (.tmp rfl)) fun a87 w87 s87 => ?_; clear s86
      refine seq_op s87 rfl rfl (of_decide_eq_true rfl) (ob_sub rfl (.tmp rfl) (opd_int rfl)) fun a88 w88 s88 => ?_; clear s87
      refine seq_op s88 rfl rfl (of_decide_eq_true rfl) (ob_assign rfl (.tmp rfl)) fun a89 w89 s89 => ?_; clear s88
      refine wpList_nil ?_
      refine then_normal ?_
      exact hK19 ((isub .i64 y6 (8 : Int)), x8) _ _ h24 (s89.sub (.cons rfl (.cons rfl (.cons rfl (.cons rfl (.cons rfl .nil))))))
    · replace h21 := ite_f hc3 h21
      have h25 := h21; clear h21
      refine wp_exit ?_
      refine (then_exit (then_exit (in_here ?_)))
      refine then_normal ?_
      exact hj2 y7 _ _ h25 (s77.sub (.cons rfl (.cons rfl (.cons rfl (.cons rfl .nil)))))
  refine wp_block ?_
  refine wp_loop_fuel (fun m (q : digest_Hash) => digest_Hash_Sum_nil.l3 k m q) r (fun _ => rfl) (fun q a w => ∃ (b2 : Nat) (b1 : Nat), St ⟨64, w0, ok, []⟩ [BF b2 35 k_digest_Hash q, BF b1 26 (karr 32 (kint .u8)) (List.replicate 32 (0 : Int))] [(2, (ptrB b1 0)), (3, (ptrB b2 0)), (100000, (known (.pointer (some ⟨0, 0, none⟩)) (ptrTo (karr 8 (kint .u32)) G_digest_first))), (100001, (known (.pointer (some ⟨1, 0, none⟩)) (ptrTo (karr 64 (kint .u32)) G_digest_rounds)))] a w) ?_ k x2 _ _ h2 ⟨b2, b1, (s15.sub (.cons rfl (.cons rfl (.cons rfl (.cons rfl .nil)))))⟩
  rintro n3 y8 a90 w90 h26 ⟨b2, b1, s90⟩ K23 hK23
  replace h26 : digest_Hash_Sum_nil.l3 k (n3 + 1) y8 = some r := h26; rw [digest_Hash_Sum_nil.l3] at h26
  have h27 := h26; clear h26
  refine wp_seq_k fun K24 hK24 => ?_
  refine wp_seq_k fun K25 hK25 => ?_
  refine wp_region_lit ?_
  refine seq_op s90 rfl rfl (of_decide_eq_true rfl) (ob_fieldAddr (off' := 73) rfl Tryd.underlying35 rfl sz3 (by decide) (.tmp rfl) rfl) fun a91 w91 s91 => ?_; clear s90
  refine seq_op s91 rfl rfl (of_decide_eq_true rfl) (ob_load rfl tk3 (.tmp rfl) (List.Mem.head _) (lg_digest_Hash_many y8)) fun a92 w92 s92 => ?_; clear s91
  refine seq_op s92 rfl rfl (of_decide_eq_true rfl) (ob_neq rfl (.tmp rfl) (opd_int rfl)) fun a93 w93 s93 => ?_; clear s92
  refine wpList_nil ?_
  refine then_normal ?_
  refine hK25 _ _ ?_
  have s94 := s93.sub (.cons (t := 2) rfl (.cons (t := 3) rfl (.cons (t := 17) rfl (.cons (t := 100000) rfl (.cons (t := 100001) rfl .nil))))); clear s93
  refine cond_split s94 (.tmp rfl) (fun hc4 => ?_) (fun hc4 => ?_)
  · replace h27 := ite_t hc4 h27
    have h28 := h27; clear h27
    refine wp_skip ?_
    refine then_normal ?_
    refine hK24 _ _ ?_
    have s95 := s94.sub (.cons (t := 2) rfl (.cons (t := 3) rfl (.cons (t := 100000) rfl (.cons (t := 100001) rfl .nil)))); clear s94
    refine wp_block ?_
    refine wp_region_lit ?_
    obtain ⟨x9, e_x9, h29⟩ := bind_some h28; clear h28
    refine seq_opx (B' := fun _ => [BF b2 35 k_digest_Hash x9, BF b1 26 (karr 32 (kint .u8)) (List.replicate 32 (0 : Int))]) s95 rfl rfl (of_decide_eq_true rfl) (ob_callW (A := []) rfl hb45 rfl (LG.refl _ _) (LS.refl _ _ _) (by decide) rfl (fun a w s pre post q1 q2 hpl hl hd => c_digest_Hash_put k _ _ _ e_x9 _ _ (s.env _ _ (show get _ 100001 = _ from rfl)) _ _ _ _ pre post q1 q2 hl hd (by rw [hpl]; exact s.arg (.tmp rfl)) (s.arg (opd_int rfl)))) fun _ a96 w96 s96 => ?_; clear s95
    refine wpList_nil ?_
    refine in_normal ?_
    refine then_normal ?_
    exact hK23 x9 _ _ h29 ⟨b2, b1, (s96.sub (.cons rfl (.cons rfl (.cons rfl (.cons rfl .nil)))))⟩
  · replace h27 := ite_f hc4 h27
    have h30 := h27; clear h27
    refine wp_exit ?_
    refine (then_exit (then_exit (in_here ?_)))
    refine then_normal ?_
    exact hj1 y8 b2 b1 _ _ h30 (s94.sub (.cons rfl (.cons rfl (.cons rfl (.cons rfl .nil)))))

/- 18 cabal/digest.Sum -/
theorem c_digest_Sum (k : Nat) (p1 : (List (List Int))) (r : (List Int)) (h0 : digest_Sum k p1 = some r) (ok : Ok) (w0 : World) (gl0 : (ptrTo (karr 8 (kint .u32)) G_digest_first).holds ok w0 (.pointer (some ⟨0, 0, none⟩))) (gl1 : (ptrTo (karr 64 (kint .u32)) G_digest_rounds).holds ok w0 (.pointer (some ⟨1, 0, none⟩))) (z0 : Value) (u0 : ((ksl kstr).V p1).holds ok w0 z0) :
    Gives Tryd.prog 18 [z0] ok w0 (resFact [(karr 32 (kint .u8)).V r]) := by
  unfold digest_Sum at h0
  refine enter (N := 7) Tryd.func18 rfl rfl (of_decide_eq_true rfl) (.cons u0 .nil) fun a1 s1 => ?_
  have s2 := s1.keepKnown 100000 gl0 okIn; clear s1
  have s3 := s2.keepKnown 100001 gl1 okIn; clear s2
  refine wp_seq_k fun K1 hK1 => ?_
  refine wp_region_lit ?_
  refine seq_opx s3 rfl rfl (of_decide_eq_true rfl) (ob_new (k := (karr 32 (kint .u8))) rfl zz26 (Zr.arr 32 (Zr.int .u8))) fun b1 a4 w4 s4 => ?_; clear s3
  refine wpList_nil ?_
  refine then_normal ?_
  refine hK1 _ _ ?_
  have s5 := s4.sub (.cons (t := 0) rfl (.cons (t := 2) rfl (.cons (t := 100000) rfl (.cons (t := 100001) rfl .nil)))); clear s4
  refine wp_seq_k fun K2 hK2 => ?_
  refine wp_region_lit ?_
  refine seq_opx s5 rfl rfl (of_decide_eq_true rfl) (ob_new (k := k_digest_Hash) rfl zz35 (Zr.iso (f := t_digest_Hash) (x := (⟨false, (List.replicate 8 (0 : Int)), (List.replicate 64 (0 : Int)), (0 : Int), (0 : Int)⟩ : digest_Hash)) (Zr.pair Zr.bool (Zr.pair (Zr.arr 8 (Zr.int .u32)) (Zr.pair (Zr.arr 64 (Zr.int .u8)) (Zr.pair (Zr.int .i64) (Zr.pair (Zr.int .u64) Zr.nil))))))) fun b2 a6 w6 s6 => ?_; clear s5
  refine wpList_nil ?_
  refine then_normal ?_
  refine hK2 _ _ ?_
  have s7 := s6.sub (.cons (t := 0) rfl (.cons (t := 2) rfl (.cons (t := 3) rfl (.cons (t := 100000) rfl (.cons (t := 100001) rfl .nil))))); clear s6
  refine wp_seq_k fun K3 hK3 => ?_
  refine wp_region_lit ?_
  refine seq_op s7 rfl rfl (of_decide_eq_true rfl) (ob_move rfl (.tmp rfl)) fun a8 w8 s8 => ?_; clear s7
  obtain ⟨x1, e_x1, h1⟩ := bind_some h0; clear h0
  refine seq_opx (B' := fun _ => [BF b2 35 k_digest_Hash x1, BF b1 26 (karr 32 (kint .u8)) (List.replicate 32 (0 : Int))]) s8 rfl rfl (of_decide_eq_true rfl) (ob_callW (A := []) rfl hb21 rfl (LG.refl _ _) (LS.refl _ _ _) (by decide) rfl (fun a w s pre post q1 q2 hpl hl hd => c_digest_Hash_Write k _ _ _ e_x1 _ _ (s.env _ _ (show get _ 100000 = _ from rfl)) (s.env _ _ (show get _ 100001 = _ from rfl)) _ _ _ _ pre post q1 q2 hl hd (by rw [hpl]; exact s.arg (.tmp rfl)) (s.arg (.tmp rfl)))) fun _ a9 w9 s9 => ?_; clear s8
  refine wpList_nil ?_
  refine then_normal ?_
  refine hK3 _ _ ?_
  have s10 := s9.sub (.cons (t := 2) rfl (.cons (t := 3) rfl (.cons (t := 100000) rfl (.cons (t := 100001) rfl .nil)))); clear s9
  refine wp_seq_k fun K4 hK4 => ?_
  refine wp_region_lit ?_
  obtain ⟨x2, e_x2, h2⟩ := bind_some h1; clear h1
  refine seq_op s10 rfl rfl (of_decide_eq_true rfl) ((ob_lend (t := 3) (A := []) rfl rfl rfl (Flat.res1 (Flat.V (KFlat.arr (KFlat.int _)))) (lendPtr (LG.refl _ _)) (fun _ => ob_calls rfl hb22 (fun a w s => c_digest_Hash_Sum k _ _ e_x2 _ _ (s.env _ _ (show get _ 100000 = _ from rfl)) (s.env _ _ (show get _ 100001 = _ from rfl)) _ (s.arg (.tmp rfl)))))) fun a11 w11 s11 => ?_; clear s10
  refine seq_opx0 (B' := fun _ => [BF b2 35 k_digest_Hash x1, BF b1 26 (karr 32 (kint .u8)) x2]) s11 rfl rfl (ob_store (A := [_]) rfl tk26 (.tmp rfl) (.tmp rfl) rfl (LS.refl _ _ _) rfl) fun _ a12 w12 s12 => ?_; clear s11
  refine wpList_nil ?_
  refine then_normal ?_
  refine hK4 _ _ ?_
  have s13 := s12.sub (.cons (t := 2) rfl (.cons (t := 100000) rfl (.cons (t := 100001) rfl .nil))); clear s12
  have s14 := St.drop (A := []) s13; clear s13
  refine wp_ret ?_
  obtain rfl := Option.some.inj h2
  exact leave s14 (.inl rfl) rfl (.cons (.cell rfl tk26 (List.Mem.head _) (LG.refl _ _)) .nil)

/- 66 cabal/keyed.pad -/
theorem c_keyed_pad (k : Nat) (p1 : (List Int)) (p2 : Int) (r : (List Int)) (h0 : keyed_pad k p1 p2 = some r) (ok : Ok) (w0 : World) (z0 : Value) (z1 : Value) (u0 : (kstr.V p1).holds ok w0 z0) (u1 : ((kint .u8).V p2).holds ok w0 z1) :
    Gives Tryd.prog 66 [z0, z1] ok w0 (resFact [kstr.V r]) := by
  unfold keyed_pad at h0
  refine enter (N := 22) Tryd.func66 rfl rfl (of_decide_eq_true rfl) (.cons u0 (.cons u1 .nil)) fun a1 s1 => ?_
  refine wp_seq_k fun K1 hK1 => ?_
  refine wp_region_lit ?_
  refine seq_op s1 rfl rfl (of_decide_eq_true rfl) (ob_assign rfl (opd_str (by rfl) (by decide))) fun a2 w2 s2 => ?_; clear s1
  refine wpList_nil ?_
  refine then_normal ?_
  refine hK1 _ _ ?_
  have s3 := s2.sub (.cons (t := 0) rfl (.cons (t := 1) rfl .nil)); clear s2
  refine wp_seq_k fun K2 hK2 => ?_
  refine wp_region_lit ?_
  refine seq_opx s3 rfl rfl (of_decide_eq_true rfl) (ob_new (k := (karr 64 (kint .u8))) rfl zz32 (Zr.arr 64 (Zr.int .u8))) fun b1 a4 w4 s4 => ?_; clear s3
  refine wpList_nil ?_
  refine then_normal ?_
  refine hK2 _ _ ?_
  have s5 := s4.sub (.cons (t := 0) rfl (.cons (t := 1) rfl (.cons (t := 5) rfl .nil))); clear s4
  refine wp_seq_k fun K3 hK3 => ?_
  refine wp_region_lit ?_
  refine seq_op s5 rfl rfl (of_decide_eq_true rfl) (ob_sliceArr rfl Tryd.underlying32 sz5 (.tmp rfl) .none .none (show (0 : Int) ≤ (0 : Int) ∧ (0 : Int) ≤ (64 : Int) ∧ (64 : Int) ≤ ((64 : Nat) : Int) by decide)) fun a6 w6 s6 => ?_; clear s5
  refine seq_op s6 rfl rfl (of_decide_eq_true rfl) (ob_move rfl (.tmp rfl)) fun a7 w7 s7 => ?_; clear s6
  obtain ⟨g1, h1⟩ := guard_some h0; clear h0
  obtain ⟨x1, e_x1, h2⟩ := bind_some h1; clear h1; replace e_x1 := Option.some.inj e_x1
  refine seq_opx (B' := fun _ => [BF b1 32 (karr 64 (kint .u8)) x1]) s7 rfl rfl (of_decide_eq_true rfl) (ob_copyStr (A := []) rfl Tryd.underlying49 sz5 (.tmp rfl) (.tmp rfl) rfl rfl (sl_fit (show (0 : Int) ≤ (0 : Int) ∧ (0 : Int) ≤ (64 : Int) ∧ (64 : Int) ≤ ((64 : Nat) : Int) by decide)) g1 (LG.refl _ _) (LS.to (LS.refl _ _ _) e_x1) rfl) fun _ a8 w8 s8 => ?_; clear s7
  refine wpList_nil ?_
  refine then_normal ?_
  refine hK3 _ _ ?_
  have s9 := s8.sub (.cons (t := 1) rfl (.cons (t := 5) rfl .nil)); clear s8
  refine wp_seq_k fun K4 hK4 => ?_
  refine wp_seq_k fun K5 hK5 => ?_
  refine wp_region_lit ?_
  refine seq_op s9 rfl rfl (of_decide_eq_true rfl) (ob_move rfl (opd_int rfl)) fun a10 w10 s10 => ?_; clear s9
  refine wpList_nil ?_
  refine then_normal ?_
  refine hK5 _ _ ?_
  have s11 := s10.sub (.cons (t := 1) rfl (.cons (t := 5) rfl (.cons (t := 10) rfl .nil))); clear s10
  have hj1 : ∀ (y1 : (List Int)) (b1 : Nat) (a : Act) (w : World), (keyed_pad.j1 k) y1 = some r → St ⟨22, w0, ok, []⟩ [BF b1 32 (karr 64 (kint .u8)) y1] [(5, (ptrB b1 0))] a w → K4 a w := by
    intro y1 b1 a12 w12 h3 s12
    unfold keyed_pad.j1 at h3
    refine hK4 _ _ ?_
    refine wp_seq_k fun K6 hK6 => ?_
    refine wp_region_lit ?_
    refine seq_op s12 rfl rfl (of_decide_eq_true rfl) (ob_sliceArr rfl Tryd.underlying32 sz5 (.tmp rfl) .none .none (show (0 : Int) ≤ (0 : Int) ∧ (0 : Int) ≤ (64 : Int) ∧ (64 : Int) ≤ ((64 : Nat) : Int) by decide)) fun a13 w13 s13 => ?_; clear s12
    obtain ⟨x2, e_x2, h4⟩ := bind_some h3; clear h3
    refine seq_op s13 rfl rfl (of_decide_eq_true rfl) ((ob_lend (t := 20) (A := []) rfl rfl rfl (Flat.V KFlat.str) (lendSl (LG.refl _ _) e_x2 rfl (cut_len e_x2) (cut_cap e_x2 (show (0 : Int) ≤ (0 : Int) ∧ (0 : Int) ≤ (64 : Int) ∧ (64 : Int) ≤ ((64 : Nat) : Int) by decide) (by decide))) (fun _ => ob_bytesToStr rfl Tryd.underlying49 Tryd.underlying9 Tryd.underlying5 (.tmp rfl)))) fun a14 w14 s14 => ?_; clear s13
    refine seq_op s14 rfl rfl (of_decide_eq_true rfl) (ob_assign rfl (.tmp rfl)) fun a15 w15 s15 => ?_; clear s14
    refine wpList_nil ?_
    refine then_normal ?_
    refine hK6 _ _ ?_
    have s16 := s15.sub (.cons (t := 4) rfl .nil); clear s15
    have s17 := St.drop (A := []) s16; clear s16
    refine wp_ret ?_
    obtain rfl := Option.some.inj h4
    exact leave s17 (.inl rfl) rfl (.cons (.tmp rfl) .nil)
  refine wp_block ?_
  refine wp_loop_fuel (fun m (q : Int × (List Int)) => keyed_pad.l1 k p2 m q.1 q.2) r (fun _ => rfl) (fun q a w => ∃ (b1 : Nat), St ⟨22, w0, ok, []⟩ [BF b1 32 (karr 64 (kint .u8)) q.2] [(1, ((kint .u8).V p2)), (5, (ptrB b1 0)), (10, ((kint .i64).V q.1))] a w) ?_ k ((0 : Int), x1) _ _ h2 ⟨b1, (s11.sub (.cons rfl (.cons rfl (.cons rfl .nil))))⟩
  rintro n1 ⟨y2, y3⟩ a18 w18 h5 ⟨b1, s18⟩ K7 hK7
  replace h5 : keyed_pad.l1 k p2 (n1 + 1) y2 y3 = some r := h5; rw [keyed_pad.l1] at h5
  have h6 := h5; clear h5
  refine wp_seq_k fun K8 hK8 => ?_
  refine wp_region_lit ?_
  refine seq_op s18 rfl rfl (of_decide_eq_true rfl) (ob_lss rfl (.tmp rfl) (opd_int rfl)) fun a19 w19 s19 => ?_; clear s18
  refine wpList_nil ?_
  refine then_normal ?_
  refine hK8 _ _ ?_
  have s20 := s19.sub (.cons (t := 1) rfl (.cons (t := 5) rfl (.cons (t := 10) rfl (.cons (t := 11) rfl .nil)))); clear s19
  refine wp_seq_k fun K9 hK9 => ?_
  refine cond_split s20 (.tmp rfl) (fun hc1 => ?_) (fun hc1 => ?_)
  · replace h6 := ite_t hc1 h6
    have h7 := h6; clear h6
    refine wp_skip ?_
    refine then_normal ?_
    refine hK9 _ _ ?_
    have s21 := s20.sub (.cons (t := 1) rfl (.cons (t := 5) rfl (.cons (t := 10) rfl .nil))); clear s20
    refine wp_seq_k fun K10 hK10 => ?_
    refine wp_block ?_
    refine wp_seq_k fun K11 hK11 => ?_
    refine wp_region_lit ?_
    refine seq_op s21 rfl rfl (of_decide_eq_true rfl) (ob_move rfl (.tmp rfl)) fun a22 w22 s22 => ?_; clear s21
    refine seq_op s22 rfl rfl (of_decide_eq_true rfl) (ob_assign rfl (.tmp rfl)) fun a23 w23 s23 => ?_; clear s22
    refine wpList_nil ?_
    refine then_normal ?_
    refine hK11 _ _ ?_
    have s24 := s23.sub (.cons (t := 1) rfl (.cons (t := 5) rfl (.cons (t := 6) rfl (.cons (t := 10) rfl .nil)))); clear s23
    refine wp_region_lit ?_
    refine seq_op s24 rfl rfl (of_decide_eq_true rfl) (ob_move rfl (.tmp rfl)) fun a25 w25 s25 => ?_; clear s24
    obtain ⟨g2, h8⟩ := guard_some h7; clear h7
    refine seq_op s25 rfl rfl (of_decide_eq_true rfl) (ob_indexAddr rfl Tryd.underlying32 sz5 (.tmp rfl) (.tmp rfl) g2.1 g2.2 (Nat.zero_add _)) fun a26 w26 s26 => ?_; clear s25
    obtain ⟨x3, e_x3, h9⟩ := bind_some h8; clear h8
    refine seq_op s26 rfl rfl (of_decide_eq_true rfl) (ob_load rfl tk5 (.tmp rfl) (List.Mem.head _) (LG.arrA e_x3)) fun a27 w27 s27 => ?_; clear s26
    refine seq_op s27 rfl rfl (of_decide_eq_true rfl) (ob_move rfl (.tmp rfl)) fun a28 w28 s28 => ?_; clear s27
    refine seq_op s28 rfl rfl (of_decide_eq_true rfl) (ob_xor rfl (.tmp rfl) (.tmp rfl)) fun a29 w29 s29 => ?_; clear s28
    obtain ⟨g3, h10⟩ := guard_some h9; clear h9
    refine seq_op s29 rfl rfl (of_decide_eq_true rfl) (ob_indexAddr rfl Tryd.underlying32 sz5 (.tmp rfl) (.tmp rfl) g3.1 g3.2 (Nat.zero_add _)) fun a30 w30 s30 => ?_; clear s29
    obtain ⟨x4, e_x4, h11⟩ := bind_some h10; clear h10
    refine seq_opx0 (B' := fun _ => [BF b1 32 (karr 64 (kint .u8)) x4]) s30 rfl rfl (ob_store (A := []) rfl tk5 (.tmp rfl) (.tmp rfl) rfl (LS.arrS e_x4) rfl) fun _ a31 w31 s31 => ?_; clear s30
    refine wpList_nil ?_
    refine in_normal ?_
    refine then_normal ?_
    refine hK10 _ _ ?_
    have s32 := s31.sub (.cons (t := 1) rfl (.cons (t := 5) rfl (.cons (t := 10) rfl .nil))); clear s31
    refine wp_region_lit ?_
    refine seq_op s32 rfl rfl (of_decide_eq_true rfl) (ob_add rfl (.tmp rfl) (opd_int rfl)) fun a33 w33 s33 => ?_; clear s32
    refine seq_op s33 rfl rfl (of_decide_eq_true rfl) (ob_move rfl (.tmp rfl)) fun a34 w34 s34 => ?_; clear s33
    refine wpList_nil ?_
    refine then_normal ?_
    exact hK7 ((iadd .i64 y2 (1 : Int)), x4) _ _ h11 ⟨b1, (s34.sub (.cons rfl (.cons rfl (.cons rfl .nil))))⟩
  · replace h6 := ite_f hc1 h6
    have h12 := h6; clear h6
    refine wp_exit ?_
    refine (then_exit (then_exit (in_here ?_)))
    refine then_normal ?_
    exact hj1 y3 b1 _ _ h12 (s20.sub (.cons rfl .nil))

/- 48 (*cabal/keyed.Mac).begin -/
theorem c_keyed_Mac_begin (k : Nat) (p1 : keyed_Mac) (p2 : (List Int)) (r : keyed_Mac) (h0 : keyed_Mac_begin k p1 p2 = some r) (ok : Ok) (w0 : World) (gl0 : (ptrTo (karr 8 (kint .u32)) G_digest_first).holds ok w0 (.pointer (some ⟨0, 0, none⟩))) (gl1 : (ptrTo (karr 64 (kint .u32)) G_digest_rounds).holds ok w0 (.pointer (some ⟨1, 0, none⟩))) (z0 : Value) (z1 : Value) (b0 : Nat) (U : TypeId) (pre post : List Value) (q1 : ∀ v, v ∈ pre → v.oneCell' = true) (q2 : ∀ v, v ∈ post → v.oneCell' = true) (l0 : (BF b0 U (kin pre k_keyed_Mac post q1 q2) p1).holds ok w0) (d0 : ¬ ok b0) (u0 : (ptrB b0 pre.length).holds ok w0 z0) (u1 : (kstr.V p2).holds ok w0 z1) :
    GivesX Tryd.prog 48 [z0, z1] ok w0 [BF b0 U (kin pre k_keyed_Mac post q1 q2) p1] (fun _ : Unit => resFact []) (fun _ => [BF b0 U (kin pre k_keyed_Mac post q1 q2) r]) := by
  unfold keyed_Mac_begin at h0
  refine enterX (N := 27) Tryd.func48 rfl rfl (of_decide_eq_true rfl) (.cons u0 (.cons u1 .nil)) nodOne (ownOne l0) (disOne d0) fun a1 s1 => ?_
  have s2 := s1.keepKnown 100000 gl0 (okInX (disOne d0)); clear s1
  have s3 := s2.keepKnown 100001 gl1 (okInX (disOne d0)); clear s2
  refine wp_seq_k fun K1 hK1 => ?_
  refine wp_seq_k fun K2 hK2 => ?_
  refine wp_region_lit ?_
  refine seq_op s3 rfl rfl (of_decide_eq_true rfl) (ob_move rfl (.tmp rfl)) fun a4 w4 s4 => ?_; clear s3
  refine seq_op s4 rfl rfl (of_decide_eq_true rfl) (ob_lenStr rfl Tryd.underlying9 (.tmp rfl)) fun a5 w5 s5 => ?_; clear s4
  refine seq_op s5 rfl rfl (of_decide_eq_true rfl) (ob_gtr rfl (.tmp rfl) (opd_int rfl)) fun a6 w6 s6 => ?_; clear s5
  refine wpList_nil ?_
  refine then_normal ?_
  refine hK2 _ _ ?_
  have s7 := s6.sub (.cons (t := 0) rfl (.cons (t := 1) rfl (.cons (t := 7) rfl (.cons (t := 100000) rfl (.cons (t := 100001) rfl .nil))))); clear s6
  have hj1 : ∀ (y1 : (List Int)) (a : Act) (w : World), (keyed_Mac_begin.j1 k p1) y1 = some r → St ⟨27, w0, ok, (idsOf [BF b0 U (kin pre k_keyed_Mac post q1 q2) p1])⟩ [BF b0 U (kin pre k_keyed_Mac post q1 q2) p1] [(0, (ptrB b0 pre.length)), (1, (kstr.V y1)), (100000, (known (.pointer (some ⟨0, 0, none⟩)) (ptrTo (karr 8 (kint .u32)) G_digest_first))), (100001, (known (.pointer (some ⟨1, 0, none⟩)) (ptrTo (karr 64 (kint .u32)) G_digest_rounds)))] a w → K1 a w := by
    intro y1 a8 w8 h1 s8
    unfold keyed_Mac_begin.j1 at h1
    refine hK1 _ _ ?_
    refine wp_seq_k fun K3 hK3 => ?_
    obtain ⟨x1, e_x1, h2⟩ := bind_some h1; clear h1
    refine wp_drawn (Fs := [(ptrB b0 pre.length), (ptrB b0 pre.length), (ptrB b0 (pre.length + 0)), (kstr.V y1), (kstr.V x1), ((ksl kstr).V ([x1] : (List (List Int))))]) (bits := [0, 1, 3, 0, 8, 24, 63]) (m := 6) mx s8 (by kernel_rfl) rfl (ops_cons (.plain _ (Av.old (t := 0) rfl rfl (Av.old (t := 100000) rfl rfl (Av.old (t := 100001) rfl rfl Av.nil))) rfl rfl (ob_move rfl (.tmp rfl))) (ops_cons (.plain _ (Av.new (j := 0) rfl rfl rfl (Av.old (t := 100000) rfl rfl (Av.old (t := 100001) rfl rfl Av.nil))) rfl rfl (ob_nilCheck rfl (.tmp rfl))) (ops_cons (.plain _ (Av.new (j := 1) rfl rfl rfl (Av.old (t := 100000) rfl rfl (Av.old (t := 100001) rfl rfl Av.nil))) rfl rfl (ob_fieldAddr (off' := pre.length + 0) rfl Tryd.underlying59 rfl sz35 (by decide) (.tmp rfl) rfl)) (ops_cons (.plain _ (Av.old (t := 1) rfl rfl (Av.old (t := 100000) rfl rfl (Av.old (t := 100001) rfl rfl Av.nil))) rfl rfl (ob_move rfl (.tmp rfl))) (ops_cons (.plain _ (Av.new (j := 3) rfl rfl rfl (Av.old (t := 100000) rfl rfl (Av.old (t := 100001) rfl rfl Av.nil))) rfl rfl (ob_calls rfl hb66 (fun a w s => c_keyed_pad k _ _ _ e_x1 _ _ _ _ (s.arg (.tmp rfl)) (s.arg (opd_int rfl))))) (ops_cons (.plain _ (Av.new (j := 4) rfl rfl rfl (Av.old (t := 100000) rfl rfl (Av.old (t := 100001) rfl rfl Av.nil))) rfl rfl (ob_mkSlice (k := kstr) (xs := ([x1] : (List (List Int)))) rfl Tryd.underlying22 zz9 sz9 Zr.str (by decide) (by decide) (.cons (.tmp rfl) rfl (LS.arr' (i := 0) (ys := ([x1] : (List (List Int)))) (by simp) (by rfl)) (.nil _)))) ops_nil)))))) (out_old (t := 0) rfl rfl (out_old (t := 1) rfl rfl (out_new (i := 2) (by decide) rfl rfl (out_new (i := 5) (by decide) rfl rfl (out_old (t := 100000) rfl rfl (out_old (t := 100001) rfl rfl out_nil)))))) fun a9 w9 s9 => ?_; clear s8
    obtain ⟨x2, e_x2, h3⟩ := bind_some h2; clear h2
    obtain ⟨x3, e_x3, h4⟩ := bind_some h3; clear h3; replace e_x3 := Option.some.inj e_x3
    refine seq_opx (B' := fun _ => [BF b0 U (kin pre k_keyed_Mac post q1 q2) x3]) s9 rfl rfl (of_decide_eq_true rfl) (ob_callW (A := []) rfl hb21 rfl (LG.trans (LG.kin _) (lg_keyed_Mac_Hash p1) (by decide)) (LS.to (LS.trans (LG.kin _) (ls_keyed_Mac_Hash p1 x2) (LS.kin _ _)) e_x3) (by decide) rfl (fun a w s pre post q1 q2 hpl hl hd => c_digest_Hash_Write k _ _ _ e_x2 _ _ (s.env _ _ (show get _ 100000 = _ from rfl)) (s.env _ _ (show get _ 100001 = _ from rfl)) _ _ _ _ pre post q1 q2 hl hd (by rw [hpl]; exact s.arg (.tmp rfl)) (s.arg (.tmp rfl)))) fun _ a10 w10 s10 => ?_; clear s9
    refine wpList_nil ?_
    refine then_normal ?_
    refine hK3 _ _ ?_
    have s11 := s10.sub (.cons (t := 0) rfl (.cons (t := 1) rfl (.cons (t := 100000) rfl (.cons (t := 100001) rfl .nil)))); clear s10
    obtain ⟨x4, e_x4, h5⟩ := bind_some h4; clear h4
    refine wp_drawn (Fs := [(ptrB b0 pre.length), (ptrB b0 pre.length), (ptrB b0 (pre.length + 75)), (kstr.V y1), (kstr.V x4), ((ksl kstr).V ([x4] : (List (List Int))))]) (bits := [0, 1, 3, 0, 8, 24, 63]) (m := 6) mx s11 (by kernel_rfl) rfl (ops_cons (.plain _ (Av.old (t := 0) rfl rfl (Av.old (t := 100000) rfl rfl (Av.old (t := 100001) rfl rfl Av.nil))) rfl rfl (ob_move rfl (.tmp rfl))) (ops_cons (.plain _ (Av.new (j := 0) rfl rfl rfl (Av.old (t := 100000) rfl rfl (Av.old (t := 100001) rfl rfl Av.nil))) rfl rfl (ob_nilCheck rfl (.tmp rfl))) (ops_cons (.plain _ (Av.new (j := 1) rfl rfl rfl (Av.old (t := 100000) rfl rfl (Av.old (t := 100001) rfl rfl Av.nil))) rfl rfl (ob_fieldAddr (off' := pre.length + 75) rfl Tryd.underlying59 rfl sz35 (by decide) (.tmp rfl) rfl)) (ops_cons (.plain _ (Av.old (t := 1) rfl rfl (Av.old (t := 100000) rfl rfl (Av.old (t := 100001) rfl rfl Av.nil))) rfl rfl (ob_move rfl (.tmp rfl))) (ops_cons (.plain _ (Av.new (j := 3) rfl rfl rfl (Av.old (t := 100000) rfl rfl (Av.old (t := 100001) rfl rfl Av.nil))) rfl rfl (ob_calls rfl hb66 (fun a w s => c_keyed_pad k _ _ _ e_x4 _ _ _ _ (s.arg (.tmp rfl)) (s.arg (opd_int rfl))))) (ops_cons (.plain _ (Av.new (j := 4) rfl rfl rfl (Av.old (t := 100000) rfl rfl (Av.old (t := 100001) rfl rfl Av.nil))) rfl rfl (ob_mkSlice (k := kstr) (xs := ([x4] : (List (List Int)))) rfl Tryd.underlying22 zz9 sz9 Zr.str (by decide) (by decide) (.cons (.tmp rfl) rfl (LS.arr' (i := 0) (ys := ([x4] : (List (List Int)))) (by simp) (by rfl)) (.nil _)))) ops_nil)))))) (out_new (i := 2) (by decide) rfl rfl (out_new (i := 5) (by decide) rfl rfl (out_old (t := 100000) rfl rfl (out_old (t := 100001) rfl rfl out_nil)))) fun a12 w12 s12 => ?_; clear s11
    obtain ⟨x5, e_x5, h6⟩ := bind_some h5; clear h5
    obtain ⟨x6, e_x6, h7⟩ := bind_some h6; clear h6; replace e_x6 := Option.some.inj e_x6
    refine seq_opx (B' := fun _ => [BF b0 U (kin pre k_keyed_Mac post q1 q2) x6]) s12 rfl rfl (of_decide_eq_true rfl) (ob_callW (A := []) rfl hb21 rfl (LG.trans (LG.kin _) (lg_keyed_Mac_outer x3) (by decide)) (LS.to (LS.trans (LG.kin _) (ls_keyed_Mac_outer x3 x5) (LS.kin _ _)) e_x6) (by decide) rfl (fun a w s pre post q1 q2 hpl hl hd => c_digest_Hash_Write k _ _ _ e_x5 _ _ (s.env _ _ (show get _ 100000 = _ from rfl)) (s.env _ _ (show get _ 100001 = _ from rfl)) _ _ _ _ pre post q1 q2 hl hd (by rw [hpl]; exact s.arg (.tmp rfl)) (s.arg (.tmp rfl)))) fun _ a13 w13 s13 => ?_; clear s12
    refine wpList_nil ?_
    obtain rfl := Option.some.inj h7
    exact leaveX () s13 rfl (.inr rfl) rfl .nil rfl
  refine cond_split s7 (.tmp rfl) (fun hc1 => ?_) (fun hc1 => ?_)
  · replace h0 := ite_t hc1 h0
    have h8 := h0; clear h0
    refine wp_seq_k fun K4 hK4 => ?_
    refine wp_region_lit ?_
    refine seq_op s7 rfl rfl (of_decide_eq_true rfl) (ob_move rfl (.tmp rfl)) fun a14 w14 s14 => ?_; clear s7
    refine seq_op s14 rfl rfl (of_decide_eq_true rfl) (ob_mkSlice (k := kstr) (xs := ([p2] : (List (List Int)))) rfl Tryd.underlying22 zz9 sz9 Zr.str (by decide) (by decide) (.cons (.tmp rfl) rfl (LS.arr' (i := 0) (ys := ([p2] : (List (List Int)))) (by simp) (by rfl)) (.nil _))) fun a15 w15 s15 => ?_; clear s14
    obtain ⟨x7, e_x7, h9⟩ := bind_some h8; clear h8
    refine seq_op s15 rfl rfl (of_decide_eq_true rfl) (ob_calls rfl hb18 (fun a w s => c_digest_Sum k _ _ e_x7 _ _ (s.env _ _ (show get _ 100000 = _ from rfl)) (s.env _ _ (show get _ 100001 = _ from rfl)) _ (s.arg (.tmp rfl)))) fun a16 w16 s16 => ?_; clear s15
    refine seq_opx s16 rfl rfl (of_decide_eq_true rfl) (ob_new (k := (karr 32 (kint .u8))) rfl zz26 (Zr.arr 32 (Zr.int .u8))) fun b1 a17 w17 s17 => ?_; clear s16
    refine seq_opx0 (B' := fun _ => [BF b1 26 (karr 32 (kint .u8)) x7, BF b0 U (kin pre k_keyed_Mac post q1 q2) p1]) s17 rfl rfl (ob_store (A := []) rfl tk26 (.tmp rfl) (.tmp rfl) rfl (LS.refl _ _ _) rfl) fun _ a18 w18 s18 => ?_; clear s17
    refine wpList_nil ?_
    refine then_normal ?_
    refine hK4 _ _ ?_
    have s19 := s18.sub (.cons (t := 0) rfl (.cons (t := 4) rfl (.cons (t := 100000) rfl (.cons (t := 100001) rfl .nil)))); clear s18
    refine wp_region_lit ?_
    refine seq_op s19 rfl rfl (of_decide_eq_true rfl) (ob_sliceArr rfl Tryd.underlying26 sz5 (.tmp rfl) .none .none (show (0 : Int) ≤ (0 : Int) ∧ (0 : Int) ≤ (32 : Int) ∧ (32 : Int) ≤ ((32 : Nat) : Int) by decide)) fun a20 w20 s20 => ?_; clear s19
    obtain ⟨x8, e_x8, h10⟩ := bind_some h9; clear h9
    refine seq_op s20 rfl rfl (of_decide_eq_true rfl) ((ob_lend (t := 11) (A := []) rfl rfl rfl (Flat.V KFlat.str) (lendSl (LG.refl _ _) e_x8 rfl (cut_len e_x8) (cut_cap e_x8 (show (0 : Int) ≤ (0 : Int) ∧ (0 : Int) ≤ (32 : Int) ∧ (32 : Int) ≤ ((32 : Nat) : Int) by decide) (by decide))) (fun _ => ob_bytesToStr rfl Tryd.underlying49 Tryd.underlying9 Tryd.underlying5 (.tmp rfl)))) fun a21 w21 s21 => ?_; clear s20
    refine seq_op s21 rfl rfl (of_decide_eq_true rfl) (ob_assign rfl (.tmp rfl)) fun a22 w22 s22 => ?_; clear s21
    refine wpList_nil ?_
    refine then_normal ?_
    have s23 := St.drop (A := []) s22; clear s22
    exact hj1 x8 _ _ h10 (s23.sub (.cons rfl (.cons rfl (.cons rfl (.cons rfl .nil)))))
  · replace h0 := ite_f hc1 h0
    have h11 := h0; clear h0
    refine wp_skip ?_
    refine then_normal ?_
    exact hj1 p2 _ _ h11 (s7.sub (.cons rfl (.cons rfl (.cons rfl (.cons rfl .nil)))))

/- 33 (*cabal/keyed.Mac).Tag -/
theorem c_keyed_Mac_Tag (k : Nat) (p1 : keyed_Mac) (r : (List Int)) (h0 : keyed_Mac_Tag k p1 = some r) (ok : Ok) (w0 : World) (gl0 : (ptrTo (karr 8 (kint .u32)) G_digest_first).holds ok w0 (.pointer (some ⟨0, 0, none⟩))) (gl1 : (ptrTo (karr 64 (kint .u32)) G_digest_rounds).holds ok w0 (.pointer (some ⟨1, 0, none⟩))) (z0 : Value) (u0 : (ptrTo k_keyed_Mac p1).holds ok w0 z0) :
    Gives Tryd.prog 33 [z0] ok w0 (resFact [(karr 32 (kint .u8)).V r]) := by
  unfold keyed_Mac_Tag at h0
  refine enter (N := 21) Tryd.func33 rfl rfl (of_decide_eq_true rfl) (.cons u0 .nil) fun a1 s1 => ?_
  have s2 := s1.keepKnown 100000 gl0 okIn; clear s1
  have s3 := s2.keepKnown 100001 gl1 okIn; clear s2
  refine wp_seq_k fun K1 hK1 => ?_
  refine wp_region_lit ?_
  refine seq_opx s3 rfl rfl (of_decide_eq_true rfl) (ob_new (k := (karr 32 (kint .u8))) rfl zz26 (Zr.arr 32 (Zr.int .u8))) fun b1 a4 w4 s4 => ?_; clear s3
  refine wpList_nil ?_
  refine then_normal ?_
  refine hK1 _ _ ?_
  have s5 := s4.sub (.cons (t := 0) rfl (.cons (t := 2) rfl (.cons (t := 100000) rfl (.cons (t := 100001) rfl .nil)))); clear s4
  refine wp_seq_k fun K2 hK2 => ?_
  refine wp_seq_k fun K3 hK3 => ?_
  refine wp_region_lit ?_
  refine seq_op s5 rfl rfl (of_decide_eq_true rfl) (ob_move rfl (.tmp rfl)) fun a6 w6 s6 => ?_; clear s5
  refine seq_op s6 rfl rfl (of_decide_eq_true rfl) (ob_ptrrNil rfl pt56 (.tmp rfl) opd_is) fun a7 w7 s7 => ?_; clear s6
  refine wpList_nil ?_
  refine then_normal ?_
  refine hK3 _ _ ?_
  have s8 := s7.sub (.cons (t := 0) rfl (.cons (t := 2) rfl (.cons (t := 6) rfl (.cons (t := 100000) rfl (.cons (t := 100001) rfl .nil))))); clear s7
  refine cond_f s8 (.tmp rfl) ?_
  refine wp_skip ?_
  refine then_normal ?_
  refine hK2 _ _ ?_
  have s9 := s8.sub (.cons (t := 0) rfl (.cons (t := 2) rfl (.cons (t := 100000) rfl (.cons (t := 100001) rfl .nil)))); clear s8
  refine wp_seq_k fun K4 hK4 => ?_
  refine wp_region_lit ?_
  refine seq_op s9 rfl rfl (of_decide_eq_true rfl) (ob_move rfl (.tmp rfl)) fun a10 w10 s10 => ?_; clear s9
  refine seq_op s10 rfl rfl (of_decide_eq_true rfl) (ob_nilCheckr rfl (.tmp rfl)) fun a11 w11 s11 => ?_; clear s10
  refine seq_op s11 rfl rfl (of_decide_eq_true rfl) (ob_fieldAddrr rfl Tryd.underlying59 rfl sz35 (by decide) (.tmp rfl) (lg_keyed_Mac_Hash p1)) fun a12 w12 s12 => ?_; clear s11
  obtain ⟨x1, e_x1, h1⟩ := bind_some h0; clear h0
  refine seq_op s12 rfl rfl (of_decide_eq_true rfl) (ob_calls rfl hb22 (fun a w s => c_digest_Hash_Sum k _ _ e_x1 _ _ (s.env _ _ (show get _ 100000 = _ from rfl)) (s.env _ _ (show get _ 100001 = _ from rfl)) _ (s.arg (.tmp rfl)))) fun a13 w13 s13 => ?_; clear s12
  refine seq_opx s13 rfl rfl (of_decide_eq_true rfl) (ob_new (k := (karr 32 (kint .u8))) rfl zz26 (Zr.arr 32 (Zr.int .u8))) fun b2 a14 w14 s14 => ?_; clear s13
  refine seq_opx0 (B' := fun _ => [BF b2 26 (karr 32 (kint .u8)) x1, BF b1 26 (karr 32 (kint .u8)) (List.replicate 32 (0 : Int))]) s14 rfl rfl (ob_store (A := []) rfl tk26 (.tmp rfl) (.tmp rfl) rfl (LS.refl _ _ _) rfl) fun _ a15 w15 s15 => ?_; clear s14
  refine wpList_nil ?_
  refine then_normal ?_
  refine hK4 _ _ ?_
  have s16 := s15.sub (.cons (t := 0) rfl (.cons (t := 2) rfl (.cons (t := 3) rfl (.cons (t := 100000) rfl (.cons (t := 100001) rfl .nil))))); clear s15
  refine wp_seq_k fun K5 hK5 => ?_
  refine wp_region_lit ?_
  refine seq_op s16 rfl rfl (of_decide_eq_true rfl) (ob_move rfl (.tmp rfl)) fun a17 w17 s17 => ?_; clear s16
  refine seq_op s17 rfl rfl (of_decide_eq_true rfl) (ob_nilCheckr rfl (.tmp rfl)) fun a18 w18 s18 => ?_; clear s17
  refine seq_op s18 rfl rfl (of_decide_eq_true rfl) (ob_fieldAddrr rfl Tryd.underlying59 rfl sz35 (by decide) (.tmp rfl) (lg_keyed_Mac_outer p1)) fun a19 w19 s19 => ?_; clear s18
  refine seq_op s19 rfl rfl (of_decide_eq_true rfl) (ob_loadr rfl tk35 (.tmp rfl)) fun a20 w20 s20 => ?_; clear s19
  refine seq_opx s20 rfl rfl (of_decide_eq_true rfl) (ob_new (k := k_digest_Hash) rfl zz35 (Zr.iso (f := t_digest_Hash) (x := (⟨false, (List.replicate 8 (0 : Int)), (List.replicate 64 (0 : Int)), (0 : Int), (0 : Int)⟩ : digest_Hash)) (Zr.pair Zr.bool (Zr.pair (Zr.arr 8 (Zr.int .u32)) (Zr.pair (Zr.arr 64 (Zr.int .u8)) (Zr.pair (Zr.int .i64) (Zr.pair (Zr.int .u64) Zr.nil))))))) fun b3 a21 w21 s21 => ?_; clear s20
  refine seq_opx0 (B' := fun _ => [BF b3 35 k_digest_Hash p1.outer, BF b2 26 (karr 32 (kint .u8)) x1, BF b1 26 (karr 32 (kint .u8)) (List.replicate 32 (0 : Int))]) s21 rfl rfl (ob_store (A := []) rfl tk35 (.tmp rfl) (.tmp rfl) rfl (LS.refl _ _ _) rfl) fun _ a22 w22 s22 => ?_; clear s21
  refine wpList_nil ?_
  refine then_normal ?_
  refine hK5 _ _ ?_
  have s23 := s22.sub (.cons (t := 2) rfl (.cons (t := 3) rfl (.cons (t := 4) rfl (.cons (t := 100000) rfl (.cons (t := 100001) rfl .nil))))); clear s22
  refine wp_seq_k fun K6 hK6 => ?_
  refine wp_region_lit ?_
  refine seq_op s23 rfl rfl (of_decide_eq_true rfl) (ob_sliceArr rfl Tryd.underlying26 sz5 (.tmp rfl) .none .none (show (0 : Int) ≤ (0 : Int) ∧ (0 : Int) ≤ (32 : Int) ∧ (32 : Int) ≤ ((32 : Nat) : Int) by decide)) fun a24 w24 s24 => ?_; clear s23
  obtain ⟨x2, e_x2, h2⟩ := bind_some h1; clear h1
  refine seq_op s24 rfl rfl (of_decide_eq_true rfl) ((ob_lend (t := 16) (A := [_]) rfl rfl rfl (Flat.V KFlat.str) (lendSl (LG.refl _ _) e_x2 rfl (cut_len e_x2) (cut_cap e_x2 (show (0 : Int) ≤ (0 : Int) ∧ (0 : Int) ≤ (32 : Int) ∧ (32 : Int) ≤ ((32 : Nat) : Int) by decide) (by decide))) (fun _ => ob_bytesToStr rfl Tryd.underlying49 Tryd.underlying9 Tryd.underlying5 (.tmp rfl)))) fun a25 w25 s25 => ?_; clear s24
  refine seq_op s25 rfl rfl (of_decide_eq_true rfl) (ob_mkSlice (k := kstr) (xs := ([x2] : (List (List Int)))) rfl Tryd.underlying22 zz9 sz9 Zr.str (by decide) (by decide) (.cons (.tmp rfl) rfl (LS.arr' (i := 0) (ys := ([x2] : (List (List Int)))) (by simp) (by rfl)) (.nil _))) fun a26 w26 s26 => ?_; clear s25
  obtain ⟨x3, e_x3, h3⟩ := bind_some h2; clear h2
  refine seq_opx (B' := fun _ => [BF b3 35 k_digest_Hash x3, BF b2 26 (karr 32 (kint .u8)) x1, BF b1 26 (karr 32 (kint .u8)) (List.replicate 32 (0 : Int))]) s26 rfl rfl (of_decide_eq_true rfl) (ob_callW (A := []) rfl hb21 rfl (LG.refl _ _) (LS.refl _ _ _) (by decide) rfl (fun a w s pre post q1 q2 hpl hl hd => c_digest_Hash_Write k _ _ _ e_x3 _ _ (s.env _ _ (show get _ 100000 = _ from rfl)) (s.env _ _ (show get _ 100001 = _ from rfl)) _ _ _ _ pre post q1 q2 hl hd (by rw [hpl]; exact s.arg (.tmp rfl)) (s.arg (.tmp rfl)))) fun _ a27 w27 s27 => ?_; clear s26
  refine wpList_nil ?_
  refine then_normal ?_
  refine hK6 _ _ ?_
  have s28 := s27.sub (.cons (t := 2) rfl (.cons (t := 4) rfl (.cons (t := 100000) rfl (.cons (t := 100001) rfl .nil)))); clear s27
  have s29 := St.drop (A := [_]) s28; clear s28
  refine wp_seq_k fun K7 hK7 => ?_
  refine wp_region_lit ?_
  obtain ⟨x4, e_x4, h4⟩ := bind_some h3; clear h3
  refine seq_op s29 rfl rfl (of_decide_eq_true rfl) ((ob_lend (t := 4) (A := []) rfl rfl rfl (Flat.res1 (Flat.V (KFlat.arr (KFlat.int _)))) (lendPtr (LG.refl _ _)) (fun _ => ob_calls rfl hb22 (fun a w s => c_digest_Hash_Sum k _ _ e_x4 _ _ (s.env _ _ (show get _ 100000 = _ from rfl)) (s.env _ _ (show get _ 100001 = _ from rfl)) _ (s.arg (.tmp rfl)))))) fun a30 w30 s30 => ?_; clear s29
  refine seq_opx0 (B' := fun _ => [BF b3 35 k_digest_Hash x3, BF b1 26 (karr 32 (kint .u8)) x4]) s30 rfl rfl (ob_store (A := [_]) rfl tk26 (.tmp rfl) (.tmp rfl) rfl (LS.refl _ _ _) rfl) fun _ a31 w31 s31 => ?_; clear s30
  refine wpList_nil ?_
  refine then_normal ?_
  refine hK7 _ _ ?_
  have s32 := s31.sub (.cons (t := 2) rfl (.cons (t := 100000) rfl (.cons (t := 100001) rfl .nil))); clear s31
  have s33 := St.drop (A := []) s32; clear s32
  refine wp_ret ?_
  obtain rfl := Option.some.inj h4
  exact leave s33 (.inl rfl) rfl (.cons (.cell rfl tk26 (List.Mem.head _) (LG.refl _ _)) .nil)

/- 27 cabal/keyed.Tag -/
theorem c_keyed_Tag (k : Nat) (p1 : (List Int)) (p2 : (List (List Int))) (r : (List Int)) (h0 : keyed_Tag k p1 p2 = some r) (ok : Ok) (w0 : World) (gl0 : (ptrTo (karr 8 (kint .u32)) G_digest_first).holds ok w0 (.pointer (some ⟨0, 0, none⟩))) (gl1 : (ptrTo (karr 64 (kint .u32)) G_digest_rounds).holds ok w0 (.pointer (some ⟨1, 0, none⟩))) (z0 : Value) (z1 : Value) (u0 : (kstr.V p1).holds ok w0 z0) (u1 : ((ksl kstr).V p2).holds ok w0 z1) :
    Gives Tryd.prog 27 [z0, z1] ok w0 (resFact [(karr 32 (kint .u8)).V r]) := by
  unfold keyed_Tag at h0
  refine enter (N := 12) Tryd.func27 rfl rfl (of_decide_eq_true rfl) (.cons u0 (.cons u1 .nil)) fun a1 s1 => ?_
  have s2 := s1.keepKnown 100000 gl0 okIn; clear s1
  have s3 := s2.keepKnown 100001 gl1 okIn; clear s2
  refine wp_seq_k fun K1 hK1 => ?_
  refine wp_region_lit ?_
  refine seq_opx s3 rfl rfl (of_decide_eq_true rfl) (ob_new (k := (karr 32 (kint .u8))) rfl zz26 (Zr.arr 32 (Zr.int .u8))) fun b1 a4 w4 s4 => ?_; clear s3
  refine wpList_nil ?_
  refine then_normal ?_
  refine hK1 _ _ ?_
  have s5 := s4.sub (.cons (t := 0) rfl (.cons (t := 1) rfl (.cons (t := 4) rfl (.cons (t := 100000) rfl (.cons (t := 100001) rfl .nil))))); clear s4
  refine wp_seq_k fun K2 hK2 => ?_
  refine wp_region_lit ?_
  refine seq_opx s5 rfl rfl (of_decide_eq_true rfl) (ob_new (k := k_keyed_Mac) rfl zz59 (Zr.iso (f := t_keyed_Mac) (x := (⟨(⟨false, (List.replicate 8 (0 : Int)), (List.replicate 64 (0 : Int)), (0 : Int), (0 : Int)⟩ : digest_Hash), (⟨false, (List.replicate 8 (0 : Int)), (List.replicate 64 (0 : Int)), (0 : Int), (0 : Int)⟩ : digest_Hash)⟩ : keyed_Mac)) (Zr.pair (Zr.iso (f := t_digest_Hash) (x := (⟨false, (List.replicate 8 (0 : Int)), (List.replicate 64 (0 : Int)), (0 : Int), (0 : Int)⟩ : digest_Hash)) (Zr.pair Zr.bool (Zr.pair (Zr.arr 8 (Zr.int .u32)) (Zr.pair (Zr.arr 64 (Zr.int .u8)) (Zr.pair (Zr.int .i64) (Zr.pair (Zr.int .u64) Zr.nil)))))) (Zr.pair (Zr.iso (f := t_digest_Hash) (x := (⟨false, (List.replicate 8 (0 : Int)), (List.replicate 64 (0 : Int)), (0 : Int), (0 : Int)⟩ : digest_Hash)) (Zr.pair Zr.bool (Zr.pair (Zr.arr 8 (Zr.int .u32)) (Zr.pair (Zr.arr 64 (Zr.int .u8)) (Zr.pair (Zr.int .i64) (Zr.pair (Zr.int .u64) Zr.nil)))))) Zr.nil)))) fun b2 a6 w6 s6 => ?_; clear s5
  refine wpList_nil ?_
  refine then_normal ?_
  refine hK2 _ _ ?_
  have s7 := s6.sub (.cons (t := 0) rfl (.cons (t := 1) rfl (.cons (t := 4) rfl (.cons (t := 5) rfl (.cons (t := 100000) rfl (.cons (t := 100001) rfl .nil)))))); clear s6
  refine wp_seq_k fun K3 hK3 => ?_
  refine wp_region_lit ?_
  refine seq_op s7 rfl rfl (of_decide_eq_true rfl) (ob_move rfl (.tmp rfl)) fun a8 w8 s8 => ?_; clear s7
  obtain ⟨x1, e_x1, h1⟩ := bind_some h0; clear h0
  refine seq_opx (B' := fun _ => [BF b2 59 k_keyed_Mac x1, BF b1 26 (karr 32 (kint .u8)) (List.replicate 32 (0 : Int))]) s8 rfl rfl (of_decide_eq_true rfl) (ob_callW (A := []) rfl hb48 rfl (LG.refl _ _) (LS.refl _ _ _) (by decide) rfl (fun a w s pre post q1 q2 hpl hl hd => c_keyed_Mac_begin k _ _ _ e_x1 _ _ (s.env _ _ (show get _ 100000 = _ from rfl)) (s.env _ _ (show get _ 100001 = _ from rfl)) _ _ _ _ pre post q1 q2 hl hd (by rw [hpl]; exact s.arg (.tmp rfl)) (s.arg (.tmp rfl)))) fun _ a9 w9 s9 => ?_; clear s8
  refine wpList_nil ?_
  refine then_normal ?_
  refine hK3 _ _ ?_
  have s10 := s9.sub (.cons (t := 1) rfl (.cons (t := 4) rfl (.cons (t := 5) rfl (.cons (t := 100000) rfl (.cons (t := 100001) rfl .nil))))); clear s9
  refine wp_seq_k fun K4 hK4 => ?_
  refine wp_region_lit ?_
  refine seq_op s10 rfl rfl (of_decide_eq_true rfl) (ob_fieldAddr (off' := 0) rfl Tryd.underlying59 rfl sz35 (by decide) (.tmp rfl) rfl) fun a11 w11 s11 => ?_; clear s10
  refine seq_op s11 rfl rfl (of_decide_eq_true rfl) (ob_move rfl (.tmp rfl)) fun a12 w12 s12 => ?_; clear s11
  obtain ⟨x2, e_x2, h2⟩ := bind_some h1; clear h1
  obtain ⟨x3, e_x3, h3⟩ := bind_some h2; clear h2; replace e_x3 := Option.some.inj e_x3
  refine seq_opx (B' := fun _ => [BF b2 59 k_keyed_Mac x3, BF b1 26 (karr 32 (kint .u8)) (List.replicate 32 (0 : Int))]) s12 rfl rfl (of_decide_eq_true rfl) (ob_callW (A := []) rfl hb21 rfl (lg_keyed_Mac_Hash x1) (LS.to (ls_keyed_Mac_Hash x1 x2) e_x3) (by decide) rfl (fun a w s pre post q1 q2 hpl hl hd => c_digest_Hash_Write k _ _ _ e_x2 _ _ (s.env _ _ (show get _ 100000 = _ from rfl)) (s.env _ _ (show get _ 100001 = _ from rfl)) _ _ _ _ pre post q1 q2 hl hd (by rw [hpl]; exact s.arg (.tmp rfl)) (s.arg (.tmp rfl)))) fun _ a13 w13 s13 => ?_; clear s12
  refine wpList_nil ?_
  refine then_normal ?_
  refine hK4 _ _ ?_
  have s14 := s13.sub (.cons (t := 4) rfl (.cons (t := 5) rfl (.cons (t := 100000) rfl (.cons (t := 100001) rfl .nil)))); clear s13
  refine wp_seq_k fun K5 hK5 => ?_
  refine wp_region_lit ?_
  obtain ⟨x4, e_x4, h4⟩ := bind_some h3; clear h3
  refine seq_op s14 rfl rfl (of_decide_eq_true rfl) ((ob_lend (t := 5) (A := []) rfl rfl rfl (Flat.res1 (Flat.V (KFlat.arr (KFlat.int _)))) (lendPtr (LG.refl _ _)) (fun _ => ob_calls rfl hb33 (fun a w s => c_keyed_Mac_Tag k _ _ e_x4 _ _ (s.env _ _ (show get _ 100000 = _ from rfl)) (s.env _ _ (show get _ 100001 = _ from rfl)) _ (s.arg (.tmp rfl)))))) fun a15 w15 s15 => ?_; clear s14
  refine seq_opx0 (B' := fun _ => [BF b2 59 k_keyed_Mac x3, BF b1 26 (karr 32 (kint .u8)) x4]) s15 rfl rfl (ob_store (A := [_]) rfl tk26 (.tmp rfl) (.tmp rfl) rfl (LS.refl _ _ _) rfl) fun _ a16 w16 s16 => ?_; clear s15
  refine wpList_nil ?_
  refine then_normal ?_
  refine hK5 _ _ ?_
  have s17 := s16.sub (.cons (t := 4) rfl (.cons (t := 100000) rfl (.cons (t := 100001) rfl .nil))); clear s16
  have s18 := St.drop (A := []) s17; clear s17
  refine wp_ret ?_
  obtain rfl := Option.some.inj h4
  exact leave s18 (.inl rfl) rfl (.cons (.cell rfl tk26 (List.Mem.head _) (LG.refl _ _)) .nil)

/- 33 (*cabal/keyed.Mac).Tag (nil) -/
theorem c_keyed_Mac_Tag_nil (k : Nat) (r : (List Int)) (h0 : keyed_Mac_Tag_nil k = some r) (ok : Ok) (w0 : World) (gl0 : (ptrTo (karr 8 (kint .u32)) G_digest_first).holds ok w0 (.pointer (some ⟨0, 0, none⟩))) (gl1 : (ptrTo (karr 64 (kint .u32)) G_digest_rounds).holds ok w0 (.pointer (some ⟨1, 0, none⟩))) (z0 : Value) (u0 : (is (.pointer none)).holds ok w0 z0) :
    Gives Tryd.prog 33 [z0] ok w0 (resFact [(karr 32 (kint .u8)).V r]) := by
  unfold keyed_Mac_Tag_nil at h0
  refine enter (N := 21) Tryd.func33 rfl rfl (of_decide_eq_true rfl) (.cons u0 .nil) fun a1 s1 => ?_
  have s2 := s1.keepKnown 100000 gl0 okIn; clear s1
  have s3 := s2.keepKnown 100001 gl1 okIn; clear s2
  refine wp_seq_k fun K1 hK1 => ?_
  refine wp_region_lit ?_
  refine seq_opx s3 rfl rfl (of_decide_eq_true rfl) (ob_new (k := (karr 32 (kint .u8))) rfl zz26 (Zr.arr 32 (Zr.int .u8))) fun b1 a4 w4 s4 => ?_; clear s3
  refine wpList_nil ?_
  refine then_normal ?_
  refine hK1 _ _ ?_
  have s5 := s4.sub (.cons (t := 0) rfl (.cons (t := 2) rfl (.cons (t := 100000) rfl (.cons (t := 100001) rfl .nil)))); clear s4
  refine wp_seq_k fun K2 hK2 => ?_
  refine wp_seq_k fun K3 hK3 => ?_
  refine wp_region_lit ?_
  refine seq_op s5 rfl rfl (of_decide_eq_true rfl) (ob_move rfl (.tmp rfl)) fun a6 w6 s6 => ?_; clear s5
  refine seq_op s6 rfl rfl (of_decide_eq_true rfl) (ob_ptrNil (p := none) rfl pt56 (.tmp rfl) opd_is) fun a7 w7 s7 => ?_; clear s6
  refine wpList_nil ?_
  refine then_normal ?_
  refine hK3 _ _ ?_
  have s8 := s7.sub (.cons (t := 0) rfl (.cons (t := 2) rfl (.cons (t := 6) rfl (.cons (t := 100000) rfl (.cons (t := 100001) rfl .nil))))); clear s7
  refine cond_t s8 (.tmp rfl) ?_
  refine wp_seq_k fun K4 hK4 => ?_
  refine wp_region_lit ?_
  obtain ⟨x1, e_x1, h1⟩ := bind_some h0; clear h0
  refine seq_op s8 rfl rfl (of_decide_eq_true rfl) (ob_calls rfl hb27 (fun a w s => c_keyed_Tag k _ _ _ e_x1 _ _ (s.env _ _ (show get _ 100000 = _ from rfl)) (s.env _ _ (show get _ 100001 = _ from rfl)) _ _ (s.arg (opd_str (by rfl) (by decide))) (s.arg opd_nil))) fun a9 w9 s9 => ?_; clear s8
  refine seq_opx0 (B' := fun _ => [BF b1 26 (karr 32 (kint .u8)) x1]) s9 rfl rfl (ob_store (A := []) rfl tk26 (.tmp rfl) (.tmp rfl) rfl (LS.refl _ _ _) rfl) fun _ a10 w10 s10 => ?_; clear s9
  refine wpList_nil ?_
  refine then_normal ?_
  refine hK4 _ _ ?_
  have s11 := s10.sub (.cons (t := 2) rfl (.cons (t := 100000) rfl (.cons (t := 100001) rfl .nil))); clear s10
  refine wp_ret ?_
  obtain rfl := Option.some.inj h1
  exact leave s11 (.inl rfl) rfl (.cons (.cell rfl tk26 (List.Mem.head _) (LG.refl _ _)) .nil)

/- 26 cabal/caballaw02.alive -/
theorem c_caballaw02_alive (k : Nat) (r : Bool) (h0 : caballaw02_alive k = some r) (ok : Ok) (w0 : World) (gl0 : (ptrTo (karr 8 (kint .u32)) G_digest_first).holds ok w0 (.pointer (some ⟨0, 0, none⟩))) (gl1 : (ptrTo (karr 64 (kint .u32)) G_digest_rounds).holds ok w0 (.pointer (some ⟨1, 0, none⟩))) :
    Gives Tryd.prog 26 [] ok w0 (resFact [kbool.V r]) := by
  unfold caballaw02_alive at h0
  refine enter (N := 22) Tryd.func26 rfl rfl (of_decide_eq_true rfl) .nil fun a1 s1 => ?_
  have s2 := s1.keepKnown 100000 gl0 okIn; clear s1
  have s3 := s2.keepKnown 100001 gl1 okIn; clear s2
  refine wp_seq_k fun K1 hK1 => ?_
  refine wp_region_lit ?_
  refine seq_op s3 rfl rfl (of_decide_eq_true rfl) (ob_assign rfl opd_bool) fun a4 w4 s4 => ?_; clear s3
  refine wpList_nil ?_
  refine then_normal ?_
  refine hK1 _ _ ?_
  have s5 := s4.sub (.cons (t := 100000) rfl (.cons (t := 100001) rfl .nil)); clear s4
  refine wp_seq_k fun K2 hK2 => ?_
  refine wp_region_lit ?_
  obtain ⟨x1, e_x1, h1⟩ := bind_some h0; clear h0; replace e_x1 := Option.some.inj e_x1
  refine seq_op s5 rfl rfl (of_decide_eq_true rfl) ((ob_mkSlice (k := kstr) (xs := ([([84, 104, 101, 32, 113, 117, 105, 99, 107, 32, 98, 114, 111, 119, 110, 32, 102, 111, 120, 32] : List Int), ([106, 117, 109, 112, 115, 32, 111, 118, 101, 114, 32, 116, 104, 101, 32, 108, 97, 122, 121, 32, 100, 111, 103] : List Int)] : (List (List Int)))) rfl Tryd.underlying22 zz9 sz9 Zr.str (by decide) (by decide) (.cons (opd_str (by rfl) (by decide)) rfl (LS.arr' (i := 0) (ys := ([([84, 104, 101, 32, 113, 117, 105, 99, 107, 32, 98, 114, 111, 119, 110, 32, 102, 111, 120, 32] : List Int), []] : (List (List Int)))) (by simp) (by rfl)) (.cons (opd_str (by rfl) (by decide)) rfl (LS.arr' (i := 1) (ys := ([([84, 104, 101, 32, 113, 117, 105, 99, 107, 32, 98, 114, 111, 119, 110, 32, 102, 111, 120, 32] : List Int), ([106, 117, 109, 112, 115, 32, 111, 118, 101, 114, 32, 116, 104, 101, 32, 108, 97, 122, 121, 32, 100, 111, 103] : List Int)] : (List (List Int)))) (by simp) (by rfl)) (.nil _)))).nm e_x1) fun a6 w6 s6 => ?_; clear s5
  obtain ⟨x2, e_x2, h2⟩ := bind_some h1; clear h1
  refine seq_op s6 rfl rfl (of_decide_eq_true rfl) (ob_calls rfl hb27 (fun a w s => c_keyed_Tag k _ _ _ e_x2 _ _ (s.env _ _ (show get _ 100000 = _ from rfl)) (s.env _ _ (show get _ 100001 = _ from rfl)) _ _ (s.arg (opd_str (by rfl) (by decide))) (s.arg (.tmp rfl)))) fun a7 w7 s7 => ?_; clear s6
  refine seq_opx s7 rfl rfl (of_decide_eq_true rfl) (ob_new (k := (karr 32 (kint .u8))) rfl zz26 (Zr.arr 32 (Zr.int .u8))) fun b1 a8 w8 s8 => ?_; clear s7
  refine seq_opx0 (B' := fun _ => [BF b1 26 (karr 32 (kint .u8)) x2]) s8 rfl rfl (ob_store (A := []) rfl tk26 (.tmp rfl) (.tmp rfl) rfl (LS.refl _ _ _) rfl) fun _ a9 w9 s9 => ?_; clear s8
  refine wpList_nil ?_
  refine then_normal ?_
  refine hK2 _ _ ?_
  have s10 := s9.sub (.cons (t := 1) rfl (.cons (t := 100000) rfl (.cons (t := 100001) rfl .nil))); clear s9
  refine wp_seq_k fun K3 hK3 => ?_
  refine wp_region_lit ?_
  refine seq_op s10 rfl rfl (of_decide_eq_true rfl) (ob_indexAddr rfl Tryd.underlying26 sz5 (.tmp rfl) (opd_int rfl) (by decide) (by decide) (Nat.zero_add _)) fun a11 w11 s11 => ?_; clear s10
  obtain ⟨x3, e_x3, h3⟩ := bind_some h2; clear h2
  refine seq_op s11 rfl rfl (of_decide_eq_true rfl) (ob_load rfl tk5 (.tmp rfl) (List.Mem.head _) (LG.arrA e_x3)) fun a12 w12 s12 => ?_; clear s11
  refine seq_op s12 rfl rfl (of_decide_eq_true rfl) (ob_eql rfl (.tmp rfl) (opd_int rfl)) fun a13 w13 s13 => ?_; clear s12
  refine seq_op s13 rfl rfl (of_decide_eq_true rfl) (ob_move rfl (.tmp rfl)) fun a14 w14 s14 => ?_; clear s13
  refine seq_opg s14 rfl rfl rfl rfl (of_decide_eq_true rfl) (fun hb => ob_indexAddr rfl Tryd.underlying26 sz5 (.tmp rfl) (opd_int rfl) (by decide) (by decide) (Nat.zero_add _)) fun a15 w15 s15 => ?_; clear s14
  obtain ⟨x4, e_x4, h4⟩ := bind_some h3; clear h3
  refine seq_opg s15 rfl rfl rfl rfl (of_decide_eq_true rfl) (fun hb => (Ob.uncond (t := 8) hb rfl (ob_load rfl tk5 (.tmp rfl) (List.Mem.head _) (LG.arrA (ite_t hb e_x4))))) fun a16 w16 s16 => ?_; clear s15
  refine seq_opg s16 rfl rfl rfl rfl (of_decide_eq_true rfl) (fun hb => (Ob.uncond (t := 9) hb rfl (ob_eql rfl (.tmp rfl) (opd_int rfl)))) fun a17 w17 s17 => ?_; clear s16
  refine seq_op s17 rfl rfl (of_decide_eq_true rfl) (ob_and2 rfl (.tmp rfl) (.tmp rfl) opd_bool) fun a18 w18 s18 => ?_; clear s17
  refine seq_op s18 rfl rfl (of_decide_eq_true rfl) (ob_move rfl (.tmp rfl)) fun a19 w19 s19 => ?_; clear s18
  refine seq_opg s19 rfl rfl rfl rfl (of_decide_eq_true rfl) (fun hb => ob_indexAddr rfl Tryd.underlying26 sz5 (.tmp rfl) (opd_int rfl) (by decide) (by decide) (Nat.zero_add _)) fun a20 w20 s20 => ?_; clear s19
  obtain ⟨x5, e_x5, h5⟩ := bind_some h4; clear h4
  refine seq_opg s20 rfl rfl rfl rfl (of_decide_eq_true rfl) (fun hb => (Ob.uncond (t := 13) hb rfl (ob_load rfl tk5 (.tmp rfl) (List.Mem.head _) (LG.arrA (ite_t hb e_x5))))) fun a21 w21 s21 => ?_; clear s20
  refine seq_opg s21 rfl rfl rfl rfl (of_decide_eq_true rfl) (fun hb => (Ob.uncond (t := 14) hb rfl (ob_eql rfl (.tmp rfl) (opd_int rfl)))) fun a22 w22 s22 => ?_; clear s21
  obtain ⟨x6, e_x6, h6⟩ := bind_some h5; clear h5; replace e_x6 := Option.some.inj e_x6
  refine seq_op s22 rfl rfl (of_decide_eq_true rfl) ((ob_and2 rfl (.tmp rfl) (.tmp rfl) opd_bool).nm e_x6) fun a23 w23 s23 => ?_; clear s22
  refine seq_op s23 rfl rfl (of_decide_eq_true rfl) (ob_move rfl (.tmp rfl)) fun a24 w24 s24 => ?_; clear s23
  refine seq_opg s24 rfl rfl rfl rfl (of_decide_eq_true rfl) (fun hb => ob_indexAddr rfl Tryd.underlying26 sz5 (.tmp rfl) (opd_int rfl) (by decide) (by decide) (Nat.zero_add _)) fun a25 w25 s25 => ?_; clear s24
  obtain ⟨x7, e_x7, h7⟩ := bind_some h6; clear h6
  refine seq_opg s25 rfl rfl rfl rfl (of_decide_eq_true rfl) (fun hb => (Ob.uncond (t := 18) hb rfl (ob_load rfl tk5 (.tmp rfl) (List.Mem.head _) (LG.arrA (ite_t hb e_x7))))) fun a26 w26 s26 => ?_; clear s25
  refine seq_opg s26 rfl rfl rfl rfl (of_decide_eq_true rfl) (fun hb => (Ob.uncond (t := 19) hb rfl (ob_eql rfl (.tmp rfl) (opd_int rfl)))) fun a27 w27 s27 => ?_; clear s26
  refine seq_op s27 rfl rfl (of_decide_eq_true rfl) (ob_and2 rfl (.tmp rfl) (.tmp rfl) opd_bool) fun a28 w28 s28 => ?_; clear s27
  refine seq_op s28 rfl rfl (of_decide_eq_true rfl) (ob_assign rfl (.tmp rfl)) fun a29 w29 s29 => ?_; clear s28
  refine wpList_nil ?_
  refine then_normal ?_
  refine hK3 _ _ ?_
  have s30 := s29.sub (.cons (t := 0) rfl (.cons (t := 100000) rfl (.cons (t := 100001) rfl .nil))); clear s29
  have s31 := St.drop (A := []) s30; clear s30
  refine wp_ret ?_
  obtain rfl := Option.some.inj h7
  exact leave s31 (.inl rfl) rfl (.cons (.tmp rfl) .nil)

/- 31 cabal/keyed.Equal -/
theorem c_keyed_Equal (k : Nat) (p1 : (List Int)) (p2 : (List Int)) (r : Bool) (h0 : keyed_Equal k p1 p2 = some r) (ok : Ok) (w0 : World) (z0 : Value) (z1 : Value) (u0 : (kstr.V p1).holds ok w0 z0) (u1 : (kstr.V p2).holds ok w0 z1) :
    Gives Tryd.prog 31 [z0, z1] ok w0 (resFact [kbool.V r]) := by
  unfold keyed_Equal at h0
  refine enter (N := 29) Tryd.func31 rfl rfl (of_decide_eq_true rfl) (.cons u0 (.cons u1 .nil)) fun a1 s1 => ?_
  refine wp_seq_k fun K1 hK1 => ?_
  refine wp_region_lit ?_
  refine seq_op s1 rfl rfl (of_decide_eq_true rfl) (ob_assign rfl opd_bool) fun a2 w2 s2 => ?_; clear s1
  refine wpList_nil ?_
  refine then_normal ?_
  refine hK1 _ _ ?_
  have s3 := s2.sub (.cons (t := 0) rfl (.cons (t := 1) rfl .nil)); clear s2
  refine wp_seq_k fun K2 hK2 => ?_
  refine wp_seq_k fun K3 hK3 => ?_
  refine wp_region_lit ?_
  refine seq_op s3 rfl rfl (of_decide_eq_true rfl) (ob_move rfl (.tmp rfl)) fun a4 w4 s4 => ?_; clear s3
  refine seq_op s4 rfl rfl (of_decide_eq_true rfl) (ob_lenStr rfl Tryd.underlying9 (.tmp rfl)) fun a5 w5 s5 => ?_; clear s4
  refine seq_op s5 rfl rfl (of_decide_eq_true rfl) (ob_move rfl (.tmp rfl)) fun a6 w6 s6 => ?_; clear s5
  refine seq_op s6 rfl rfl (of_decide_eq_true rfl) (ob_lenStr rfl Tryd.underlying9 (.tmp rfl)) fun a7 w7 s7 => ?_; clear s6
  refine seq_op s7 rfl rfl (of_decide_eq_true rfl) (ob_neq rfl (.tmp rfl) (.tmp rfl)) fun a8 w8 s8 => ?_; clear s7
  refine wpList_nil ?_
  refine then_normal ?_
  refine hK3 _ _ ?_
  have s9 := s8.sub (.cons (t := 0) rfl (.cons (t := 1) rfl (.cons (t := 11) rfl .nil))); clear s8
  refine cond_split s9 (.tmp rfl) (fun hc1 => ?_) (fun hc1 => ?_)
  · replace h0 := ite_t hc1 h0
    have h1 := h0; clear h0
    refine wp_seq_k fun K4 hK4 => ?_
    refine wp_region_lit ?_
    refine seq_op s9 rfl rfl (of_decide_eq_true rfl) (ob_assign rfl opd_bool) fun a10 w10 s10 => ?_; clear s9
    refine wpList_nil ?_
    refine then_normal ?_
    refine hK4 _ _ ?_
    have s11 := s10.sub (.cons (t := 4) rfl .nil); clear s10
    refine wp_ret ?_
    obtain rfl := Option.some.inj h1
    exact leave s11 (.inl rfl) rfl (.cons (.tmp rfl) .nil)
  · replace h0 := ite_f hc1 h0
    have h2 := h0; clear h0
    refine wp_skip ?_
    refine then_normal ?_
    refine hK2 _ _ ?_
    have s12 := s9.sub (.cons (t := 0) rfl (.cons (t := 1) rfl .nil)); clear s9
    refine wp_seq_k fun K5 hK5 => ?_
    refine wp_region_lit ?_
    refine seq_op s12 rfl rfl (of_decide_eq_true rfl) (ob_assign rfl (opd_int rfl)) fun a13 w13 s13 => ?_; clear s12
    refine wpList_nil ?_
    refine then_normal ?_
    refine hK5 _ _ ?_
    have s14 := s13.sub (.cons (t := 0) rfl (.cons (t := 1) rfl (.cons (t := 5) rfl .nil))); clear s13
    refine wp_seq_k fun K6 hK6 => ?_
    refine wp_seq_k fun K7 hK7 => ?_
    refine wp_region_lit ?_
    refine seq_op s14 rfl rfl (of_decide_eq_true rfl) (ob_move rfl (.tmp rfl)) fun a15 w15 s15 => ?_; clear s14
    refine seq_op s15 rfl rfl (of_decide_eq_true rfl) (ob_lenStr rfl Tryd.underlying9 (.tmp rfl)) fun a16 w16 s16 => ?_; clear s15
    refine seq_op s16 rfl rfl (of_decide_eq_true rfl) (ob_move rfl (opd_int rfl)) fun a17 w17 s17 => ?_; clear s16
    refine wpList_nil ?_
    refine then_normal ?_
    refine hK7 _ _ ?_
    have s18 := s17.sub (.cons (t := 0) rfl (.cons (t := 1) rfl (.cons (t := 5) rfl (.cons (t := 13) rfl (.cons (t := 14) rfl .nil))))); clear s17
    have hj1 : ∀ (y1 : Int) (a : Act) (w : World), (keyed_Equal.j1 k) y1 = some r → St ⟨29, w0, ok, []⟩ [] [(5, ((kint .u8).V y1))] a w → K6 a w := by
      intro y1 a19 w19 h3 s19
      unfold keyed_Equal.j1 at h3
      refine hK6 _ _ ?_
      refine wp_seq_k fun K8 hK8 => ?_
      refine wp_region_lit ?_
      refine seq_op s19 rfl rfl (of_decide_eq_true rfl) (ob_move rfl (.tmp rfl)) fun a20 w20 s20 => ?_; clear s19
      refine seq_op s20 rfl rfl (of_decide_eq_true rfl) (ob_eql rfl (.tmp rfl) (opd_int rfl)) fun a21 w21 s21 => ?_; clear s20
      refine seq_op s21 rfl rfl (of_decide_eq_true rfl) (ob_assign rfl (.tmp rfl)) fun a22 w22 s22 => ?_; clear s21
      refine wpList_nil ?_
      refine then_normal ?_
      refine hK8 _ _ ?_
      have s23 := s22.sub (.cons (t := 4) rfl .nil); clear s22
      refine wp_ret ?_
      obtain rfl := Option.some.inj h3
      exact leave s23 (.inl rfl) rfl (.cons (.tmp rfl) .nil)
    refine wp_block ?_
    refine wp_loop_fuel (fun m (q : Int × Int) => keyed_Equal.l1 k p1 p2 m q.1 q.2) r (fun _ => rfl) (fun q a w => St ⟨29, w0, ok, []⟩ [] [(0, (kstr.V p1)), (1, (kstr.V p2)), (5, ((kint .u8).V q.1)), (13, ((kint .i64).V (p1.length : Int))), (14, ((kint .i64).V q.2))] a w) ?_ k ((0 : Int), (0 : Int)) _ _ h2 (s18.sub (.cons rfl (.cons rfl (.cons rfl (.cons rfl (.cons rfl .nil))))))
    rintro n1 ⟨y2, y3⟩ a24 w24 h4 s24 K9 hK9
    replace h4 : keyed_Equal.l1 k p1 p2 (n1 + 1) y2 y3 = some r := h4; rw [keyed_Equal.l1] at h4
    have h5 := h4; clear h4
    refine wp_seq_k fun K10 hK10 => ?_
    refine wp_region_lit ?_
    refine seq_op s24 rfl rfl (of_decide_eq_true rfl) (ob_lss rfl (.tmp rfl) (.tmp rfl)) fun a25 w25 s25 => ?_; clear s24
    refine wpList_nil ?_
    refine then_normal ?_
    refine hK10 _ _ ?_
    have s26 := s25.sub (.cons (t := 0) rfl (.cons (t := 1) rfl (.cons (t := 5) rfl (.cons (t := 13) rfl (.cons (t := 14) rfl (.cons (t := 15) rfl .nil)))))); clear s25
    refine wp_seq_k fun K11 hK11 => ?_
    refine cond_split s26 (.tmp rfl) (fun hc2 => ?_) (fun hc2 => ?_)
    · replace h5 := ite_t hc2 h5
      have h6 := h5; clear h5
      refine wp_skip ?_
      refine then_normal ?_
      refine hK11 _ _ ?_
      have s27 := s26.sub (.cons (t := 0) rfl (.cons (t := 1) rfl (.cons (t := 5) rfl (.cons (t := 13) rfl (.cons (t := 14) rfl .nil))))); clear s26
      refine wp_seq_k fun K12 hK12 => ?_
      refine wp_block ?_
      refine wp_seq_k fun K13 hK13 => ?_
      refine wp_region_lit ?_
      refine seq_op s27 rfl rfl (of_decide_eq_true rfl) (ob_move rfl (.tmp rfl)) fun a28 w28 s28 => ?_; clear s27
      refine seq_op s28 rfl rfl (of_decide_eq_true rfl) (ob_assign rfl (.tmp rfl)) fun a29 w29 s29 => ?_; clear s28
      refine wpList_nil ?_
      refine then_normal ?_
      refine hK13 _ _ ?_
      have s30 := s29.sub (.cons (t := 0) rfl (.cons (t := 1) rfl (.cons (t := 5) rfl (.cons (t := 6) rfl (.cons (t := 13) rfl (.cons (t := 14) rfl .nil)))))); clear s29
      obtain ⟨x1, e_x1, h7⟩ := bind_some h6; clear h6
      obtain ⟨x2, e_x2, h8⟩ := bind_some h7; clear h7
      refine wp_drawn (Fs := [((kint .u8).V y2), (kstr.V p1), ((kint .i64).V y3), ((kint .u8).V x1), (kstr.V p2), ((kint .i64).V y3), ((kint .u8).V x2), ((kint .u8).V (ixor .u8 x1 x2)), ((kint .u8).V (ior .u8 y2 (ixor .u8 x1 x2))), ((kint .u8).V (ior .u8 y2 (ixor .u8 x1 x2)))]) (bits := [0, 0, 0, 6, 0, 0, 48, 126, 255, 511]) (m := 10) mx s30 (by kernel_rfl) rfl (ops_cons (.plain _ (Av.old (t := 5) rfl rfl Av.nil) rfl rfl (ob_move rfl (.tmp rfl))) (ops_cons (.plain _ (Av.old (t := 0) rfl rfl Av.nil) rfl rfl (ob_move rfl (.tmp rfl))) (ops_cons (.plain _ (Av.old (t := 6) rfl rfl Av.nil) rfl rfl (ob_move rfl (.tmp rfl))) (ops_cons (.plain _ (Av.new (j := 1) rfl rfl rfl (Av.new (j := 2) rfl rfl rfl Av.nil)) rfl rfl (ob_indexStr rfl Tryd.underlying9 (.tmp rfl) (.tmp rfl) e_x1)) (ops_cons (.plain _ (Av.old (t := 1) rfl rfl Av.nil) rfl rfl (ob_move rfl (.tmp rfl))) (ops_cons (.plain _ (Av.old (t := 6) rfl rfl Av.nil) rfl rfl (ob_move rfl (.tmp rfl))) (ops_cons (.plain _ (Av.new (j := 4) rfl rfl rfl (Av.new (j := 5) rfl rfl rfl Av.nil)) rfl rfl (ob_indexStr rfl Tryd.underlying9 (.tmp rfl) (.tmp rfl) e_x2)) (ops_cons (.plain _ (Av.new (j := 3) rfl rfl rfl (Av.new (j := 6) rfl rfl rfl Av.nil)) rfl rfl (ob_xor rfl (.tmp rfl) (.tmp rfl))) (ops_cons (.plain _ (Av.new (j := 0) rfl rfl rfl (Av.new (j := 7) rfl rfl rfl Av.nil)) rfl rfl (ob_or rfl (.tmp rfl) (.tmp rfl))) (ops_cons (.plain _ (Av.new (j := 8) rfl rfl rfl Av.nil) rfl rfl (ob_assign rfl (.tmp rfl))) ops_nil)))))))))) (out_old (t := 0) rfl rfl (out_old (t := 1) rfl rfl (out_new (i := 9) (by decide) rfl rfl (out_old (t := 13) rfl rfl (out_old (t := 14) rfl rfl out_nil))))) fun a31 w31 s31 => ?_; clear s30
      refine wpList_nil ?_
      refine in_normal ?_
      refine then_normal ?_
      refine hK12 _ _ ?_
      have s32 := s31.sub (.cons (t := 0) rfl (.cons (t := 1) rfl (.cons (t := 5) rfl (.cons (t := 13) rfl (.cons (t := 14) rfl .nil))))); clear s31
      refine wp_region_lit ?_
      refine seq_op s32 rfl rfl (of_decide_eq_true rfl) (ob_add rfl (.tmp rfl) (opd_int rfl)) fun a33 w33 s33 => ?_; clear s32
      refine seq_op s33 rfl rfl (of_decide_eq_true rfl) (ob_move rfl (.tmp rfl)) fun a34 w34 s34 => ?_; clear s33
      refine wpList_nil ?_
      refine then_normal ?_
      exact hK9 ((ior .u8 y2 (ixor .u8 x1 x2)), (iadd .i64 y3 (1 : Int))) _ _ h8 (s34.sub (.cons rfl (.cons rfl (.cons rfl (.cons rfl (.cons rfl .nil))))))
    · replace h5 := ite_f hc2 h5
      have h9 := h5; clear h5
      refine wp_exit ?_
      refine (then_exit (then_exit (in_here ?_)))
      refine then_normal ?_
      exact hj1 y2 _ _ h9 (s26.sub (.cons rfl .nil))

/- 10 cabal/caballaw02.KeyedEqual -/
theorem c_caballaw02_KeyedEqual (k : Nat) (p1 : (List Int)) (p2 : (List Int)) (p3 : Int) (p4 : Int) (r : Bool) (h0 : caballaw02_KeyedEqual k p1 p2 p3 p4 = some r) (ok : Ok) (w0 : World) (gl0 : (ptrTo (karr 8 (kint .u32)) G_digest_first).holds ok w0 (.pointer (some ⟨0, 0, none⟩))) (gl1 : (ptrTo (karr 64 (kint .u32)) G_digest_rounds).holds ok w0 (.pointer (some ⟨1, 0, none⟩))) (z0 : Value) (z1 : Value) (z2 : Value) (z3 : Value) (u0 : (kstr.V p1).holds ok w0 z0) (u1 : (kstr.V p2).holds ok w0 z1) (u2 : ((kint .i64).V p3).holds ok w0 z2) (u3 : ((kint .u8).V p4).holds ok w0 z3) :
    Gives Tryd.prog 10 [z0, z1, z2, z3] ok w0 (resFact [kbool.V r]) := by
  unfold caballaw02_KeyedEqual at h0
  refine enter (N := 72) Tryd.func10 rfl rfl (of_decide_eq_true rfl) (.cons u0 (.cons u1 (.cons u2 (.cons u3 .nil)))) fun a1 s1 => ?_
  have s2 := s1.keepKnown 100000 gl0 okIn; clear s1
  have s3 := s2.keepKnown 100001 gl1 okIn; clear s2
  refine wp_seq_k fun K1 hK1 => ?_
  refine wp_region_lit ?_
  refine seq_op s3 rfl rfl (of_decide_eq_true rfl) (ob_assign rfl opd_bool) fun a4 w4 s4 => ?_; clear s3
  refine wpList_nil ?_
  refine then_normal ?_
  refine hK1 _ _ ?_
  have s5 := s4.sub (.cons (t := 0) rfl (.cons (t := 1) rfl (.cons (t := 2) rfl (.cons (t := 3) rfl (.cons (t := 100000) rfl (.cons (t := 100001) rfl .nil)))))); clear s4
  refine wp_seq_k fun K2 hK2 => ?_
  refine wp_seq_k fun K3 hK3 => ?_
  refine wp_region_lit ?_
  obtain ⟨x1, e_x1, h1⟩ := bind_some h0; clear h0
  refine seq_op s5 rfl rfl (of_decide_eq_true rfl) (ob_calls rfl hb26 (fun a w s => c_caballaw02_alive k _ e_x1 _ _ (s.env _ _ (show get _ 100000 = _ from rfl)) (s.env _ _ (show get _ 100001 = _ from rfl)))) fun a6 w6 s6 => ?_; clear s5
  refine seq_op s6 rfl rfl (of_decide_eq_true rfl) (ob_not rfl (.tmp rfl)) fun a7 w7 s7 => ?_; clear s6
  refine wpList_nil ?_
  refine then_normal ?_
  refine hK3 _ _ ?_
  have s8 := s7.sub (.cons (t := 0) rfl (.cons (t := 1) rfl (.cons (t := 2) rfl (.cons (t := 3) rfl (.cons (t := 12) rfl (.cons (t := 100000) rfl (.cons (t := 100001) rfl .nil))))))); clear s7
  refine cond_split s8 (.tmp rfl) (fun hc1 => ?_) (fun hc1 => ?_)
  · replace h1 := ite_t hc1 h1
    have h2 := h1; clear h1
    refine wp_seq_k fun K4 hK4 => ?_
    refine wp_region_lit ?_
    refine seq_op s8 rfl rfl (of_decide_eq_true rfl) (ob_assign rfl opd_bool) fun a9 w9 s9 => ?_; clear s8
    refine wpList_nil ?_
    refine then_normal ?_
    refine hK4 _ _ ?_
    have s10 := s9.sub (.cons (t := 8) rfl (.cons (t := 100000) rfl (.cons (t := 100001) rfl .nil))); clear s9
    refine wp_ret ?_
    obtain rfl := Option.some.inj h2
    exact leave s10 (.inl rfl) rfl (.cons (.tmp rfl) .nil)
  · replace h1 := ite_f hc1 h1
    have h3 := h1; clear h1
    refine wp_skip ?_
    refine then_normal ?_
    refine hK2 _ _ ?_
    have s11 := s8.sub (.cons (t := 0) rfl (.cons (t := 1) rfl (.cons (t := 2) rfl (.cons (t := 3) rfl (.cons (t := 100000) rfl (.cons (t := 100001) rfl .nil)))))); clear s8
    refine wp_seq_k fun K5 hK5 => ?_
    refine wp_seq_k fun K6 hK6 => ?_
    refine wp_region_lit ?_
    refine seq_op s11 rfl rfl (of_decide_eq_true rfl) (ob_move rfl (.tmp rfl)) fun a12 w12 s12 => ?_; clear s11
    refine seq_op s12 rfl rfl (of_decide_eq_true rfl) (ob_lenStr rfl Tryd.underlying9 (.tmp rfl)) fun a13 w13 s13 => ?_; clear s12
    refine seq_op s13 rfl rfl (of_decide_eq_true rfl) (ob_eql rfl (.tmp rfl) (opd_int rfl)) fun a14 w14 s14 => ?_; clear s13
    refine wpList_nil ?_
    refine then_normal ?_
    refine hK6 _ _ ?_
    have s15 := s14.sub (.cons (t := 0) rfl (.cons (t := 1) rfl (.cons (t := 2) rfl (.cons (t := 3) rfl (.cons (t := 15) rfl (.cons (t := 100000) rfl (.cons (t := 100001) rfl .nil))))))); clear s14
    refine cond_split s15 (.tmp rfl) (fun hc2 => ?_) (fun hc2 => ?_)
    · replace h3 := ite_t hc2 h3
      have h4 := h3; clear h3
      refine wp_seq_k fun K7 hK7 => ?_
      refine wp_region_lit ?_
      obtain ⟨x2, e_x2, h5⟩ := bind_some h4; clear h4
      refine seq_op s15 rfl rfl (of_decide_eq_true rfl) (ob_calls rfl hb26 (fun a w s => c_caballaw02_alive k _ e_x2 _ _ (s.env _ _ (show get _ 100000 = _ from rfl)) (s.env _ _ (show get _ 100001 = _ from rfl)))) fun a16 w16 s16 => ?_; clear s15
      refine seq_op s16 rfl rfl (of_decide_eq_true rfl) (ob_move rfl (.tmp rfl)) fun a17 w17 s17 => ?_; clear s16
      refine seq_opg s17 rfl rfl rfl rfl (of_decide_eq_true rfl) (fun hb => ob_move rfl (.tmp rfl)) fun a18 w18 s18 => ?_; clear s17
      refine seq_opg s18 rfl rfl rfl rfl (of_decide_eq_true rfl) (fun hb => ob_move rfl (.tmp rfl)) fun a19 w19 s19 => ?_; clear s18
      obtain ⟨x3, e_x3, h6⟩ := bind_some h5; clear h5
      refine seq_opg s19 rfl rfl rfl rfl (of_decide_eq_true rfl) (fun hb => (Ob.uncond (t := 19) hb rfl ((Ob.uncond (t := 18) hb rfl (ob_calls rfl hb31 (fun a w s => c_keyed_Equal k _ _ _ (ite_t hb e_x3) _ _ _ _ (s.arg (.tmp rfl)) (s.arg (.tmp rfl)))))))) fun a20 w20 s20 => ?_; clear s19
      refine seq_opg s20 rfl rfl rfl rfl (of_decide_eq_true rfl) (fun hb => ob_move rfl (.tmp rfl)) fun a21 w21 s21 => ?_; clear s20
      refine seq_opg s21 rfl rfl rfl rfl (of_decide_eq_true rfl) (fun hb => (Ob.uncond (t := 21) hb rfl (ob_seql rfl (.tmp rfl) (opd_str (by rfl) (by decide))))) fun a22 w22 s22 => ?_; clear s21
      refine seq_opg s22 rfl rfl rfl rfl (of_decide_eq_true rfl) (fun hb => (Ob.uncond (t := 22) hb rfl ((Ob.uncond (t := 20) hb rfl (ob_beql rfl Tryd.underlying4 (.tmp rfl) (.tmp rfl)))))) fun a23 w23 s23 => ?_; clear s22
      obtain ⟨x4, e_x4, h7⟩ := bind_some h6; clear h6; replace e_x4 := Option.some.inj e_x4
      refine seq_op s23 rfl rfl (of_decide_eq_true rfl) ((ob_and2 rfl (.tmp rfl) (.tmp rfl) opd_bool).nm e_x4) fun a24 w24 s24 => ?_; clear s23
      refine seq_op s24 rfl rfl (of_decide_eq_true rfl) (ob_move rfl (.tmp rfl)) fun a25 w25 s25 => ?_; clear s24
      refine seq_opg s25 rfl rfl rfl rfl (of_decide_eq_true rfl) (fun hb => ob_move rfl (.tmp rfl)) fun a26 w26 s26 => ?_; clear s25
      refine seq_opg s26 rfl rfl rfl rfl (of_decide_eq_true rfl) (fun hb => ob_move rfl (.tmp rfl)) fun a27 w27 s27 => ?_; clear s26
      obtain ⟨x5, e_x5, h8⟩ := bind_some h7; clear h7
      refine seq_opg s27 rfl rfl rfl rfl (of_decide_eq_true rfl) (fun hb => (Ob.uncond (t := 27) hb rfl ((Ob.uncond (t := 26) hb rfl (ob_calls rfl hb31 (fun a w s => c_keyed_Equal k _ _ _ (ite_t hb e_x5) _ _ _ _ (s.arg (.tmp rfl)) (s.arg (.tmp rfl)))))))) fun a28 w28 s28 => ?_; clear s27
      refine seq_op s28 rfl rfl (of_decide_eq_true rfl) (ob_and2 rfl (.tmp rfl) (.tmp rfl) opd_bool) fun a29 w29 s29 => ?_; clear s28
      refine seq_op s29 rfl rfl (of_decide_eq_true rfl) (ob_assign rfl (.tmp rfl)) fun a30 w30 s30 => ?_; clear s29
      refine wpList_nil ?_
      refine then_normal ?_
      refine hK7 _ _ ?_
      have s31 := s30.sub (.cons (t := 8) rfl (.cons (t := 100000) rfl (.cons (t := 100001) rfl .nil))); clear s30
      refine wp_ret ?_
      obtain rfl := Option.some.inj h8
      exact leave s31 (.inl rfl) rfl (.cons (.tmp rfl) .nil)
    · replace h3 := ite_f hc2 h3
      have h9 := h3; clear h3
      refine wp_skip ?_
      refine then_normal ?_
      refine hK5 _ _ ?_
      have s32 := s15.sub (.cons (t := 0) rfl (.cons (t := 1) rfl (.cons (t := 2) rfl (.cons (t := 3) rfl (.cons (t := 100000) rfl (.cons (t := 100001) rfl .nil)))))); clear s15
      refine wp_seq_k fun K8 hK8 => ?_
      refine wp_region_lit ?_
      refine seq_op s32 rfl rfl (of_decide_eq_true rfl) (ob_move rfl (.tmp rfl)) fun a33 w33 s33 => ?_; clear s32
      refine seq_opx s33 rfl rfl (of_decide_eq_true rfl) (ob_strToBytes rfl Tryd.underlying9 Tryd.underlying49 Tryd.underlying5 (.tmp rfl)) fun v1 a34 w34 s34 => ?_; clear s33
      refine seq_op s34 rfl rfl (of_decide_eq_true rfl) (ob_assign rfl (.tmp rfl)) fun a35 w35 s35 => ?_; clear s34
      refine wpList_nil ?_
      refine then_normal ?_
      refine hK8 _ _ ?_
      have s36 := s35.sub (.cons (t := 0) rfl (.cons (t := 1) rfl (.cons (t := 2) rfl (.cons (t := 3) rfl (.cons (t := 9) rfl (.cons (t := 100000) rfl (.cons (t := 100001) rfl .nil))))))); clear s35
      refine wp_seq_k fun K9 hK9 => ?_
      refine wp_region_lit ?_
      refine seq_op s36 rfl rfl (of_decide_eq_true rfl) (ob_move rfl (.tmp rfl)) fun a37 w37 s37 => ?_; clear s36
      refine seq_op s37 rfl rfl (of_decide_eq_true rfl) (ob_conv rfl _ Tryd.underlying3 Tryd.underlying54 (.tmp rfl)) fun a38 w38 s38 => ?_; clear s37
      refine seq_op s38 rfl rfl (of_decide_eq_true rfl) (ob_move rfl (.tmp rfl)) fun a39 w39 s39 => ?_; clear s38
      refine seq_op s39 rfl rfl (of_decide_eq_true rfl) (ob_lenByt rfl Tryd.underlying49 (.tmp rfl) (List.Mem.head _)) fun a40 w40 s40 => ?_; clear s39
      refine seq_op s40 rfl rfl (of_decide_eq_true rfl) (ob_conv rfl _ Tryd.underlying3 Tryd.underlying54 (.tmp rfl)) fun a41 w41 s41 => ?_; clear s40
      obtain ⟨g1, h10⟩ := guard_some h9; clear h9
      refine seq_op s41 rfl rfl (of_decide_eq_true rfl) (ob_rem rfl (.tmp rfl) (.tmp rfl) g1) fun a42 w42 s42 => ?_; clear s41
      obtain ⟨x6, e_x6, h11⟩ := bind_some h10; clear h10; replace e_x6 := Option.some.inj e_x6
      refine seq_op s42 rfl rfl (of_decide_eq_true rfl) ((ob_conv rfl _ Tryd.underlying54 Tryd.underlying3 (.tmp rfl)).nm e_x6) fun a43 w43 s43 => ?_; clear s42
      refine seq_op s43 rfl rfl (of_decide_eq_true rfl) (ob_assign rfl (.tmp rfl)) fun a44 w44 s44 => ?_; clear s43
      refine wpList_nil ?_
      refine then_normal ?_
      refine hK9 _ _ ?_
      have s45 := s44.sub (.cons (t := 0) rfl (.cons (t := 1) rfl (.cons (t := 3) rfl (.cons (t := 9) rfl (.cons (t := 10) rfl (.cons (t := 100000) rfl (.cons (t := 100001) rfl .nil))))))); clear s44
      refine wp_seq_k fun K10 hK10 => ?_
      refine wp_region_lit ?_
      refine seq_op s45 rfl rfl (of_decide_eq_true rfl) (ob_move rfl (.tmp rfl)) fun a46 w46 s46 => ?_; clear s45
      refine seq_op s46 rfl rfl (of_decide_eq_true rfl) (ob_move rfl (.tmp rfl)) fun a47 w47 s47 => ?_; clear s46
      refine seq_op s47 rfl rfl (of_decide_eq_true rfl) (ob_move rfl (.tmp rfl)) fun a48 w48 s48 => ?_; clear s47
      refine seq_op s48 rfl rfl (of_decide_eq_true rfl) (ob_move rfl (.tmp rfl)) fun a49 w49 s49 => ?_; clear s48
      obtain ⟨g2, h12⟩ := guard_some h11; clear h11
      refine seq_op s49 rfl rfl (of_decide_eq_true rfl) (ob_indexAddrByt rfl Tryd.underlying49 sz5 (.tmp rfl) (List.Mem.head _) (.tmp rfl) g2) fun a50 w50 s50 => ?_; clear s49
      obtain ⟨x7, e_x7, h13⟩ := bind_some h12; clear h12
      refine seq_op s50 rfl rfl (of_decide_eq_true rfl) (ob_loadByt rfl tk5 (.tmp rfl) (List.Mem.head _) e_x7) fun a51 w51 s51 => ?_; clear s50
      refine seq_op s51 rfl rfl (of_decide_eq_true rfl) (ob_move rfl (.tmp rfl)) fun a52 w52 s52 => ?_; clear s51
      refine seq_op s52 rfl rfl (of_decide_eq_true rfl) (ob_xor rfl (.tmp rfl) (.tmp rfl)) fun a53 w53 s53 => ?_; clear s52
      obtain ⟨g3, h14⟩ := guard_some h13; clear h13
      refine seq_op s53 rfl rfl (of_decide_eq_true rfl) (ob_indexAddrByt rfl Tryd.underlying49 sz5 (.tmp rfl) (List.Mem.head _) (.tmp rfl) g3) fun a54 w54 s54 => ?_; clear s53
      obtain ⟨x8, e_x8, h15⟩ := bind_some h14; clear h14
      refine seq_opx0 (B' := fun _ => [BytF v1 5 x8]) s54 rfl rfl (ob_storeByt (A := []) rfl tk5 (.tmp rfl) (.tmp rfl) rfl e_x8 rfl) fun _ a55 w55 s55 => ?_; clear s54
      refine wpList_nil ?_
      refine then_normal ?_
      refine hK10 _ _ ?_
      have s56 := s55.sub (.cons (t := 0) rfl (.cons (t := 1) rfl (.cons (t := 3) rfl (.cons (t := 9) rfl (.cons (t := 100000) rfl (.cons (t := 100001) rfl .nil)))))); clear s55
      refine wp_seq_k fun K11 hK11 => ?_
      refine wp_region_lit ?_
      obtain ⟨x9, e_x9, h16⟩ := bind_some h15; clear h15
      refine seq_op s56 rfl rfl (of_decide_eq_true rfl) (ob_calls rfl hb26 (fun a w s => c_caballaw02_alive k _ e_x9 _ _ (s.env _ _ (show get _ 100000 = _ from rfl)) (s.env _ _ (show get _ 100001 = _ from rfl)))) fun a57 w57 s57 => ?_; clear s56
      refine seq_op s57 rfl rfl (of_decide_eq_true rfl) (ob_move rfl (.tmp rfl)) fun a58 w58 s58 => ?_; clear s57
      refine seq_opg s58 rfl rfl rfl rfl (of_decide_eq_true rfl) (fun hb => ob_move rfl (.tmp rfl)) fun a59 w59 s59 => ?_; clear s58
      refine seq_opg s59 rfl rfl rfl rfl (of_decide_eq_true rfl) (fun hb => ob_move rfl (.tmp rfl)) fun a60 w60 s60 => ?_; clear s59
      obtain ⟨x10, e_x10, h17⟩ := bind_some h16; clear h16
      refine seq_opg s60 rfl rfl rfl rfl (of_decide_eq_true rfl) (fun hb => (Ob.uncond (t := 51) hb rfl ((Ob.uncond (t := 50) hb rfl (ob_calls rfl hb31 (fun a w s => c_keyed_Equal k _ _ _ (ite_t hb e_x10) _ _ _ _ (s.arg (.tmp rfl)) (s.arg (.tmp rfl)))))))) fun a61 w61 s61 => ?_; clear s60
      refine seq_opg s61 rfl rfl rfl rfl (of_decide_eq_true rfl) (fun hb => ob_move rfl (.tmp rfl)) fun a62 w62 s62 => ?_; clear s61
      refine seq_opg s62 rfl rfl rfl rfl (of_decide_eq_true rfl) (fun hb => ob_move rfl (.tmp rfl)) fun a63 w63 s63 => ?_; clear s62
      refine seq_opg s63 rfl rfl rfl rfl (of_decide_eq_true rfl) (fun hb => (Ob.uncond (t := 54) hb rfl ((Ob.uncond (t := 53) hb rfl (ob_seql rfl (.tmp rfl) (.tmp rfl)))))) fun a64 w64 s64 => ?_; clear s63
      refine seq_opg s64 rfl rfl rfl rfl (of_decide_eq_true rfl) (fun hb => (Ob.uncond (t := 55) hb rfl ((Ob.uncond (t := 52) hb rfl (ob_beql rfl Tryd.underlying4 (.tmp rfl) (.tmp rfl)))))) fun a65 w65 s65 => ?_; clear s64
      refine seq_op s65 rfl rfl (of_decide_eq_true rfl) (ob_and2 rfl (.tmp rfl) (.tmp rfl) opd_bool) fun a66 w66 s66 => ?_; clear s65
      refine seq_op s66 rfl rfl (of_decide_eq_true rfl) (ob_move rfl (.tmp rfl)) fun a67 w67 s67 => ?_; clear s66
      refine seq_opg s67 rfl rfl rfl rfl (of_decide_eq_true rfl) (fun hb => ob_move rfl (.tmp rfl)) fun a68 w68 s68 => ?_; clear s67
      refine seq_opg s68 rfl rfl rfl rfl (of_decide_eq_true rfl) (fun hb => ob_move rfl (.tmp rfl)) fun a69 w69 s69 => ?_; clear s68
      refine seq_opg s69 rfl rfl rfl rfl (of_decide_eq_true rfl) (fun hb => (Ob.uncond (t := 60) hb rfl (ob_bytStr rfl Tryd.underlying49 Tryd.underlying9 Tryd.underlying5 (.tmp rfl) (List.Mem.head _)))) fun a70 w70 s70 => ?_; clear s69
      obtain ⟨x11, e_x11, h18⟩ := bind_some h17; clear h17
      refine seq_opg s70 rfl rfl rfl rfl (of_decide_eq_true rfl) (fun hb => (Ob.uncond (t := 61) hb rfl ((Ob.uncond (t := 59) hb rfl (ob_calls rfl hb31 (fun a w s => c_keyed_Equal k _ _ _ (ite_t hb e_x11) _ _ _ _ (s.arg (.tmp rfl)) (s.arg (.tmp rfl)))))))) fun a71 w71 s71 => ?_; clear s70
      refine seq_opg s71 rfl rfl rfl rfl (of_decide_eq_true rfl) (fun hb => ob_move rfl (.tmp rfl)) fun a72 w72 s72 => ?_; clear s71
      refine seq_opg s72 rfl rfl rfl rfl (of_decide_eq_true rfl) (fun hb => (Ob.uncond (t := 63) hb rfl (ob_eql rfl (.tmp rfl) (opd_int rfl)))) fun a73 w73 s73 => ?_; clear s72
      refine seq_opg s73 rfl rfl rfl rfl (of_decide_eq_true rfl) (fun hb => (Ob.uncond (t := 64) hb rfl ((Ob.uncond (t := 62) hb rfl (ob_beql rfl Tryd.underlying4 (.tmp rfl) (.tmp rfl)))))) fun a74 w74 s74 => ?_; clear s73
      obtain ⟨x12, e_x12, h19⟩ := bind_some h18; clear h18; replace e_x12 := Option.some.inj e_x12
      refine seq_op s74 rfl rfl (of_decide_eq_true rfl) ((ob_and2 rfl (.tmp rfl) (.tmp rfl) opd_bool).nm e_x12) fun a75 w75 s75 => ?_; clear s74
      refine seq_op s75 rfl rfl (of_decide_eq_true rfl) (ob_move rfl (.tmp rfl)) fun a76 w76 s76 => ?_; clear s75
      refine seq_opg s76 rfl rfl rfl rfl (of_decide_eq_true rfl) (fun hb => ob_move rfl (.tmp rfl)) fun a77 w77 s77 => ?_; clear s76
      refine seq_opg s77 rfl rfl rfl rfl (of_decide_eq_true rfl) (fun hb => ob_move rfl (.tmp rfl)) fun a78 w78 s78 => ?_; clear s77
      obtain ⟨x13, e_x13, h20⟩ := bind_some h19; clear h19
      refine seq_opg s78 rfl rfl rfl rfl (of_decide_eq_true rfl) (fun hb => (Ob.uncond (t := 69) hb rfl ((Ob.uncond (t := 68) hb rfl (ob_calls rfl hb31 (fun a w s => c_keyed_Equal k _ _ _ (ite_t hb e_x13) _ _ _ _ (s.arg (.tmp rfl)) (s.arg (.tmp rfl)))))))) fun a79 w79 s79 => ?_; clear s78
      refine seq_op s79 rfl rfl (of_decide_eq_true rfl) (ob_and2 rfl (.tmp rfl) (.tmp rfl) opd_bool) fun a80 w80 s80 => ?_; clear s79
      refine seq_op s80 rfl rfl (of_decide_eq_true rfl) (ob_assign rfl (.tmp rfl)) fun a81 w81 s81 => ?_; clear s80
      refine wpList_nil ?_
      refine then_normal ?_
      refine hK11 _ _ ?_
      have s82 := s81.sub (.cons (t := 8) rfl (.cons (t := 100000) rfl (.cons (t := 100001) rfl .nil))); clear s81
      have s83 := St.drop (A := []) s82; clear s82
      refine wp_ret ?_
      obtain rfl := Option.some.inj h20
      exact leave s83 (.inl rfl) rfl (.cons (.tmp rfl) .nil)

/- 28 cabal/caballaw02.great -/
theorem c_caballaw02_great (k : Nat) (p1 : (List Int)) (p2 : (List (List Int))) (r : Bool) (h0 : caballaw02_great k p1 p2 = some r) (ok : Ok) (w0 : World) (z0 : Value) (z1 : Value) (u0 : (kstr.V p1).holds ok w0 z0) (u1 : ((ksl kstr).V p2).holds ok w0 z1) :
    Gives Tryd.prog 28 [z0, z1] ok w0 (resFact [kbool.V r]) := by
  unfold caballaw02_great at h0
  refine enter (N := 26) Tryd.func28 rfl rfl (of_decide_eq_true rfl) (.cons u0 (.cons u1 .nil)) fun a1 s1 => ?_
  refine wp_seq_k fun K1 hK1 => ?_
  refine wp_region_lit ?_
  refine seq_op s1 rfl rfl (of_decide_eq_true rfl) (ob_assign rfl opd_bool) fun a2 w2 s2 => ?_; clear s1
  refine wpList_nil ?_
  refine then_normal ?_
  refine hK1 _ _ ?_
  have s3 := s2.sub (.cons (t := 0) rfl (.cons (t := 1) rfl .nil)); clear s2
  refine wp_seq_k fun K2 hK2 => ?_
  refine wp_seq_k fun K3 hK3 => ?_
  refine wp_region_lit ?_
  refine seq_op s3 rfl rfl (of_decide_eq_true rfl) (ob_move rfl (.tmp rfl)) fun a4 w4 s4 => ?_; clear s3
  refine seq_op s4 rfl rfl (of_decide_eq_true rfl) (ob_lenStr rfl Tryd.underlying9 (.tmp rfl)) fun a5 w5 s5 => ?_; clear s4
  refine seq_op s5 rfl rfl (of_decide_eq_true rfl) (ob_gtr rfl (.tmp rfl) (opd_int rfl)) fun a6 w6 s6 => ?_; clear s5
  refine seq_op s6 rfl rfl (of_decide_eq_true rfl) (ob_move rfl (.tmp rfl)) fun a7 w7 s7 => ?_; clear s6
  refine seq_opg s7 rfl rfl rfl rfl (of_decide_eq_true rfl) (fun hb => ob_move rfl (.tmp rfl)) fun a8 w8 s8 => ?_; clear s7
  refine seq_opg s8 rfl rfl rfl rfl (of_decide_eq_true rfl) (fun hb => (Ob.uncond (t := 10) hb rfl (ob_lens rfl Tryd.underlying22 (.tmp rfl)))) fun a9 w9 s9 => ?_; clear s8
  refine seq_opg s9 rfl rfl rfl rfl (of_decide_eq_true rfl) (fun hb => (Ob.uncond (t := 11) hb rfl (ob_gtr rfl (.tmp rfl) (opd_int rfl)))) fun a10 w10 s10 => ?_; clear s9
  obtain ⟨x1, e_x1, h1⟩ := bind_some h0; clear h0; replace e_x1 := Option.some.inj e_x1
  refine seq_op s10 rfl rfl (of_decide_eq_true rfl) ((ob_or2 rfl (.tmp rfl) opd_bool (.tmp rfl)).nm e_x1) fun a11 w11 s11 => ?_; clear s10
  refine wpList_nil ?_
  refine then_normal ?_
  refine hK3 _ _ ?_
  have s12 := s11.sub (.cons (t := 1) rfl (.cons (t := 13) rfl .nil)); clear s11
  refine cond_split s12 (.tmp rfl) (fun hc1 => ?_) (fun hc1 => ?_)
  · replace h1 := ite_t hc1 h1
    have h2 := h1; clear h1
    refine wp_seq_k fun K4 hK4 => ?_
    refine wp_region_lit ?_
    refine seq_op s12 rfl rfl (of_decide_eq_true rfl) (ob_assign rfl opd_bool) fun a13 w13 s13 => ?_; clear s12
    refine wpList_nil ?_
    refine then_normal ?_
    refine hK4 _ _ ?_
    have s14 := s13.sub (.cons (t := 4) rfl .nil); clear s13
    refine wp_ret ?_
    obtain rfl := Option.some.inj h2
    exact leave s14 (.inl rfl) rfl (.cons (.tmp rfl) .nil)
  · replace h1 := ite_f hc1 h1
    have h3 := h1; clear h1
    refine wp_skip ?_
    refine then_normal ?_
    refine hK2 _ _ ?_
    have s15 := s12.sub (.cons (t := 1) rfl .nil); clear s12
    refine wp_seq_k fun K5 hK5 => ?_
    refine wp_seq_k fun K6 hK6 => ?_
    refine wp_region_lit ?_
    refine seq_op s15 rfl rfl (of_decide_eq_true rfl) (ob_assign rfl (opd_int rfl)) fun a16 w16 s16 => ?_; clear s15
    refine wpList_nil ?_
    refine then_normal ?_
    refine hK6 _ _ ?_
    have s17 := s16.sub (.cons (t := 1) rfl (.cons (t := 5) rfl .nil)); clear s16
    have hj1 : ∀ (a : Act) (w : World), (caballaw02_great.j1 k) = some r → St ⟨26, w0, ok, []⟩ [] [] a w → K5 a w := by
      intro a18 w18 h4 s18
      unfold caballaw02_great.j1 at h4
      refine hK5 _ _ ?_
      refine wp_seq_k fun K7 hK7 => ?_
      refine wp_region_lit ?_
      refine seq_op s18 rfl rfl (of_decide_eq_true rfl) (ob_assign rfl opd_bool) fun a19 w19 s19 => ?_; clear s18
      refine wpList_nil ?_
      refine then_normal ?_
      refine hK7 _ _ ?_
      have s20 := s19.sub (.cons (t := 4) rfl .nil); clear s19
      refine wp_ret ?_
      obtain rfl := Option.some.inj h4
      exact leave s20 (.inl rfl) rfl (.cons (.tmp rfl) .nil)
    refine wp_block ?_
    refine wp_loop_fuel (fun m (q : Int) => caballaw02_great.l1 k p2 m q) r (fun _ => rfl) (fun q a w => St ⟨26, w0, ok, []⟩ [] [(1, ((ksl kstr).V p2)), (5, ((kint .i64).V q))] a w) ?_ k (0 : Int) _ _ h3 (s17.sub (.cons rfl (.cons rfl .nil)))
    rintro n1 y1 a21 w21 h5 s21 K8 hK8
    replace h5 : caballaw02_great.l1 k p2 (n1 + 1) y1 = some r := h5; rw [caballaw02_great.l1] at h5
    have h6 := h5; clear h5
    refine wp_seq_k fun K9 hK9 => ?_
    refine wp_seq_k fun K10 hK10 => ?_
    refine wp_region_lit ?_
    refine seq_op s21 rfl rfl (of_decide_eq_true rfl) (ob_move rfl (.tmp rfl)) fun a22 w22 s22 => ?_; clear s21
    refine seq_op s22 rfl rfl (of_decide_eq_true rfl) (ob_move rfl (.tmp rfl)) fun a23 w23 s23 => ?_; clear s22
    refine seq_op s23 rfl rfl (of_decide_eq_true rfl) (ob_lens rfl Tryd.underlying22 (.tmp rfl)) fun a24 w24 s24 => ?_; clear s23
    refine seq_op s24 rfl rfl (of_decide_eq_true rfl) (ob_lss rfl (.tmp rfl) (.tmp rfl)) fun a25 w25 s25 => ?_; clear s24
    refine wpList_nil ?_
    refine then_normal ?_
    refine hK10 _ _ ?_
    have s26 := s25.sub (.cons (t := 1) rfl (.cons (t := 5) rfl (.cons (t := 17) rfl .nil))); clear s25
    refine cond_split s26 (.tmp rfl) (fun hc2 => ?_) (fun hc2 => ?_)
    · replace h6 := ite_t hc2 h6
      have h7 := h6; clear h6
      refine wp_skip ?_
      refine then_normal ?_
      refine hK9 _ _ ?_
      have s27 := s26.sub (.cons (t := 1) rfl (.cons (t := 5) rfl .nil)); clear s26
      refine wp_seq_k fun K11 hK11 => ?_
      refine wp_block ?_
      refine wp_seq_k fun K12 hK12 => ?_
      refine wp_region_lit ?_
      refine seq_op s27 rfl rfl (of_decide_eq_true rfl) (ob_move rfl (.tmp rfl)) fun a28 w28 s28 => ?_; clear s27
      refine seq_op s28 rfl rfl (of_decide_eq_true rfl) (ob_move rfl (.tmp rfl)) fun a29 w29 s29 => ?_; clear s28
      obtain ⟨x2, e_x2, h8⟩ := bind_some h7; clear h7
      refine seq_op s29 rfl rfl (of_decide_eq_true rfl) (ob_indexAddrs rfl Tryd.underlying22 sz9 (.tmp rfl) (.tmp rfl) e_x2) fun a30 w30 s30 => ?_; clear s29
      refine seq_op s30 rfl rfl (of_decide_eq_true rfl) (ob_loadr rfl tk9 (.tmp rfl)) fun a31 w31 s31 => ?_; clear s30
      refine seq_op s31 rfl rfl (of_decide_eq_true rfl) (ob_lenStr rfl Tryd.underlying9 (.tmp rfl)) fun a32 w32 s32 => ?_; clear s31
      refine seq_op s32 rfl rfl (of_decide_eq_true rfl) (ob_gtr rfl (.tmp rfl) (opd_int rfl)) fun a33 w33 s33 => ?_; clear s32
      refine wpList_nil ?_
      refine then_normal ?_
      refine hK12 _ _ ?_
      have s34 := s33.sub (.cons (t := 1) rfl (.cons (t := 5) rfl (.cons (t := 25) rfl .nil))); clear s33
      refine cond_split s34 (.tmp rfl) (fun hc3 => ?_) (fun hc3 => ?_)
      · replace h8 := ite_t hc3 h8
        have h9 := h8; clear h8
        refine wp_seq_k fun K13 hK13 => ?_
        refine wp_region_lit ?_
        refine seq_op s34 rfl rfl (of_decide_eq_true rfl) (ob_assign rfl opd_bool) fun a35 w35 s35 => ?_; clear s34
        refine wpList_nil ?_
        refine then_normal ?_
        refine hK13 _ _ ?_
        have s36 := s35.sub (.cons (t := 4) rfl .nil); clear s35
        refine wp_ret ?_
        obtain rfl := Option.some.inj h9
        exact leave s36 (.inl rfl) rfl (.cons (.tmp rfl) .nil)
      · replace h8 := ite_f hc3 h8
        have h10 := h8; clear h8
        refine wp_skip ?_
        refine in_normal ?_
        refine then_normal ?_
        refine hK11 _ _ ?_
        have s37 := s34.sub (.cons (t := 1) rfl (.cons (t := 5) rfl .nil)); clear s34
        refine wp_region_lit ?_
        refine seq_op s37 rfl rfl (of_decide_eq_true rfl) (ob_move rfl (.tmp rfl)) fun a38 w38 s38 => ?_; clear s37
        refine seq_op s38 rfl rfl (of_decide_eq_true rfl) (ob_add rfl (.tmp rfl) (opd_int rfl)) fun a39 w39 s39 => ?_; clear s38
        refine seq_op s39 rfl rfl (of_decide_eq_true rfl) (ob_assign rfl (.tmp rfl)) fun a40 w40 s40 => ?_; clear s39
        refine wpList_nil ?_
        refine then_normal ?_
        exact hK8 (iadd .i64 y1 (1 : Int)) _ _ h10 (s40.sub (.cons rfl (.cons rfl .nil)))
    · replace h6 := ite_f hc2 h6
      have h11 := h6; clear h6
      refine wp_exit ?_
      refine (then_exit (then_exit (in_here ?_)))
      refine then_normal ?_
      exact hj1 _ _ h11 (s26.sub .nil)

end Go.Proofs.YtpihmcfojdkpoaaDoor
