/- Each function's code comes to what its plain function answers. No condition. -/
import Derived.Test.YtlcddcamnkgeeaaSWalk1
namespace Go.Proofs.Ytlcddcamnkgeeaa
open Go Go.RowKit Go.Proofs.Kit Go.Proofs.Pure
set_option linter.unusedVariables false
set_option linter.unusedSimpArgs false
set_option maxRecDepth 100000
set_option maxHeartbeats 2000000

/- 20 (*cabal/cabalref12.Disk).Write -/
theorem c_cabalref12_Disk_Write (k : Nat) (p1 : cabalref12_Disk) (p2 : Int) (p3 : (List Int)) (r : (Int × cabalref12_Disk)) (h0 : cabalref12_Disk_Write k p1 p2 p3 = some r) (ok : Ok) (w0 : World) (z0 : Value) (z1 : Value) (z2 : Value) (b00 : Nat) (w0_0 : Value) (w0_1 : Value) (w0_2 : Value) (l0 : ∀ q, q ∈ [BF b00 52 (ko_cabalref12_Disk_0_1_2 w0_0 w0_1 w0_2) (⟨[], [], [], p1.Fuse, p1.Dead⟩ : cabalref12_Disk), RowF w0_0 9 kstr p1.Firm, RowF w0_1 3 (kint .i64) p1.At, RowF w0_2 9 kstr p1.Data] → q.holds ok w0) (d0 : ∀ c, c ∈ idsOf [BF b00 52 (ko_cabalref12_Disk_0_1_2 w0_0 w0_1 w0_2) (⟨[], [], [], p1.Fuse, p1.Dead⟩ : cabalref12_Disk), RowF w0_0 9 kstr p1.Firm, RowF w0_1 3 (kint .i64) p1.At, RowF w0_2 9 kstr p1.Data] → ¬ ok c) (nd : (idsOf [BF b00 52 (ko_cabalref12_Disk_0_1_2 w0_0 w0_1 w0_2) (⟨[], [], [], p1.Fuse, p1.Dead⟩ : cabalref12_Disk), RowF w0_0 9 kstr p1.Firm, RowF w0_1 3 (kint .i64) p1.At, RowF w0_2 9 kstr p1.Data]).Nodup) (u0 : (ptrB b00 0).holds ok w0 z0) (u1 : ((kint .i64).V p2).holds ok w0 z1) (u2 : (kstr.V p3).holds ok w0 z2) :
    GivesX Try.prog 20 [z0, z1, z2] ok w0 [BF b00 52 (ko_cabalref12_Disk_0_1_2 w0_0 w0_1 w0_2) (⟨[], [], [], p1.Fuse, p1.Dead⟩ : cabalref12_Disk), RowF w0_0 9 kstr p1.Firm, RowF w0_1 3 (kint .i64) p1.At, RowF w0_2 9 kstr p1.Data] (fun g : Value × Value × Value => resFact [(kint .i64).V r.1]) (fun g : Value × Value × Value => [BF b00 52 (ko_cabalref12_Disk_0_1_2 (g.1) (g.2.1) (g.2.2)) (⟨[], [], [], r.2.Fuse, r.2.Dead⟩ : cabalref12_Disk), RowF (g.1) 9 kstr r.2.Firm, RowF (g.2.1) 3 (kint .i64) r.2.At, RowF (g.2.2) 9 kstr r.2.Data]) := by
  unfold cabalref12_Disk_Write at h0
  refine enterX (N := 43) Try.func20 rfl rfl (of_decide_eq_true rfl) (.cons u0 (.cons u1 (.cons u2 .nil))) nd l0 d0 fun a1 s1 => ?_
  refine wp_seq_k fun K1 hK1 => ?_
  refine wp_region_lit ?_
  refine seq_op s1 rfl rfl (of_decide_eq_true rfl) (ob_assign rfl (opd_int rfl)) fun a2 w2 s2 => ?_; clear s1
  refine wpList_nil ?_
  refine then_normal ?_
  refine hK1 _ _ ?_
  have s3 := s2.sub (.cons (t := 0) rfl (.cons (t := 1) rfl (.cons (t := 2) rfl .nil))); clear s2
  refine wp_seq_k fun K2 hK2 => ?_
  refine wp_seq_k fun K3 hK3 => ?_
  refine wp_region_lit ?_
  refine seq_op s3 rfl rfl (of_decide_eq_true rfl) (ob_move rfl (.tmp rfl)) fun a4 w4 s4 => ?_; clear s3
  refine seq_op s4 rfl rfl (of_decide_eq_true rfl) (ob_move rfl (.tmp rfl)) fun a5 w5 s5 => ?_; clear s4
  obtain ⟨x1, e_x1, h1⟩ := bind_some h0; clear h0
  refine seq_op s5 rfl rfl (of_decide_eq_true rfl) ((ob_lendG (L := [_, _, _, _]) (List.Perm.refl _) (.cons (t := 7) rfl (lendObj (K' := k_cabalref12_Disk) (X' := p1) (.head _) rfl (upo_cabalref12_Disk_0_1_2 rfl (.row (LetAll.row (.tail _ (.head _)))) (.row (LetAll.row (.tail _ (.tail _ (.head _))))) (.row (LetAll.row (.tail _ (.tail _ (.tail _ (.head _)))))))) .nil) (Flat.res1 (Flat.V KFlat.bool)) (fun _ => ob_callD (args := [_, _]) rfl .direct hb27 (fun a w s fs gs hf hg => by obtain rfl := hf.unnil; obtain rfl := hg.unnil; exact c_cabalref12_Disk_Has k _ _ _ e_x1 _ _ _ _ (s.arg (.tmp rfl)) (s.arg (.tmp rfl)))))) fun a6 w6 s6 => ?_; clear s5
  refine seq_op s6 rfl rfl (of_decide_eq_true rfl) (ob_not rfl (.tmp rfl)) fun a7 w7 s7 => ?_; clear s6
  refine seq_op s7 rfl rfl (of_decide_eq_true rfl) (ob_move rfl (.tmp rfl)) fun a8 w8 s8 => ?_; clear s7
  refine seq_opg s8 rfl rfl rfl rfl (of_decide_eq_true rfl) (fun hb => ob_move rfl (.tmp rfl)) fun a9 w9 s9 => ?_; clear s8
  refine seq_opg s9 rfl rfl rfl rfl (of_decide_eq_true rfl) (fun hb => (Ob.uncond (t := 12) hb rfl (ob_lenStr rfl Try.underlying9 (.tmp rfl)))) fun a10 w10 s10 => ?_; clear s9
  refine seq_opg s10 rfl rfl rfl rfl (of_decide_eq_true rfl) (fun hb => (Ob.uncond (t := 13) hb rfl (ob_neq rfl (.tmp rfl) (opd_int rfl)))) fun a11 w11 s11 => ?_; clear s10
  refine seq_op s11 rfl rfl (of_decide_eq_true rfl) (ob_or2 rfl (.tmp rfl) opd_bool (.tmp rfl)) fun a12 w12 s12 => ?_; clear s11
  refine wpList_nil ?_
  refine then_normal ?_
  refine hK3 _ _ ?_
  have s13 := s12.sub (.cons (t := 0) rfl (.cons (t := 1) rfl (.cons (t := 2) rfl (.cons (t := 15) rfl .nil)))); clear s12
  refine cond_split s13 (.tmp rfl) (fun hc1 => ?_) (fun hc1 => ?_)
  · replace h1 := ite_t hc1 h1
    have h2 := h1; clear h1
    refine wp_seq_k fun K4 hK4 => ?_
    refine wp_region_lit ?_
    refine seq_op s13 rfl rfl (of_decide_eq_true rfl) (ob_assign rfl (opd_int rfl)) fun a14 w14 s14 => ?_; clear s13
    refine wpList_nil ?_
    refine then_normal ?_
    refine hK4 _ _ ?_
    have s15 := s14.sub (.cons (t := 6) rfl .nil); clear s14
    refine wp_ret ?_
    obtain rfl := Option.some.inj h2
    exact leaveXD (D := []) ⟨w0_0, w0_1, w0_2⟩ s15 rfl (.inl rfl) rfl (.cons (.tmp rfl) .nil) rfl
  · replace h1 := ite_f hc1 h1
    have h3 := h1; clear h1
    refine wp_skip ?_
    refine then_normal ?_
    refine hK2 _ _ ?_
    have s16 := s13.sub (.cons (t := 0) rfl (.cons (t := 1) rfl (.cons (t := 2) rfl .nil))); clear s13
    refine wp_seq_k fun K5 hK5 => ?_
    refine wp_seq_k fun K6 hK6 => ?_
    refine wp_region_lit ?_
    refine seq_op s16 rfl rfl (of_decide_eq_true rfl) (ob_move rfl (.tmp rfl)) fun a17 w17 s17 => ?_; clear s16
    refine seq_op s17 rfl rfl (of_decide_eq_true rfl) (ob_nilCheck rfl (.tmp rfl)) fun a18 w18 s18 => ?_; clear s17
    refine seq_op s18 rfl rfl (of_decide_eq_true rfl) (ob_fieldAddr (off' := 4) rfl Try.underlying52 rfl sz4 (by decide) (.tmp rfl) rfl) fun a19 w19 s19 => ?_; clear s18
    refine seq_op s19 rfl rfl (of_decide_eq_true rfl) (ob_load rfl tk4 (.tmp rfl) (.head _) (lgo_cabalref12_Disk_0_1_2_Dead (⟨[], [], [], p1.Fuse, p1.Dead⟩ : cabalref12_Disk))) fun a20 w20 s20 => ?_; clear s19
    refine wpList_nil ?_
    refine then_normal ?_
    refine hK6 _ _ ?_
    have s21 := s20.sub (.cons (t := 0) rfl (.cons (t := 1) rfl (.cons (t := 2) rfl (.cons (t := 19) rfl .nil)))); clear s20
    refine cond_split s21 (.tmp rfl) (fun hc2 => ?_) (fun hc2 => ?_)
    · replace h3 := ite_t hc2 h3
      have h4 := h3; clear h3
      refine wp_seq_k fun K7 hK7 => ?_
      refine wp_region_lit ?_
      refine seq_op s21 rfl rfl (of_decide_eq_true rfl) (ob_assign rfl (opd_int rfl)) fun a22 w22 s22 => ?_; clear s21
      refine wpList_nil ?_
      refine then_normal ?_
      refine hK7 _ _ ?_
      have s23 := s22.sub (.cons (t := 6) rfl .nil); clear s22
      refine wp_ret ?_
      obtain rfl := Option.some.inj h4
      exact leaveXD (D := []) ⟨w0_0, w0_1, w0_2⟩ s23 rfl (.inl rfl) rfl (.cons (.tmp rfl) .nil) rfl
    · replace h3 := ite_f hc2 h3
      have h5 := h3; clear h3
      refine wp_skip ?_
      refine then_normal ?_
      refine hK5 _ _ ?_
      have s24 := s21.sub (.cons (t := 0) rfl (.cons (t := 1) rfl (.cons (t := 2) rfl .nil))); clear s21
      refine wp_seq_k fun K8 hK8 => ?_
      refine wp_region_lit ?_
      refine seq_op s24 rfl rfl (of_decide_eq_true rfl) (ob_move rfl (.tmp rfl)) fun a25 w25 s25 => ?_; clear s24
      refine seq_op s25 rfl rfl (of_decide_eq_true rfl) (ob_move rfl (.tmp rfl)) fun a26 w26 s26 => ?_; clear s25
      refine seq_op s26 rfl rfl (of_decide_eq_true rfl) (ob_nilCheck rfl (.tmp rfl)) fun a27 w27 s27 => ?_; clear s26
      refine seq_op s27 rfl rfl (of_decide_eq_true rfl) (ob_fieldAddr (off' := 1) rfl Try.underlying52 rfl sz50 (by decide) (.tmp rfl) rfl) fun a28 w28 s28 => ?_; clear s27
      refine seq_op s28 rfl rfl (of_decide_eq_true rfl) (ob_loadRowV rfl (tkr50 _) (.tmp rfl) (.head _) (lgo_cabalref12_Disk_0_1_2_At (⟨[], [], [], p1.Fuse, p1.Dead⟩ : cabalref12_Disk))) fun a29 w29 s29 => ?_; clear s28
      refine seq_op s29 rfl rfl (of_decide_eq_true rfl) (ob_move rfl (.tmp rfl)) fun a30 w30 s30 => ?_; clear s29
      refine seq_op s30 rfl rfl (of_decide_eq_true rfl) (ob_mkSlice (k := (kint .i64)) (xs := ([p2] : (List Int))) rfl Try.underlying50 zz3 sz3 (Zr.int .i64) (by decide) (by decide) (.cons (.tmp rfl) rfl (LS.arr' (i := 0) (ys := ([p2] : (List Int))) (by simp) (by rfl)) (.nil _))) fun a31 w31 s31 => ?_; clear s30
      obtain ⟨g1, h6⟩ := guard_some h5; clear h5
      refine seq_opx (B' := (fun v1 : Value => [BF b00 52 (ko_cabalref12_Disk_0_1_2 w0_0 w0_1 w0_2) (⟨[], [], [], p1.Fuse, p1.Dead⟩ : cabalref12_Disk), RowF w0_0 9 kstr p1.Firm, RowF v1 3 (kint .i64) (p1.At ++ ([p2] : (List Int))), RowF w0_2 9 kstr p1.Data])) s31 rfl rfl (of_decide_eq_true rfl) (ob_appendL2 (A := [_, _]) rfl Try.underlying50 ap3 (Zr.int .i64) (by decide) (.tmp rfl) (.tmp rfl) rfl g1) fun v1 a32 w32 s32 => ?_; clear s31
      refine seq_op s32 rfl rfl (of_decide_eq_true rfl) (ob_nilCheck rfl (.tmp rfl)) fun a33 w33 s33 => ?_; clear s32
      refine seq_op s33 rfl rfl (of_decide_eq_true rfl) (ob_fieldAddr (off' := 1) rfl Try.underlying52 rfl sz50 (by decide) (.tmp rfl) rfl) fun a34 w34 s34 => ?_; clear s33
      refine seq_opx0 (B' := (fun _ : Unit => [BF b00 52 (ko_cabalref12_Disk_0_1_2 w0_0 v1 w0_2) (⟨[], [], [], p1.Fuse, p1.Dead⟩ : cabalref12_Disk), RowF w0_0 9 kstr p1.Firm, RowF v1 3 (kint .i64) (p1.At ++ ([p2] : (List Int))), RowF w0_2 9 kstr p1.Data])) s34 rfl rfl (ob_storeRowV (A := []) rfl (tkr50 _) (.tmp rfl) (.tmp rfl) (.tail _ (.tail _ (.head _))) rfl (lsk_cabalref12_Disk_0_1_2_to_0_1_2_at1 (⟨[], [], [], p1.Fuse, p1.Dead⟩ : cabalref12_Disk)) rfl) fun _ a35 w35 s35 => ?_; clear s34
      refine wpList_nil ?_
      refine then_normal ?_
      refine hK8 _ _ ?_
      have s36 := s35.sub (.cons (t := 0) rfl (.cons (t := 2) rfl .nil)); clear s35
      refine wp_seq_k fun K9 hK9 => ?_
      refine wp_region_lit ?_
      refine seq_op s36 rfl rfl (of_decide_eq_true rfl) (ob_move rfl (.tmp rfl)) fun a37 w37 s37 => ?_; clear s36
      refine seq_op s37 rfl rfl (of_decide_eq_true rfl) (ob_move rfl (.tmp rfl)) fun a38 w38 s38 => ?_; clear s37
      refine seq_op s38 rfl rfl (of_decide_eq_true rfl) (ob_nilCheck rfl (.tmp rfl)) fun a39 w39 s39 => ?_; clear s38
      refine seq_op s39 rfl rfl (of_decide_eq_true rfl) (ob_fieldAddr (off' := 2) rfl Try.underlying52 rfl sz49 (by decide) (.tmp rfl) rfl) fun a40 w40 s40 => ?_; clear s39
      refine seq_op s40 rfl rfl (of_decide_eq_true rfl) (ob_loadRowV rfl (tkr49 _) (.tmp rfl) (.head _) (lgo_cabalref12_Disk_0_1_2_Data (⟨[], [], [], p1.Fuse, p1.Dead⟩ : cabalref12_Disk))) fun a41 w41 s41 => ?_; clear s40
      refine seq_op s41 rfl rfl (of_decide_eq_true rfl) (ob_move rfl (.tmp rfl)) fun a42 w42 s42 => ?_; clear s41
      refine seq_op s42 rfl rfl (of_decide_eq_true rfl) (ob_mkSlice (k := kstr) (xs := ([p3] : (List (List Int)))) rfl Try.underlying49 zz9 sz9 Zr.str (by decide) (by decide) (.cons (.tmp rfl) rfl (LS.arr' (i := 0) (ys := ([p3] : (List (List Int)))) (by simp) (by rfl)) (.nil _))) fun a43 w43 s43 => ?_; clear s42
      obtain ⟨g2, h7⟩ := guard_some h6; clear h6
      refine seq_opx (B' := (fun v2 : Value => [BF b00 52 (ko_cabalref12_Disk_0_1_2 w0_0 v1 w0_2) (⟨[], [], [], p1.Fuse, p1.Dead⟩ : cabalref12_Disk), RowF w0_0 9 kstr p1.Firm, RowF v1 3 (kint .i64) (p1.At ++ ([p2] : (List Int))), RowF v2 9 kstr (p1.Data ++ ([p3] : (List (List Int))))])) s43 rfl rfl (of_decide_eq_true rfl) (ob_appendL2 (A := [_, _, _]) rfl Try.underlying49 ap9 Zr.str (by decide) (.tmp rfl) (.tmp rfl) rfl g2) fun v2 a44 w44 s44 => ?_; clear s43
      refine seq_op s44 rfl rfl (of_decide_eq_true rfl) (ob_nilCheck rfl (.tmp rfl)) fun a45 w45 s45 => ?_; clear s44
      refine seq_op s45 rfl rfl (of_decide_eq_true rfl) (ob_fieldAddr (off' := 2) rfl Try.underlying52 rfl sz49 (by decide) (.tmp rfl) rfl) fun a46 w46 s46 => ?_; clear s45
      refine seq_opx0 (B' := (fun _ : Unit => [BF b00 52 (ko_cabalref12_Disk_0_1_2 w0_0 v1 v2) (⟨[], [], [], p1.Fuse, p1.Dead⟩ : cabalref12_Disk), RowF w0_0 9 kstr p1.Firm, RowF v1 3 (kint .i64) (p1.At ++ ([p2] : (List Int))), RowF v2 9 kstr (p1.Data ++ ([p3] : (List (List Int))))])) s46 rfl rfl (ob_storeRowV (A := []) rfl (tkr49 _) (.tmp rfl) (.tmp rfl) (.tail _ (.tail _ (.tail _ (.head _)))) rfl (lsk_cabalref12_Disk_0_1_2_to_0_1_2_at2 (⟨[], [], [], p1.Fuse, p1.Dead⟩ : cabalref12_Disk)) rfl) fun _ a47 w47 s47 => ?_; clear s46
      refine wpList_nil ?_
      refine then_normal ?_
      refine hK9 _ _ ?_
      have s48 := s47.sub (.cons (t := 0) rfl .nil); clear s47
      refine wp_seq_k fun K10 hK10 => ?_
      refine wp_seq_k fun K11 hK11 => ?_
      refine wp_region_lit ?_
      refine seq_op s48 rfl rfl (of_decide_eq_true rfl) (ob_move rfl (.tmp rfl)) fun a49 w49 s49 => ?_; clear s48
      obtain ⟨x2, e_x2, h8⟩ := bind_some h7; clear h7
      refine seq_opx (B' := (fun gg : Value × Value × Value => [BF b00 52 (ko_cabalref12_Disk_0_1_2 gg.1 gg.2.1 gg.2.2) (⟨[], [], [], x2.2.Fuse, x2.2.Dead⟩ : cabalref12_Disk), RowF gg.1 9 kstr x2.2.Firm, RowF gg.2.1 3 (kint .i64) x2.2.At, RowF gg.2.2 9 kstr x2.2.Data])) s49 rfl rfl (of_decide_eq_true rfl) (ob_callL (args := [_]) (L := [_, _, _, _]) rfl .direct hb52 (List.Perm.refl _) (fun a w s fs gs hf hg => by obtain rfl := hf.unnil; obtain rfl := hg.unnil; exact c_cabalref12_Disk_burn k _ _ e_x2 _ _ _ _ _ _ _ (ownL s) (disL s) (nodL s) (s.arg (.tmp rfl))) (by exact fun _ => rfl)) fun gg50 a50 w50 s50 => ?_; clear s49
      obtain ⟨v3, v4, v5⟩ := gg50
      refine seq_op s50 rfl rfl (of_decide_eq_true rfl) (ob_not rfl (.tmp rfl)) fun a51 w51 s51 => ?_; clear s50
      refine wpList_nil ?_
      refine then_normal ?_
      refine hK11 _ _ ?_
      have s52 := s51.sub (.cons (t := 42) rfl .nil); clear s51
      refine cond_split s52 (.tmp rfl) (fun hc3 => ?_) (fun hc3 => ?_)
      · replace h8 := ite_t hc3 h8
        have h9 := h8; clear h8
        refine wp_seq_k fun K12 hK12 => ?_
        refine wp_region_lit ?_
        refine seq_op s52 rfl rfl (of_decide_eq_true rfl) (ob_assign rfl (opd_int rfl)) fun a53 w53 s53 => ?_; clear s52
        refine wpList_nil ?_
        refine then_normal ?_
        refine hK12 _ _ ?_
        have s54 := s53.sub (.cons (t := 6) rfl .nil); clear s53
        refine wp_ret ?_
        obtain rfl := Option.some.inj h9
        exact leaveXD (D := []) ⟨v3, v4, v5⟩ s54 rfl (.inl rfl) rfl (.cons (.tmp rfl) .nil) rfl
      · replace h8 := ite_f hc3 h8
        have h10 := h8; clear h8
        refine wp_skip ?_
        refine then_normal ?_
        refine hK10 _ _ ?_
        have s55 := s52.sub .nil; clear s52
        refine wp_seq_k fun K13 hK13 => ?_
        refine wp_region_lit ?_
        refine seq_op s55 rfl rfl (of_decide_eq_true rfl) (ob_assign rfl (opd_int rfl)) fun a56 w56 s56 => ?_; clear s55
        refine wpList_nil ?_
        refine then_normal ?_
        refine hK13 _ _ ?_
        have s57 := s56.sub (.cons (t := 6) rfl .nil); clear s56
        refine wp_ret ?_
        obtain rfl := Option.some.inj h10
        exact leaveXD (D := []) ⟨v3, v4, v5⟩ s57 rfl (.inl rfl) rfl (.cons (.tmp rfl) .nil) rfl

/- 53 (*cabal/cabalref12.Disk).settle -/
theorem c_cabalref12_Disk_settle (k : Nat) (p1 : cabalref12_Disk) (p2 : Int) (p3 : Int) (r : cabalref12_Disk) (h0 : cabalref12_Disk_settle k p1 p2 p3 = some r) (ok : Ok) (w0 : World) (z0 : Value) (z1 : Value) (z2 : Value) (b00 : Nat) (w0_0 : Value) (w0_1 : Value) (w0_2 : Value) (l0 : ∀ q, q ∈ [BF b00 52 (ko_cabalref12_Disk_0_1_2 w0_0 w0_1 w0_2) (⟨[], [], [], p1.Fuse, p1.Dead⟩ : cabalref12_Disk), RowF w0_0 9 kstr p1.Firm, RowF w0_1 3 (kint .i64) p1.At, RowF w0_2 9 kstr p1.Data] → q.holds ok w0) (d0 : ∀ c, c ∈ idsOf [BF b00 52 (ko_cabalref12_Disk_0_1_2 w0_0 w0_1 w0_2) (⟨[], [], [], p1.Fuse, p1.Dead⟩ : cabalref12_Disk), RowF w0_0 9 kstr p1.Firm, RowF w0_1 3 (kint .i64) p1.At, RowF w0_2 9 kstr p1.Data] → ¬ ok c) (nd : (idsOf [BF b00 52 (ko_cabalref12_Disk_0_1_2 w0_0 w0_1 w0_2) (⟨[], [], [], p1.Fuse, p1.Dead⟩ : cabalref12_Disk), RowF w0_0 9 kstr p1.Firm, RowF w0_1 3 (kint .i64) p1.At, RowF w0_2 9 kstr p1.Data]).Nodup) (u0 : (ptrB b00 0).holds ok w0 z0) (u1 : ((kint .i64).V p2).holds ok w0 z1) (u2 : ((kint .i64).V p3).holds ok w0 z2) :
    GivesX Try.prog 53 [z0, z1, z2] ok w0 [BF b00 52 (ko_cabalref12_Disk_0_1_2 w0_0 w0_1 w0_2) (⟨[], [], [], p1.Fuse, p1.Dead⟩ : cabalref12_Disk), RowF w0_0 9 kstr p1.Firm, RowF w0_1 3 (kint .i64) p1.At, RowF w0_2 9 kstr p1.Data] (fun g : Value × Value × Value => resFact []) (fun g : Value × Value × Value => [BF b00 52 (ko_cabalref12_Disk_0_1_2 (g.1) (g.2.1) (g.2.2)) (⟨[], [], [], r.Fuse, r.Dead⟩ : cabalref12_Disk), RowF (g.1) 9 kstr r.Firm, RowF (g.2.1) 3 (kint .i64) r.At, RowF (g.2.2) 9 kstr r.Data]) := by
  unfold cabalref12_Disk_settle at h0
  refine enterX (N := 39) Try.func53 rfl rfl (of_decide_eq_true rfl) (.cons u0 (.cons u1 (.cons u2 .nil))) nd l0 d0 fun a1 s1 => ?_
  refine wp_seq_k fun K1 hK1 => ?_
  refine wp_region_lit ?_
  refine seq_op s1 rfl rfl (of_decide_eq_true rfl) (ob_move rfl (.tmp rfl)) fun a2 w2 s2 => ?_; clear s1
  refine seq_op s2 rfl rfl (of_decide_eq_true rfl) (ob_nilCheck rfl (.tmp rfl)) fun a3 w3 s3 => ?_; clear s2
  refine seq_op s3 rfl rfl (of_decide_eq_true rfl) (ob_fieldAddr (off' := 1) rfl Try.underlying52 rfl sz50 (by decide) (.tmp rfl) rfl) fun a4 w4 s4 => ?_; clear s3
  refine seq_op s4 rfl rfl (of_decide_eq_true rfl) (ob_loadRowV rfl (tkr50 _) (.tmp rfl) (.head _) (lgo_cabalref12_Disk_0_1_2_At (⟨[], [], [], p1.Fuse, p1.Dead⟩ : cabalref12_Disk))) fun a5 w5 s5 => ?_; clear s4
  refine seq_op s5 rfl rfl (of_decide_eq_true rfl) (ob_move rfl (.tmp rfl)) fun a6 w6 s6 => ?_; clear s5
  obtain ⟨g1, h1⟩ := guard_some h0; clear h0
  refine seq_op s6 rfl rfl (of_decide_eq_true rfl) (ob_rowAt rfl Try.underlying50 sz3 (.tmp rfl) (.tail _ (.tail _ (.head _))) (.tmp rfl) g1) fun a7 w7 s7 => ?_; clear s6
  obtain ⟨x1, e_x1, h2⟩ := bind_some h1; clear h1
  refine seq_op s7 rfl rfl (of_decide_eq_true rfl) (ob_rowLoad rfl tk3 (.tmp rfl) (.tail _ (.tail _ (.head _))) (LG.arrA e_x1)) fun a8 w8 s8 => ?_; clear s7
  refine seq_op s8 rfl rfl (of_decide_eq_true rfl) (ob_assign rfl (.tmp rfl)) fun a9 w9 s9 => ?_; clear s8
  refine wpList_nil ?_
  refine then_normal ?_
  refine hK1 _ _ ?_
  have s10 := s9.sub (.cons (t := 0) rfl (.cons (t := 1) rfl (.cons (t := 2) rfl (.cons (t := 6) rfl .nil)))); clear s9
  obtain ⟨g2, h3⟩ := guard_some h2; clear h2
  obtain ⟨x2, e_x2, h4⟩ := bind_some h3; clear h3
  obtain ⟨x3, e_x3, h5⟩ := bind_some h4; clear h4
  obtain ⟨g3, h6⟩ := guard_some h5; clear h5
  obtain ⟨x4, e_x4, h7⟩ := bind_some h6; clear h6
  obtain ⟨x5, e_x5, h8⟩ := bind_some h7; clear h7
  obtain ⟨g4, h9⟩ := guard_some h8; clear h8
  refine wp_goes (Fs := [(ptrB b00 0), (ptrB b00 0), (ptrB b00 0), (is w0_0), ((kint .i64).V x1), (ptrB b00 0), (ptrB b00 0), (ptrB b00 2), (is w0_2), ((kint .i64).V p2), (ptrR w0_2 (p2.toNat * 1)), (kstr.V x2), ((kint .i64).V p3), (kstr.V x3), (ptrB b00 0), (ptrB b00 0), (ptrB b00 0), (is w0_0), ((kint .i64).V x1), (ptrR w0_0 (x1.toNat * 1)), (kstr.V x4), ((kint .i64).V p3), (kstr.V x5), (kstr.V (x3 ++ x5))]) (bits := [0, 1, 3, 7, 0, 0, 32, 96, 224, 0, 992, 2016, 0, 8160, 0, 16384, 49152, 114688, 0, 507904, 1032192, 0, 4177920, 8388576, 16777215, 33554431]) (m := 24) (todo := 0) mx s10 ?_; clear s10
  refine goes_last (by kernel_rfl) rfl (opsS_cons (.plain _ (Av.old (t := 0) rfl rfl Av.nil) rfl rfl (ob_move rfl (.tmp rfl))) (opsS_cons (.plain _ (Av.new (j := 0) rfl rfl rfl Av.nil) rfl rfl (ob_nilCheck rfl (.tmp rfl))) (opsS_cons (.plain _ (Av.new (j := 1) rfl rfl rfl Av.nil) rfl rfl (ob_fieldAddr (off' := 0) rfl Try.underlying52 rfl sz49 (by decide) (.tmp rfl) rfl)) (opsS_cons (.plain _ (Av.new (j := 2) rfl rfl rfl Av.nil) rfl rfl (ob_loadRowV rfl (tkr49 _) (.tmp rfl) (.head _) (lgo_cabalref12_Disk_0_1_2_Firm (⟨[], [], [], p1.Fuse, p1.Dead⟩ : cabalref12_Disk)))) (opsS_cons (.plain _ (Av.old (t := 6) rfl rfl Av.nil) rfl rfl (ob_move rfl (.tmp rfl))) (opsS_cons (.plain _ (Av.old (t := 0) rfl rfl Av.nil) rfl rfl (ob_move rfl (.tmp rfl))) (opsS_cons (.plain _ (Av.new (j := 5) rfl rfl rfl Av.nil) rfl rfl (ob_nilCheck rfl (.tmp rfl))) (opsS_cons (.plain _ (Av.new (j := 6) rfl rfl rfl Av.nil) rfl rfl (ob_fieldAddr (off' := 2) rfl Try.underlying52 rfl sz49 (by decide) (.tmp rfl) rfl)) (opsS_cons (.plain _ (Av.new (j := 7) rfl rfl rfl Av.nil) rfl rfl (ob_loadRowV rfl (tkr49 _) (.tmp rfl) (.head _) (lgo_cabalref12_Disk_0_1_2_Data (⟨[], [], [], p1.Fuse, p1.Dead⟩ : cabalref12_Disk)))) (opsS_cons (.plain _ (Av.old (t := 1) rfl rfl Av.nil) rfl rfl (ob_move rfl (.tmp rfl))) (opsS_cons (.plain _ (Av.new (j := 8) rfl rfl rfl (Av.new (j := 9) rfl rfl rfl Av.nil)) rfl rfl (ob_rowAt rfl Try.underlying49 sz9 (.tmp rfl) (.tail _ (.tail _ (.tail _ (.head _)))) (.tmp rfl) g2)) (opsS_cons (.plain _ (Av.new (j := 10) rfl rfl rfl Av.nil) rfl rfl (ob_rowLoad rfl tk9 (.tmp rfl) (.tail _ (.tail _ (.tail _ (.head _)))) (LG.arrA e_x2))) (opsS_cons (.plain _ (Av.old (t := 2) rfl rfl Av.nil) rfl rfl (ob_move rfl (.tmp rfl))) (opsS_cons (.plain _ (Av.new (j := 11) rfl rfl rfl (Av.new (j := 12) rfl rfl rfl Av.nil)) rfl rfl (ob_cutStr rfl Try.underlying9 (.tmp rfl) .none (.some (.tmp rfl)) e_x3)) (opsS_cons (.plain _ (Av.old (t := 0) rfl rfl Av.nil) rfl rfl (ob_move rfl (.tmp rfl))) (opsS_cons (.plain _ (Av.new (j := 14) rfl rfl rfl Av.nil) rfl rfl (ob_nilCheck rfl (.tmp rfl))) (opsS_cons (.plain _ (Av.new (j := 15) rfl rfl rfl Av.nil) rfl rfl (ob_fieldAddr (off' := 0) rfl Try.underlying52 rfl sz49 (by decide) (.tmp rfl) rfl)) (opsS_cons (.plain _ (Av.new (j := 16) rfl rfl rfl Av.nil) rfl rfl (ob_loadRowV rfl (tkr49 _) (.tmp rfl) (.head _) (lgo_cabalref12_Disk_0_1_2_Firm (⟨[], [], [], p1.Fuse, p1.Dead⟩ : cabalref12_Disk)))) (opsS_cons (.plain _ (Av.old (t := 6) rfl rfl Av.nil) rfl rfl (ob_move rfl (.tmp rfl))) (opsS_cons (.plain _ (Av.new (j := 17) rfl rfl rfl (Av.new (j := 18) rfl rfl rfl Av.nil)) rfl rfl (ob_rowAt rfl Try.underlying49 sz9 (.tmp rfl) (.tail _ (.head _)) (.tmp rfl) g3)) (opsS_cons (.plain _ (Av.new (j := 19) rfl rfl rfl Av.nil) rfl rfl (ob_rowLoad rfl tk9 (.tmp rfl) (.tail _ (.head _)) (LG.arrA e_x4))) (opsS_cons (.plain _ (Av.old (t := 2) rfl rfl Av.nil) rfl rfl (ob_move rfl (.tmp rfl))) (opsS_cons (.plain _ (Av.new (j := 20) rfl rfl rfl (Av.new (j := 21) rfl rfl rfl Av.nil)) rfl rfl (ob_cutStr rfl Try.underlying9 (.tmp rfl) (.some (.tmp rfl)) .none e_x5)) (opsS_cons (.plain _ (Av.new (j := 13) rfl rfl rfl (Av.new (j := 22) rfl rfl rfl Av.nil)) rfl rfl (ob_cat rfl (.tmp rfl) (.tmp rfl) g4)) opsS_nil)))))))))))))))))))))))) (out_new (i := 3) (by decide) rfl rfl (out_new (i := 4) (by decide) rfl rfl (out_new (i := 23) (by decide) rfl rfl out_nil))) fun a11 w11 s11 => ?_
  obtain ⟨g5, h10⟩ := guard_some h9; clear h9
  refine seq_op s11 rfl rfl (of_decide_eq_true rfl) (ob_rowAt rfl Try.underlying49 sz9 (.tmp rfl) (.tail _ (.head _)) (.tmp rfl) g5) fun a12 w12 s12 => ?_; clear s11
  obtain ⟨x6, e_x6, h11⟩ := bind_some h10; clear h10
  refine seq_opx0 (B' := (fun _ : Unit => [BF b00 52 (ko_cabalref12_Disk_0_1_2 w0_0 w0_1 w0_2) (⟨[], [], [], p1.Fuse, p1.Dead⟩ : cabalref12_Disk), RowF w0_0 9 kstr x6, RowF w0_1 3 (kint .i64) p1.At, RowF w0_2 9 kstr p1.Data])) s12 rfl rfl (ob_rowStore (A := [_]) rfl tk9 (.tmp rfl) (.tmp rfl) rfl (LS.arrS e_x6) rfl) fun _ a13 w13 s13 => ?_; clear s12
  refine wpList_nil ?_
  obtain rfl := Option.some.inj h11
  exact leaveXD (D := []) ⟨w0_0, w0_1, w0_2⟩ s13 rfl (.inr rfl) rfl .nil rfl

/- 54 (*cabal/cabalref12.Disk).clear -/
theorem c_cabalref12_Disk_clear (k : Nat) (p1 : cabalref12_Disk) (r : cabalref12_Disk) (h0 : cabalref12_Disk_clear k p1 = some r) (ok : Ok) (w0 : World) (z0 : Value) (b00 : Nat) (w0_0 : Value) (w0_1 : Value) (w0_2 : Value) (l0 : ∀ q, q ∈ [BF b00 52 (ko_cabalref12_Disk_0_1_2 w0_0 w0_1 w0_2) (⟨[], [], [], p1.Fuse, p1.Dead⟩ : cabalref12_Disk), RowF w0_0 9 kstr p1.Firm, RowF w0_1 3 (kint .i64) p1.At, RowF w0_2 9 kstr p1.Data] → q.holds ok w0) (d0 : ∀ c, c ∈ idsOf [BF b00 52 (ko_cabalref12_Disk_0_1_2 w0_0 w0_1 w0_2) (⟨[], [], [], p1.Fuse, p1.Dead⟩ : cabalref12_Disk), RowF w0_0 9 kstr p1.Firm, RowF w0_1 3 (kint .i64) p1.At, RowF w0_2 9 kstr p1.Data] → ¬ ok c) (nd : (idsOf [BF b00 52 (ko_cabalref12_Disk_0_1_2 w0_0 w0_1 w0_2) (⟨[], [], [], p1.Fuse, p1.Dead⟩ : cabalref12_Disk), RowF w0_0 9 kstr p1.Firm, RowF w0_1 3 (kint .i64) p1.At, RowF w0_2 9 kstr p1.Data]).Nodup) (u0 : (ptrB b00 0).holds ok w0 z0) :
    GivesX Try.prog 54 [z0] ok w0 [BF b00 52 (ko_cabalref12_Disk_0_1_2 w0_0 w0_1 w0_2) (⟨[], [], [], p1.Fuse, p1.Dead⟩ : cabalref12_Disk), RowF w0_0 9 kstr p1.Firm, RowF w0_1 3 (kint .i64) p1.At, RowF w0_2 9 kstr p1.Data] (fun g : Value × Value × Value => resFact []) (fun g : Value × Value × Value => [BF b00 52 (ko_cabalref12_Disk_0_1_2 (g.1) (g.2.1) (g.2.2)) (⟨[], [], [], r.Fuse, r.Dead⟩ : cabalref12_Disk), RowF (g.1) 9 kstr r.Firm, RowF (g.2.1) 3 (kint .i64) r.At, RowF (g.2.2) 9 kstr r.Data]) := by
  unfold cabalref12_Disk_clear at h0
  refine enterX (N := 8) Try.func54 rfl rfl (of_decide_eq_true rfl) (.cons u0 .nil) nd l0 d0 fun a1 s1 => ?_
  refine wp_seq_k fun K1 hK1 => ?_
  refine wp_region_lit ?_
  refine seq_op s1 rfl rfl (of_decide_eq_true rfl) (ob_move rfl (.tmp rfl)) fun a2 w2 s2 => ?_; clear s1
  refine seq_op s2 rfl rfl (of_decide_eq_true rfl) (ob_nilCheck rfl (.tmp rfl)) fun a3 w3 s3 => ?_; clear s2
  refine seq_op s3 rfl rfl (of_decide_eq_true rfl) (ob_fieldAddr (off' := 1) rfl Try.underlying52 rfl sz50 (by decide) (.tmp rfl) rfl) fun a4 w4 s4 => ?_; clear s3
  have s5 := St.adopt s4 (G := RowF (nilRow 8) 3 (kint .i64) []) rfl (rowNilN _ _ _ _ _); clear s4
  refine seq_opx0 (B' := (fun _ : Unit => [RowF (nilRow 8) 3 (kint .i64) ([] : (List Int)), BF b00 52 (ko_cabalref12_Disk_0_1_2 w0_0 (nilRow 8) w0_2) (⟨[], [], [], p1.Fuse, p1.Dead⟩ : cabalref12_Disk), RowF w0_0 9 kstr p1.Firm, RowF w0_1 3 (kint .i64) p1.At, RowF w0_2 9 kstr p1.Data])) s5 rfl rfl (ob_storeRowV (A := [_]) rfl (tkr50 _) (.tmp rfl) opd_is (.head _) rfl (lsk_cabalref12_Disk_0_1_2_to_0_1_2_at1 (⟨[], [], [], p1.Fuse, p1.Dead⟩ : cabalref12_Disk)) rfl) fun _ a6 w6 s6 => ?_; clear s5
  refine wpList_nil ?_
  refine then_normal ?_
  refine hK1 _ _ ?_
  have s7 := s6.sub (.cons (t := 0) rfl .nil); clear s6
  have s8 := St.drop (A := [_, _, _]) s7; clear s7
  refine wp_region_lit ?_
  refine seq_op s8 rfl rfl (of_decide_eq_true rfl) (ob_move rfl (.tmp rfl)) fun a9 w9 s9 => ?_; clear s8
  refine seq_op s9 rfl rfl (of_decide_eq_true rfl) (ob_nilCheck rfl (.tmp rfl)) fun a10 w10 s10 => ?_; clear s9
  refine seq_op s10 rfl rfl (of_decide_eq_true rfl) (ob_fieldAddr (off' := 2) rfl Try.underlying52 rfl sz49 (by decide) (.tmp rfl) rfl) fun a11 w11 s11 => ?_; clear s10
  have s12 := St.adopt s11 (G := RowF (nilRow 9) 9 kstr []) rfl (rowNilN _ _ _ _ _); clear s11
  refine seq_opx0 (B' := (fun _ : Unit => [RowF (nilRow 9) 9 kstr ([] : (List (List Int))), RowF (nilRow 8) 3 (kint .i64) ([] : (List Int)), BF b00 52 (ko_cabalref12_Disk_0_1_2 w0_0 (nilRow 8) (nilRow 9)) (⟨[], [], [], p1.Fuse, p1.Dead⟩ : cabalref12_Disk), RowF w0_0 9 kstr p1.Firm, RowF w0_2 9 kstr p1.Data])) s12 rfl rfl (ob_storeRowV (A := [_, _]) rfl (tkr49 _) (.tmp rfl) opd_is (.head _) rfl (lsk_cabalref12_Disk_0_1_2_to_0_1_2_at2 (⟨[], [], [], p1.Fuse, p1.Dead⟩ : cabalref12_Disk)) rfl) fun _ a13 w13 s13 => ?_; clear s12
  refine wpList_nil ?_
  have s14 := s13.perm (toFront [_, _] (toFront [_, _] (toFront [_] (toFront [] (List.Perm.refl _))))); clear s13
  obtain rfl := Option.some.inj h0
  exact leaveXD (D := [_]) ⟨w0_0, (nilRow 8), (nilRow 9)⟩ s14 rfl (.inr rfl) rfl .nil rfl

/- 21 (*cabal/cabalref12.Disk).Sync -/
theorem c_cabalref12_Disk_Sync (k : Nat) (p1 : cabalref12_Disk) (r : (Int × cabalref12_Disk)) (h0 : cabalref12_Disk_Sync k p1 = some r) (ok : Ok) (w0 : World) (z0 : Value) (b00 : Nat) (w0_0 : Value) (w0_1 : Value) (w0_2 : Value) (l0 : ∀ q, q ∈ [BF b00 52 (ko_cabalref12_Disk_0_1_2 w0_0 w0_1 w0_2) (⟨[], [], [], p1.Fuse, p1.Dead⟩ : cabalref12_Disk), RowF w0_0 9 kstr p1.Firm, RowF w0_1 3 (kint .i64) p1.At, RowF w0_2 9 kstr p1.Data] → q.holds ok w0) (d0 : ∀ c, c ∈ idsOf [BF b00 52 (ko_cabalref12_Disk_0_1_2 w0_0 w0_1 w0_2) (⟨[], [], [], p1.Fuse, p1.Dead⟩ : cabalref12_Disk), RowF w0_0 9 kstr p1.Firm, RowF w0_1 3 (kint .i64) p1.At, RowF w0_2 9 kstr p1.Data] → ¬ ok c) (nd : (idsOf [BF b00 52 (ko_cabalref12_Disk_0_1_2 w0_0 w0_1 w0_2) (⟨[], [], [], p1.Fuse, p1.Dead⟩ : cabalref12_Disk), RowF w0_0 9 kstr p1.Firm, RowF w0_1 3 (kint .i64) p1.At, RowF w0_2 9 kstr p1.Data]).Nodup) (u0 : (ptrB b00 0).holds ok w0 z0) :
    GivesX Try.prog 21 [z0] ok w0 [BF b00 52 (ko_cabalref12_Disk_0_1_2 w0_0 w0_1 w0_2) (⟨[], [], [], p1.Fuse, p1.Dead⟩ : cabalref12_Disk), RowF w0_0 9 kstr p1.Firm, RowF w0_1 3 (kint .i64) p1.At, RowF w0_2 9 kstr p1.Data] (fun g : Value × Value × Value => resFact [(kint .i64).V r.1]) (fun g : Value × Value × Value => [BF b00 52 (ko_cabalref12_Disk_0_1_2 (g.1) (g.2.1) (g.2.2)) (⟨[], [], [], r.2.Fuse, r.2.Dead⟩ : cabalref12_Disk), RowF (g.1) 9 kstr r.2.Firm, RowF (g.2.1) 3 (kint .i64) r.2.At, RowF (g.2.2) 9 kstr r.2.Data]) := by
  unfold cabalref12_Disk_Sync at h0
  refine enterX (N := 27) Try.func21 rfl rfl (of_decide_eq_true rfl) (.cons u0 .nil) nd l0 d0 fun a1 s1 => ?_
  refine wp_seq_k fun K1 hK1 => ?_
  refine wp_region_lit ?_
  refine seq_op s1 rfl rfl (of_decide_eq_true rfl) (ob_assign rfl (opd_int rfl)) fun a2 w2 s2 => ?_; clear s1
  refine wpList_nil ?_
  refine then_normal ?_
  refine hK1 _ _ ?_
  have s3 := s2.sub (.cons (t := 0) rfl .nil); clear s2
  refine wp_seq_k fun K2 hK2 => ?_
  refine wp_seq_k fun K3 hK3 => ?_
  refine wp_region_lit ?_
  refine seq_op s3 rfl rfl (of_decide_eq_true rfl) (ob_move rfl (.tmp rfl)) fun a4 w4 s4 => ?_; clear s3
  refine seq_op s4 rfl rfl (of_decide_eq_true rfl) (ob_nilCheck rfl (.tmp rfl)) fun a5 w5 s5 => ?_; clear s4
  refine seq_op s5 rfl rfl (of_decide_eq_true rfl) (ob_fieldAddr (off' := 4) rfl Try.underlying52 rfl sz4 (by decide) (.tmp rfl) rfl) fun a6 w6 s6 => ?_; clear s5
  refine seq_op s6 rfl rfl (of_decide_eq_true rfl) (ob_load rfl tk4 (.tmp rfl) (.head _) (lgo_cabalref12_Disk_0_1_2_Dead (⟨[], [], [], p1.Fuse, p1.Dead⟩ : cabalref12_Disk))) fun a7 w7 s7 => ?_; clear s6
  refine seq_op s7 rfl rfl (of_decide_eq_true rfl) (ob_move rfl (.tmp rfl)) fun a8 w8 s8 => ?_; clear s7
  refine seq_opg s8 rfl rfl rfl rfl (of_decide_eq_true rfl) (fun hb => ob_move rfl (.tmp rfl)) fun a9 w9 s9 => ?_; clear s8
  obtain ⟨x1, e_x1, h1⟩ := bind_some h0; clear h0
  refine seq_opxg (B1 := (fun gg : Value × Value × Value => [BF b00 52 (ko_cabalref12_Disk_0_1_2 gg.1 gg.2.1 gg.2.2) (⟨[], [], [], x1.2.Fuse, x1.2.Dead⟩ : cabalref12_Disk), RowF gg.1 9 kstr x1.2.Firm, RowF gg.2.1 3 (kint .i64) x1.2.At, RowF gg.2.2 9 kstr x1.2.Data])) s9 rfl rfl rfl rfl (of_decide_eq_true rfl) (fun hb => (ObX.uncond (t := 9) hb rfl (ob_callL (args := [_]) (L := [_, _, _, _]) rfl .direct hb52 (List.Perm.refl _) (fun a w s fs gs hf hg => by obtain rfl := hf.unnil; obtain rfl := hg.unnil; exact c_cabalref12_Disk_burn k _ _ (ite_t hb e_x1) _ _ _ _ _ _ _ (ownL s) (disL s) (nodL s) (s.arg (.tmp rfl))) (by exact fun _ => rfl)))) (fun hb0 => by obtain rfl := Option.some.inj (ite_f hb0 e_x1); exact ⟨⟨w0_0, w0_1, w0_2⟩, rfl⟩) fun gg10 a10 w10 s10 => ?_; clear s9
  obtain ⟨v1, v2, v3⟩ := gg10
  refine seq_opg s10 rfl rfl rfl rfl (of_decide_eq_true rfl) (fun hb => (Ob.uncond (t := 10) hb rfl (ob_not rfl (.tmp rfl)))) fun a11 w11 s11 => ?_; clear s10
  refine seq_op s11 rfl rfl (of_decide_eq_true rfl) (ob_or2 rfl (.tmp rfl) opd_bool (.tmp rfl)) fun a12 w12 s12 => ?_; clear s11
  refine wpList_nil ?_
  refine then_normal ?_
  refine hK3 _ _ ?_
  have s13 := s12.sub (.cons (t := 0) rfl (.cons (t := 12) rfl .nil)); clear s12
  refine cond_split s13 (.tmp rfl) (fun hc1 => ?_) (fun hc1 => ?_)
  · replace h1 := ite_t hc1 h1
    have h2 := h1; clear h1
    refine wp_seq_k fun K4 hK4 => ?_
    refine wp_region_lit ?_
    refine seq_op s13 rfl rfl (of_decide_eq_true rfl) (ob_assign rfl (opd_int rfl)) fun a14 w14 s14 => ?_; clear s13
    refine wpList_nil ?_
    refine then_normal ?_
    refine hK4 _ _ ?_
    have s15 := s14.sub (.cons (t := 2) rfl .nil); clear s14
    refine wp_ret ?_
    obtain rfl := Option.some.inj h2
    exact leaveXD (D := []) ⟨v1, v2, v3⟩ s15 rfl (.inl rfl) rfl (.cons (.tmp rfl) .nil) rfl
  · replace h1 := ite_f hc1 h1
    have h3 := h1; clear h1
    refine wp_skip ?_
    refine then_normal ?_
    refine hK2 _ _ ?_
    have s16 := s13.sub (.cons (t := 0) rfl .nil); clear s13
    refine wp_seq_k fun K5 hK5 => ?_
    refine wp_seq_k fun K6 hK6 => ?_
    refine wp_region_lit ?_
    refine seq_op s16 rfl rfl (of_decide_eq_true rfl) (ob_assign rfl (opd_int rfl)) fun a17 w17 s17 => ?_; clear s16
    refine wpList_nil ?_
    refine then_normal ?_
    refine hK6 _ _ ?_
    have s18 := s17.sub (.cons (t := 0) rfl (.cons (t := 3) rfl .nil)); clear s17
    have hj1 : ∀ (y1 : Int) (y2 : Bool) (y3 : (List (List Int))) (y4 : (List Int)) (y5 : (List (List Int))) (v4 : Value) (v5 : Value) (v6 : Value) (a : Act) (w : World), (cabalref12_Disk_Sync.j1 k) y1 y2 y3 y4 y5 = some r → St ⟨27, w0, ok, (idsOf [BF b00 52 (ko_cabalref12_Disk_0_1_2 w0_0 w0_1 w0_2) (⟨[], [], [], p1.Fuse, p1.Dead⟩ : cabalref12_Disk), RowF w0_0 9 kstr p1.Firm, RowF w0_1 3 (kint .i64) p1.At, RowF w0_2 9 kstr p1.Data])⟩ [BF b00 52 (ko_cabalref12_Disk_0_1_2 v4 v5 v6) (⟨[], [], [], y1, y2⟩ : cabalref12_Disk), RowF v4 9 kstr y3, RowF v5 3 (kint .i64) y4, RowF v6 9 kstr y5] [(0, (ptrB b00 0))] a w → K5 a w := by
      intro y1 y2 y3 y4 y5 v4 v5 v6 a19 w19 h4 s19
      unfold cabalref12_Disk_Sync.j1 at h4
      refine hK5 _ _ ?_
      refine wp_seq_k fun K7 hK7 => ?_
      refine wp_region_lit ?_
      refine seq_op s19 rfl rfl (of_decide_eq_true rfl) (ob_move rfl (.tmp rfl)) fun a20 w20 s20 => ?_; clear s19
      obtain ⟨x2, e_x2, h5⟩ := bind_some h4; clear h4
      refine seq_opx (B' := (fun gg : Value × Value × Value => [BF b00 52 (ko_cabalref12_Disk_0_1_2 gg.1 gg.2.1 gg.2.2) (⟨[], [], [], x2.Fuse, x2.Dead⟩ : cabalref12_Disk), RowF gg.1 9 kstr x2.Firm, RowF gg.2.1 3 (kint .i64) x2.At, RowF gg.2.2 9 kstr x2.Data])) s20 rfl rfl (of_decide_eq_true rfl) (ob_callL (args := [_]) (L := [_, _, _, _]) rfl .direct hb54 (List.Perm.refl _) (fun a w s fs gs hf hg => by obtain rfl := hf.unnil; obtain rfl := hg.unnil; exact c_cabalref12_Disk_clear k _ _ e_x2 _ _ _ _ _ _ _ (ownL s) (disL s) (nodL s) (s.arg (.tmp rfl))) (by exact fun _ => rfl)) fun gg21 a21 w21 s21 => ?_; clear s20
      obtain ⟨v7, v8, v9⟩ := gg21
      refine wpList_nil ?_
      refine then_normal ?_
      refine hK7 _ _ ?_
      have s22 := s21.sub .nil; clear s21
      refine wp_seq_k fun K8 hK8 => ?_
      refine wp_region_lit ?_
      refine seq_op s22 rfl rfl (of_decide_eq_true rfl) (ob_assign rfl (opd_int rfl)) fun a23 w23 s23 => ?_; clear s22
      refine wpList_nil ?_
      refine then_normal ?_
      refine hK8 _ _ ?_
      have s24 := s23.sub (.cons (t := 2) rfl .nil); clear s23
      refine wp_ret ?_
      obtain rfl := Option.some.inj h5
      exact leaveXD (D := []) ⟨v7, v8, v9⟩ s24 rfl (.inl rfl) rfl (.cons (.tmp rfl) .nil) rfl
    refine wp_block ?_
    refine wp_loop_fuel (fun m (q : Int × Int × Bool × (List (List Int)) × (List Int) × (List (List Int))) => cabalref12_Disk_Sync.l1 k m q.1 q.2.1 q.2.2.1 q.2.2.2.1 q.2.2.2.2.1 q.2.2.2.2.2) r (fun _ => rfl) (fun q a w => ∃ (v10 : Value) (v11 : Value) (v12 : Value), St ⟨27, w0, ok, (idsOf [BF b00 52 (ko_cabalref12_Disk_0_1_2 w0_0 w0_1 w0_2) (⟨[], [], [], p1.Fuse, p1.Dead⟩ : cabalref12_Disk), RowF w0_0 9 kstr p1.Firm, RowF w0_1 3 (kint .i64) p1.At, RowF w0_2 9 kstr p1.Data])⟩ [BF b00 52 (ko_cabalref12_Disk_0_1_2 v10 v11 v12) (⟨[], [], [], q.2.1, q.2.2.1⟩ : cabalref12_Disk), RowF v10 9 kstr q.2.2.2.1, RowF v11 3 (kint .i64) q.2.2.2.2.1, RowF v12 9 kstr q.2.2.2.2.2] [(0, (ptrB b00 0)), (3, ((kint .i64).V q.1))] a w) ?_ k ((0 : Int), x1.2.Fuse, x1.2.Dead, x1.2.Firm, x1.2.At, x1.2.Data) _ _ h3 ⟨v1, v2, v3, (s18.sub (.cons rfl (.cons rfl .nil)))⟩
    rintro n1 ⟨y6, y7, y8, y9, y10, y11⟩ a25 w25 h6 ⟨v10, v11, v12, s25⟩ K9 hK9
    replace h6 : cabalref12_Disk_Sync.l1 k (n1 + 1) y6 y7 y8 y9 y10 y11 = some r := h6; rw [cabalref12_Disk_Sync.l1] at h6
    have h7 := h6; clear h6
    refine wp_seq_k fun K10 hK10 => ?_
    refine wp_seq_k fun K11 hK11 => ?_
    refine wp_region_lit ?_
    refine seq_op s25 rfl rfl (of_decide_eq_true rfl) (ob_move rfl (.tmp rfl)) fun a26 w26 s26 => ?_; clear s25
    refine seq_op s26 rfl rfl (of_decide_eq_true rfl) (ob_move rfl (.tmp rfl)) fun a27 w27 s27 => ?_; clear s26
    refine seq_op s27 rfl rfl (of_decide_eq_true rfl) (ob_nilCheck rfl (.tmp rfl)) fun a28 w28 s28 => ?_; clear s27
    refine seq_op s28 rfl rfl (of_decide_eq_true rfl) (ob_fieldAddr (off' := 1) rfl Try.underlying52 rfl sz50 (by decide) (.tmp rfl) rfl) fun a29 w29 s29 => ?_; clear s28
    refine seq_op s29 rfl rfl (of_decide_eq_true rfl) (ob_loadRowV rfl (tkr50 _) (.tmp rfl) (.head _) (lgo_cabalref12_Disk_0_1_2_At (⟨[], [], [], y7, y8⟩ : cabalref12_Disk))) fun a30 w30 s30 => ?_; clear s29
    refine seq_op s30 rfl rfl (of_decide_eq_true rfl) (ob_lenRow rfl Try.underlying50 (.tmp rfl) (.tail _ (.tail _ (.head _)))) fun a31 w31 s31 => ?_; clear s30
    refine seq_op s31 rfl rfl (of_decide_eq_true rfl) (ob_lss rfl (.tmp rfl) (.tmp rfl)) fun a32 w32 s32 => ?_; clear s31
    refine wpList_nil ?_
    refine then_normal ?_
    refine hK11 _ _ ?_
    have s33 := s32.sub (.cons (t := 0) rfl (.cons (t := 3) rfl (.cons (t := 19) rfl .nil))); clear s32
    refine cond_split s33 (.tmp rfl) (fun hc2 => ?_) (fun hc2 => ?_)
    · replace h7 := ite_t hc2 h7
      have h8 := h7; clear h7
      refine wp_skip ?_
      refine then_normal ?_
      refine hK10 _ _ ?_
      have s34 := s33.sub (.cons (t := 0) rfl (.cons (t := 3) rfl .nil)); clear s33
      refine wp_seq_k fun K12 hK12 => ?_
      refine wp_block ?_
      refine wp_region_lit ?_
      refine seq_op s34 rfl rfl (of_decide_eq_true rfl) (ob_move rfl (.tmp rfl)) fun a35 w35 s35 => ?_; clear s34
      refine seq_op s35 rfl rfl (of_decide_eq_true rfl) (ob_move rfl (.tmp rfl)) fun a36 w36 s36 => ?_; clear s35
      obtain ⟨x3, e_x3, h9⟩ := bind_some h8; clear h8
      refine seq_opx (B' := (fun gg : Value × Value × Value => [BF b00 52 (ko_cabalref12_Disk_0_1_2 gg.1 gg.2.1 gg.2.2) (⟨[], [], [], x3.Fuse, x3.Dead⟩ : cabalref12_Disk), RowF gg.1 9 kstr x3.Firm, RowF gg.2.1 3 (kint .i64) x3.At, RowF gg.2.2 9 kstr x3.Data])) s36 rfl rfl (of_decide_eq_true rfl) (ob_callL (args := [_, _, _]) (L := [_, _, _, _]) rfl .direct hb53 (List.Perm.refl _) (fun a w s fs gs hf hg => by obtain rfl := hf.unnil; obtain rfl := hg.unnil; exact c_cabalref12_Disk_settle k _ _ _ _ e_x3 _ _ _ _ _ _ _ _ _ (ownL s) (disL s) (nodL s) (s.arg (.tmp rfl)) (s.arg (.tmp rfl)) (s.arg (opd_int rfl))) (by exact fun _ => rfl)) fun gg37 a37 w37 s37 => ?_; clear s36
      obtain ⟨v13, v14, v15⟩ := gg37
      refine wpList_nil ?_
      refine in_normal ?_
      refine then_normal ?_
      refine hK12 _ _ ?_
      have s38 := s37.sub (.cons (t := 0) rfl (.cons (t := 3) rfl .nil)); clear s37
      refine wp_region_lit ?_
      refine seq_op s38 rfl rfl (of_decide_eq_true rfl) (ob_move rfl (.tmp rfl)) fun a39 w39 s39 => ?_; clear s38
      refine seq_op s39 rfl rfl (of_decide_eq_true rfl) (ob_add rfl (.tmp rfl) (opd_int rfl)) fun a40 w40 s40 => ?_; clear s39
      refine seq_op s40 rfl rfl (of_decide_eq_true rfl) (ob_assign rfl (.tmp rfl)) fun a41 w41 s41 => ?_; clear s40
      refine wpList_nil ?_
      refine then_normal ?_
      exact hK9 ((iadd .i64 y6 (1 : Int)), x3.Fuse, x3.Dead, x3.Firm, x3.At, x3.Data) _ _ h9 ⟨v13, v14, v15, (s41.sub (.cons rfl (.cons rfl .nil)))⟩
    · replace h7 := ite_f hc2 h7
      have h10 := h7; clear h7
      refine wp_exit ?_
      refine (then_exit (then_exit (in_here ?_)))
      refine then_normal ?_
      exact hj1 y7 y8 y9 y10 y11 v10 v11 v12 _ _ h10 (s33.sub (.cons rfl .nil))

/- 22 (*cabal/disk.Disk).Fuse -/
theorem c_disk_Disk_Fuse (k : Nat) (p1 : disk_Disk) (p2 : Int) (r : disk_Disk) (h0 : disk_Disk_Fuse k p1 p2 = some r) (ok : Ok) (w0 : World) (z0 : Value) (z1 : Value) (b00 : Nat) (w0_0 : Value) (w0_1 : Value) (l0 : ∀ q, q ∈ [BF b00 87 (ko_disk_Disk_0_1 w0_0 w0_1) (⟨[], [], p1.fuse, p1.dead⟩ : disk_Disk), RowF w0_0 91 (karr 256 (kint .u8)) p1.firm, RowF w0_1 93 k_disk_write p1.loose] → q.holds ok w0) (d0 : ∀ c, c ∈ idsOf [BF b00 87 (ko_disk_Disk_0_1 w0_0 w0_1) (⟨[], [], p1.fuse, p1.dead⟩ : disk_Disk), RowF w0_0 91 (karr 256 (kint .u8)) p1.firm, RowF w0_1 93 k_disk_write p1.loose] → ¬ ok c) (nd : (idsOf [BF b00 87 (ko_disk_Disk_0_1 w0_0 w0_1) (⟨[], [], p1.fuse, p1.dead⟩ : disk_Disk), RowF w0_0 91 (karr 256 (kint .u8)) p1.firm, RowF w0_1 93 k_disk_write p1.loose]).Nodup) (u0 : (ptrB b00 0).holds ok w0 z0) (u1 : ((kint .i64).V p2).holds ok w0 z1) :
    GivesX Try.prog 22 [z0, z1] ok w0 [BF b00 87 (ko_disk_Disk_0_1 w0_0 w0_1) (⟨[], [], p1.fuse, p1.dead⟩ : disk_Disk), RowF w0_0 91 (karr 256 (kint .u8)) p1.firm, RowF w0_1 93 k_disk_write p1.loose] (fun g : Value × Value => resFact []) (fun g : Value × Value => [BF b00 87 (ko_disk_Disk_0_1 (g.1) (g.2)) (⟨[], [], r.fuse, r.dead⟩ : disk_Disk), RowF (g.1) 91 (karr 256 (kint .u8)) r.firm, RowF (g.2) 93 k_disk_write r.loose]) := by
  unfold disk_Disk_Fuse at h0
  refine enterX (N := 11) Try.func22 rfl rfl (of_decide_eq_true rfl) (.cons u0 (.cons u1 .nil)) nd l0 d0 fun a1 s1 => ?_
  refine wp_seq_k fun K1 hK1 => ?_
  refine wp_region_lit ?_
  refine seq_op s1 rfl rfl (of_decide_eq_true rfl) (ob_move rfl (.tmp rfl)) fun a2 w2 s2 => ?_; clear s1
  refine seq_op s2 rfl rfl (of_decide_eq_true rfl) (ob_ptrNotNil (p := some _) rfl pt25 (.tmp rfl) opd_is) fun a3 w3 s3 => ?_; clear s2
  refine wpList_nil ?_
  refine then_normal ?_
  refine hK1 _ _ ?_
  have s4 := s3.sub (.cons (t := 0) rfl (.cons (t := 1) rfl (.cons (t := 5) rfl .nil))); clear s3
  refine cond_t s4 (.tmp rfl) ?_
  refine wp_region_lit ?_
  refine seq_op s4 rfl rfl (of_decide_eq_true rfl) (ob_move rfl (.tmp rfl)) fun a5 w5 s5 => ?_; clear s4
  refine seq_op s5 rfl rfl (of_decide_eq_true rfl) (ob_move rfl (.tmp rfl)) fun a6 w6 s6 => ?_; clear s5
  refine seq_op s6 rfl rfl (of_decide_eq_true rfl) (ob_max rfl (.tmp rfl) (opd_int rfl)) fun a7 w7 s7 => ?_; clear s6
  refine seq_op s7 rfl rfl (of_decide_eq_true rfl) (ob_nilCheck rfl (.tmp rfl)) fun a8 w8 s8 => ?_; clear s7
  refine seq_op s8 rfl rfl (of_decide_eq_true rfl) (ob_fieldAddr (off' := 2) rfl Try.underlying87 rfl sz3 (by decide) (.tmp rfl) rfl) fun a9 w9 s9 => ?_; clear s8
  refine seq_opx0 (B' := (fun _ : Unit => [BF b00 87 (ko_disk_Disk_0_1 w0_0 w0_1) (⟨[], [], (if (-1 : Int) > p2 then (-1 : Int) else p2), p1.dead⟩ : disk_Disk), RowF w0_0 91 (karr 256 (kint .u8)) p1.firm, RowF w0_1 93 k_disk_write p1.loose])) s9 rfl rfl (ob_store (A := []) rfl tk3 (.tmp rfl) (.tmp rfl) rfl (lso_disk_Disk_0_1_fuse (⟨[], [], p1.fuse, p1.dead⟩ : disk_Disk) (if (-1 : Int) > p2 then (-1 : Int) else p2)) rfl) fun _ a10 w10 s10 => ?_; clear s9
  refine wpList_nil ?_
  obtain rfl := Option.some.inj h0
  exact leaveXD (D := []) ⟨w0_0, w0_1⟩ s10 rfl (.inr rfl) rfl .nil rfl

/- 23 (*cabal/cabalref12.Disk).Light -/
theorem c_cabalref12_Disk_Light (k : Nat) (p1 : cabalref12_Disk) (p2 : Int) (r : cabalref12_Disk) (h0 : cabalref12_Disk_Light k p1 p2 = some r) (ok : Ok) (w0 : World) (z0 : Value) (z1 : Value) (b00 : Nat) (w0_0 : Value) (w0_1 : Value) (w0_2 : Value) (l0 : ∀ q, q ∈ [BF b00 52 (ko_cabalref12_Disk_0_1_2 w0_0 w0_1 w0_2) (⟨[], [], [], p1.Fuse, p1.Dead⟩ : cabalref12_Disk), RowF w0_0 9 kstr p1.Firm, RowF w0_1 3 (kint .i64) p1.At, RowF w0_2 9 kstr p1.Data] → q.holds ok w0) (d0 : ∀ c, c ∈ idsOf [BF b00 52 (ko_cabalref12_Disk_0_1_2 w0_0 w0_1 w0_2) (⟨[], [], [], p1.Fuse, p1.Dead⟩ : cabalref12_Disk), RowF w0_0 9 kstr p1.Firm, RowF w0_1 3 (kint .i64) p1.At, RowF w0_2 9 kstr p1.Data] → ¬ ok c) (nd : (idsOf [BF b00 52 (ko_cabalref12_Disk_0_1_2 w0_0 w0_1 w0_2) (⟨[], [], [], p1.Fuse, p1.Dead⟩ : cabalref12_Disk), RowF w0_0 9 kstr p1.Firm, RowF w0_1 3 (kint .i64) p1.At, RowF w0_2 9 kstr p1.Data]).Nodup) (u0 : (ptrB b00 0).holds ok w0 z0) (u1 : ((kint .i64).V p2).holds ok w0 z1) :
    GivesX Try.prog 23 [z0, z1] ok w0 [BF b00 52 (ko_cabalref12_Disk_0_1_2 w0_0 w0_1 w0_2) (⟨[], [], [], p1.Fuse, p1.Dead⟩ : cabalref12_Disk), RowF w0_0 9 kstr p1.Firm, RowF w0_1 3 (kint .i64) p1.At, RowF w0_2 9 kstr p1.Data] (fun g : Value × Value × Value => resFact []) (fun g : Value × Value × Value => [BF b00 52 (ko_cabalref12_Disk_0_1_2 (g.1) (g.2.1) (g.2.2)) (⟨[], [], [], r.Fuse, r.Dead⟩ : cabalref12_Disk), RowF (g.1) 9 kstr r.Firm, RowF (g.2.1) 3 (kint .i64) r.At, RowF (g.2.2) 9 kstr r.Data]) := by
  unfold cabalref12_Disk_Light at h0
  refine enterX (N := 13) Try.func23 rfl rfl (of_decide_eq_true rfl) (.cons u0 (.cons u1 .nil)) nd l0 d0 fun a1 s1 => ?_
  refine wp_seq_k fun K1 hK1 => ?_
  refine wp_region_lit ?_
  refine seq_op s1 rfl rfl (of_decide_eq_true rfl) (ob_move rfl (.tmp rfl)) fun a2 w2 s2 => ?_; clear s1
  refine seq_op s2 rfl rfl (of_decide_eq_true rfl) (ob_move rfl (.tmp rfl)) fun a3 w3 s3 => ?_; clear s2
  refine seq_op s3 rfl rfl (of_decide_eq_true rfl) (ob_nilCheck rfl (.tmp rfl)) fun a4 w4 s4 => ?_; clear s3
  refine seq_op s4 rfl rfl (of_decide_eq_true rfl) (ob_fieldAddr (off' := 3) rfl Try.underlying52 rfl sz3 (by decide) (.tmp rfl) rfl) fun a5 w5 s5 => ?_; clear s4
  refine seq_opx0 (B' := (fun _ : Unit => [BF b00 52 (ko_cabalref12_Disk_0_1_2 w0_0 w0_1 w0_2) (⟨[], [], [], p2, p1.Dead⟩ : cabalref12_Disk), RowF w0_0 9 kstr p1.Firm, RowF w0_1 3 (kint .i64) p1.At, RowF w0_2 9 kstr p1.Data])) s5 rfl rfl (ob_store (A := []) rfl tk3 (.tmp rfl) (.tmp rfl) rfl (lso_cabalref12_Disk_0_1_2_Fuse (⟨[], [], [], p1.Fuse, p1.Dead⟩ : cabalref12_Disk) p2) rfl) fun _ a6 w6 s6 => ?_; clear s5
  refine wpList_nil ?_
  refine then_normal ?_
  refine hK1 _ _ ?_
  have s7 := s6.sub (.cons (t := 0) rfl (.cons (t := 1) rfl .nil)); clear s6
  refine wp_seq_k fun K2 hK2 => ?_
  refine wp_region_lit ?_
  refine seq_op s7 rfl rfl (of_decide_eq_true rfl) (ob_move rfl (.tmp rfl)) fun a8 w8 s8 => ?_; clear s7
  refine seq_op s8 rfl rfl (of_decide_eq_true rfl) (ob_lss rfl (.tmp rfl) (opd_int rfl)) fun a9 w9 s9 => ?_; clear s8
  refine wpList_nil ?_
  refine then_normal ?_
  refine hK2 _ _ ?_
  have s10 := s9.sub (.cons (t := 0) rfl (.cons (t := 9) rfl .nil)); clear s9
  refine cond_split s10 (.tmp rfl) (fun hc1 => ?_) (fun hc1 => ?_)
  · replace h0 := ite_t hc1 h0
    have h1 := h0; clear h0
    refine wp_region_lit ?_
    refine seq_op s10 rfl rfl (of_decide_eq_true rfl) (ob_move rfl (.tmp rfl)) fun a11 w11 s11 => ?_; clear s10
    refine seq_op s11 rfl rfl (of_decide_eq_true rfl) (ob_nilCheck rfl (.tmp rfl)) fun a12 w12 s12 => ?_; clear s11
    refine seq_op s12 rfl rfl (of_decide_eq_true rfl) (ob_fieldAddr (off' := 3) rfl Try.underlying52 rfl sz3 (by decide) (.tmp rfl) rfl) fun a13 w13 s13 => ?_; clear s12
    refine seq_opx0 (B' := (fun _ : Unit => [BF b00 52 (ko_cabalref12_Disk_0_1_2 w0_0 w0_1 w0_2) (⟨[], [], [], (-1 : Int), p1.Dead⟩ : cabalref12_Disk), RowF w0_0 9 kstr p1.Firm, RowF w0_1 3 (kint .i64) p1.At, RowF w0_2 9 kstr p1.Data])) s13 rfl rfl (ob_store (A := []) rfl tk3 (.tmp rfl) (opd_int rfl) rfl (lso_cabalref12_Disk_0_1_2_Fuse (⟨[], [], [], p2, p1.Dead⟩ : cabalref12_Disk) (-1 : Int)) rfl) fun _ a14 w14 s14 => ?_; clear s13
    refine wpList_nil ?_
    obtain rfl := Option.some.inj h1
    exact leaveXD (D := []) ⟨w0_0, w0_1, w0_2⟩ s14 rfl (.inr rfl) rfl .nil rfl
  · replace h0 := ite_f hc1 h0
    have h2 := h0; clear h0
    refine wp_skip ?_
    obtain rfl := Option.some.inj h2
    exact leaveXD (D := []) ⟨w0_0, w0_1, w0_2⟩ s10 rfl (.inr rfl) rfl .nil rfl

/- 24 (*cabal/cabalref12.Disk).Crash -/
theorem c_cabalref12_Disk_Crash (k : Nat) (p1 : cabalref12_Disk) (p2 : (List Int)) (r : cabalref12_Disk) (h0 : cabalref12_Disk_Crash k p1 p2 = some r) (ok : Ok) (w0 : World) (z0 : Value) (z1 : Value) (b00 : Nat) (w0_0 : Value) (w0_1 : Value) (w0_2 : Value) (l0 : ∀ q, q ∈ [BF b00 52 (ko_cabalref12_Disk_0_1_2 w0_0 w0_1 w0_2) (⟨[], [], [], p1.Fuse, p1.Dead⟩ : cabalref12_Disk), RowF w0_0 9 kstr p1.Firm, RowF w0_1 3 (kint .i64) p1.At, RowF w0_2 9 kstr p1.Data] → q.holds ok w0) (d0 : ∀ c, c ∈ idsOf [BF b00 52 (ko_cabalref12_Disk_0_1_2 w0_0 w0_1 w0_2) (⟨[], [], [], p1.Fuse, p1.Dead⟩ : cabalref12_Disk), RowF w0_0 9 kstr p1.Firm, RowF w0_1 3 (kint .i64) p1.At, RowF w0_2 9 kstr p1.Data] → ¬ ok c) (nd : (idsOf [BF b00 52 (ko_cabalref12_Disk_0_1_2 w0_0 w0_1 w0_2) (⟨[], [], [], p1.Fuse, p1.Dead⟩ : cabalref12_Disk), RowF w0_0 9 kstr p1.Firm, RowF w0_1 3 (kint .i64) p1.At, RowF w0_2 9 kstr p1.Data]).Nodup) (u0 : (ptrB b00 0).holds ok w0 z0) (u1 : ((ksl (kint .u8)).V p2).holds ok w0 z1) :
    GivesX Try.prog 24 [z0, z1] ok w0 [BF b00 52 (ko_cabalref12_Disk_0_1_2 w0_0 w0_1 w0_2) (⟨[], [], [], p1.Fuse, p1.Dead⟩ : cabalref12_Disk), RowF w0_0 9 kstr p1.Firm, RowF w0_1 3 (kint .i64) p1.At, RowF w0_2 9 kstr p1.Data] (fun g : Value × Value × Value => resFact []) (fun g : Value × Value × Value => [BF b00 52 (ko_cabalref12_Disk_0_1_2 (g.1) (g.2.1) (g.2.2)) (⟨[], [], [], r.Fuse, r.Dead⟩ : cabalref12_Disk), RowF (g.1) 9 kstr r.Firm, RowF (g.2.1) 3 (kint .i64) r.At, RowF (g.2.2) 9 kstr r.Data]) := by
  unfold cabalref12_Disk_Crash at h0
  refine enterX (N := 36) Try.func24 rfl rfl (of_decide_eq_true rfl) (.cons u0 (.cons u1 .nil)) nd l0 d0 fun a1 s1 => ?_
  refine wp_seq_k fun K1 hK1 => ?_
  refine wp_seq_k fun K2 hK2 => ?_
  refine wp_region_lit ?_
  refine seq_op s1 rfl rfl (of_decide_eq_true rfl) (ob_assign rfl (opd_int rfl)) fun a2 w2 s2 => ?_; clear s1
  refine wpList_nil ?_
  refine then_normal ?_
  refine hK2 _ _ ?_
  have s3 := s2.sub (.cons (t := 0) rfl (.cons (t := 1) rfl (.cons (t := 4) rfl .nil))); clear s2
  have hj1 : ∀ (y1 : Int) (y2 : Bool) (y3 : (List (List Int))) (y4 : (List Int)) (y5 : (List (List Int))) (v1 : Value) (v2 : Value) (v3 : Value) (a : Act) (w : World), (cabalref12_Disk_Crash.j1 k) y1 y2 y3 y4 y5 = some r → St ⟨36, w0, ok, (idsOf [BF b00 52 (ko_cabalref12_Disk_0_1_2 w0_0 w0_1 w0_2) (⟨[], [], [], p1.Fuse, p1.Dead⟩ : cabalref12_Disk), RowF w0_0 9 kstr p1.Firm, RowF w0_1 3 (kint .i64) p1.At, RowF w0_2 9 kstr p1.Data])⟩ [BF b00 52 (ko_cabalref12_Disk_0_1_2 v1 v2 v3) (⟨[], [], [], y1, y2⟩ : cabalref12_Disk), RowF v1 9 kstr y3, RowF v2 3 (kint .i64) y4, RowF v3 9 kstr y5] [(0, (ptrB b00 0))] a w → K1 a w := by
    intro y1 y2 y3 y4 y5 v1 v2 v3 a4 w4 h1 s4
    unfold cabalref12_Disk_Crash.j1 at h1
    refine hK1 _ _ ?_
    refine wp_seq_k fun K3 hK3 => ?_
    refine wp_region_lit ?_
    refine seq_op s4 rfl rfl (of_decide_eq_true rfl) (ob_move rfl (.tmp rfl)) fun a5 w5 s5 => ?_; clear s4
    obtain ⟨x1, e_x1, h2⟩ := bind_some h1; clear h1
    refine seq_opx (B' := (fun gg : Value × Value × Value => [BF b00 52 (ko_cabalref12_Disk_0_1_2 gg.1 gg.2.1 gg.2.2) (⟨[], [], [], x1.Fuse, x1.Dead⟩ : cabalref12_Disk), RowF gg.1 9 kstr x1.Firm, RowF gg.2.1 3 (kint .i64) x1.At, RowF gg.2.2 9 kstr x1.Data])) s5 rfl rfl (of_decide_eq_true rfl) (ob_callL (args := [_]) (L := [_, _, _, _]) rfl .direct hb54 (List.Perm.refl _) (fun a w s fs gs hf hg => by obtain rfl := hf.unnil; obtain rfl := hg.unnil; exact c_cabalref12_Disk_clear k _ _ e_x1 _ _ _ _ _ _ _ (ownL s) (disL s) (nodL s) (s.arg (.tmp rfl))) (by exact fun _ => rfl)) fun gg6 a6 w6 s6 => ?_; clear s5
    obtain ⟨v4, v5, v6⟩ := gg6
    refine wpList_nil ?_
    refine then_normal ?_
    refine hK3 _ _ ?_
    have s7 := s6.sub (.cons (t := 0) rfl .nil); clear s6
    refine wp_seq_k fun K4 hK4 => ?_
    refine wp_region_lit ?_
    refine seq_op s7 rfl rfl (of_decide_eq_true rfl) (ob_move rfl (.tmp rfl)) fun a8 w8 s8 => ?_; clear s7
    refine seq_op s8 rfl rfl (of_decide_eq_true rfl) (ob_nilCheck rfl (.tmp rfl)) fun a9 w9 s9 => ?_; clear s8
    refine seq_op s9 rfl rfl (of_decide_eq_true rfl) (ob_fieldAddr (off' := 3) rfl Try.underlying52 rfl sz3 (by decide) (.tmp rfl) rfl) fun a10 w10 s10 => ?_; clear s9
    refine seq_opx0 (B' := (fun _ : Unit => [BF b00 52 (ko_cabalref12_Disk_0_1_2 v4 v5 v6) (⟨[], [], [], (-1 : Int), x1.Dead⟩ : cabalref12_Disk), RowF v4 9 kstr x1.Firm, RowF v5 3 (kint .i64) x1.At, RowF v6 9 kstr x1.Data])) s10 rfl rfl (ob_store (A := []) rfl tk3 (.tmp rfl) (opd_int rfl) rfl (lso_cabalref12_Disk_0_1_2_Fuse (⟨[], [], [], x1.Fuse, x1.Dead⟩ : cabalref12_Disk) (-1 : Int)) rfl) fun _ a11 w11 s11 => ?_; clear s10
    refine wpList_nil ?_
    refine then_normal ?_
    refine hK4 _ _ ?_
    have s12 := s11.sub (.cons (t := 0) rfl .nil); clear s11
    refine wp_region_lit ?_
    refine seq_op s12 rfl rfl (of_decide_eq_true rfl) (ob_move rfl (.tmp rfl)) fun a13 w13 s13 => ?_; clear s12
    refine seq_op s13 rfl rfl (of_decide_eq_true rfl) (ob_nilCheck rfl (.tmp rfl)) fun a14 w14 s14 => ?_; clear s13
    refine seq_op s14 rfl rfl (of_decide_eq_true rfl) (ob_fieldAddr (off' := 4) rfl Try.underlying52 rfl sz4 (by decide) (.tmp rfl) rfl) fun a15 w15 s15 => ?_; clear s14
    refine seq_opx0 (B' := (fun _ : Unit => [BF b00 52 (ko_cabalref12_Disk_0_1_2 v4 v5 v6) (⟨[], [], [], (-1 : Int), false⟩ : cabalref12_Disk), RowF v4 9 kstr x1.Firm, RowF v5 3 (kint .i64) x1.At, RowF v6 9 kstr x1.Data])) s15 rfl rfl (ob_store (A := []) rfl tk4 (.tmp rfl) opd_bool rfl (lso_cabalref12_Disk_0_1_2_Dead (⟨[], [], [], (-1 : Int), x1.Dead⟩ : cabalref12_Disk) false) rfl) fun _ a16 w16 s16 => ?_; clear s15
    refine wpList_nil ?_
    obtain rfl := Option.some.inj h2
    exact leaveXD (D := []) ⟨v4, v5, v6⟩ s16 rfl (.inr rfl) rfl .nil rfl
  refine wp_block ?_
  refine wp_loop_fuel (fun m (q : Int × Int × Bool × (List (List Int)) × (List Int) × (List (List Int))) => cabalref12_Disk_Crash.l1 k p2 m q.1 q.2.1 q.2.2.1 q.2.2.2.1 q.2.2.2.2.1 q.2.2.2.2.2) r (fun _ => rfl) (fun q a w => ∃ (v7 : Value) (v8 : Value) (v9 : Value), St ⟨36, w0, ok, (idsOf [BF b00 52 (ko_cabalref12_Disk_0_1_2 w0_0 w0_1 w0_2) (⟨[], [], [], p1.Fuse, p1.Dead⟩ : cabalref12_Disk), RowF w0_0 9 kstr p1.Firm, RowF w0_1 3 (kint .i64) p1.At, RowF w0_2 9 kstr p1.Data])⟩ [BF b00 52 (ko_cabalref12_Disk_0_1_2 v7 v8 v9) (⟨[], [], [], q.2.1, q.2.2.1⟩ : cabalref12_Disk), RowF v7 9 kstr q.2.2.2.1, RowF v8 3 (kint .i64) q.2.2.2.2.1, RowF v9 9 kstr q.2.2.2.2.2] [(0, (ptrB b00 0)), (1, ((ksl (kint .u8)).V p2)), (4, ((kint .i64).V q.1))] a w) ?_ k ((0 : Int), p1.Fuse, p1.Dead, p1.Firm, p1.At, p1.Data) _ _ h0 ⟨w0_0, w0_1, w0_2, (s3.sub (.cons rfl (.cons rfl (.cons rfl .nil))))⟩
  rintro n1 ⟨y6, y7, y8, y9, y10, y11⟩ a17 w17 h3 ⟨v7, v8, v9, s17⟩ K5 hK5
  replace h3 : cabalref12_Disk_Crash.l1 k p2 (n1 + 1) y6 y7 y8 y9 y10 y11 = some r := h3; rw [cabalref12_Disk_Crash.l1] at h3
  have h4 := h3; clear h3
  refine wp_seq_k fun K6 hK6 => ?_
  refine wp_seq_k fun K7 hK7 => ?_
  refine wp_region_lit ?_
  refine seq_op s17 rfl rfl (of_decide_eq_true rfl) (ob_move rfl (.tmp rfl)) fun a18 w18 s18 => ?_; clear s17
  refine seq_op s18 rfl rfl (of_decide_eq_true rfl) (ob_move rfl (.tmp rfl)) fun a19 w19 s19 => ?_; clear s18
  refine seq_op s19 rfl rfl (of_decide_eq_true rfl) (ob_nilCheck rfl (.tmp rfl)) fun a20 w20 s20 => ?_; clear s19
  refine seq_op s20 rfl rfl (of_decide_eq_true rfl) (ob_fieldAddr (off' := 1) rfl Try.underlying52 rfl sz50 (by decide) (.tmp rfl) rfl) fun a21 w21 s21 => ?_; clear s20
  refine seq_op s21 rfl rfl (of_decide_eq_true rfl) (ob_loadRowV rfl (tkr50 _) (.tmp rfl) (.head _) (lgo_cabalref12_Disk_0_1_2_At (⟨[], [], [], y7, y8⟩ : cabalref12_Disk))) fun a22 w22 s22 => ?_; clear s21
  refine seq_op s22 rfl rfl (of_decide_eq_true rfl) (ob_lenRow rfl Try.underlying50 (.tmp rfl) (.tail _ (.tail _ (.head _)))) fun a23 w23 s23 => ?_; clear s22
  refine seq_op s23 rfl rfl (of_decide_eq_true rfl) (ob_lss rfl (.tmp rfl) (.tmp rfl)) fun a24 w24 s24 => ?_; clear s23
  refine wpList_nil ?_
  refine then_normal ?_
  refine hK7 _ _ ?_
  have s25 := s24.sub (.cons (t := 0) rfl (.cons (t := 1) rfl (.cons (t := 4) rfl (.cons (t := 11) rfl .nil)))); clear s24
  refine cond_split s25 (.tmp rfl) (fun hc1 => ?_) (fun hc1 => ?_)
  · replace h4 := ite_t hc1 h4
    have h5 := h4; clear h4
    refine wp_skip ?_
    refine then_normal ?_
    refine hK6 _ _ ?_
    have s26 := s25.sub (.cons (t := 0) rfl (.cons (t := 1) rfl (.cons (t := 4) rfl .nil))); clear s25
    refine wp_seq_k fun K8 hK8 => ?_
    have hj2 : ∀ (y12 : Int) (y13 : Bool) (y14 : (List (List Int))) (y15 : (List Int)) (y16 : (List (List Int))) (v10 : Value) (v11 : Value) (v12 : Value) (a : Act) (w : World), (cabalref12_Disk_Crash.j2 k y6 (cabalref12_Disk_Crash.l1 k p2 n1)) y12 y13 y14 y15 y16 = some r → St ⟨36, w0, ok, (idsOf [BF b00 52 (ko_cabalref12_Disk_0_1_2 w0_0 w0_1 w0_2) (⟨[], [], [], p1.Fuse, p1.Dead⟩ : cabalref12_Disk), RowF w0_0 9 kstr p1.Firm, RowF w0_1 3 (kint .i64) p1.At, RowF w0_2 9 kstr p1.Data])⟩ [BF b00 52 (ko_cabalref12_Disk_0_1_2 v10 v11 v12) (⟨[], [], [], y12, y13⟩ : cabalref12_Disk), RowF v10 9 kstr y14, RowF v11 3 (kint .i64) y15, RowF v12 9 kstr y16] [(0, (ptrB b00 0)), (1, ((ksl (kint .u8)).V p2)), (4, ((kint .i64).V y6))] a w → K8 a w := by
      intro y12 y13 y14 y15 y16 v10 v11 v12 a27 w27 h6 s27
      unfold cabalref12_Disk_Crash.j2 at h6
      refine hK8 _ _ ?_
      refine wp_region_lit ?_
      refine seq_op s27 rfl rfl (of_decide_eq_true rfl) (ob_move rfl (.tmp rfl)) fun a28 w28 s28 => ?_; clear s27
      refine seq_op s28 rfl rfl (of_decide_eq_true rfl) (ob_add rfl (.tmp rfl) (opd_int rfl)) fun a29 w29 s29 => ?_; clear s28
      refine seq_op s29 rfl rfl (of_decide_eq_true rfl) (ob_assign rfl (.tmp rfl)) fun a30 w30 s30 => ?_; clear s29
      refine wpList_nil ?_
      refine then_normal ?_
      exact hK5 ((iadd .i64 y6 (1 : Int)), y12, y13, y14, y15, y16) _ _ h6 ⟨v10, v11, v12, (s30.sub (.cons rfl (.cons rfl (.cons rfl .nil))))⟩
    refine wp_block ?_
    refine wp_seq_k fun K9 hK9 => ?_
    refine wp_region_lit ?_
    refine seq_op s26 rfl rfl (of_decide_eq_true rfl) (ob_move rfl (.tmp rfl)) fun a31 w31 s31 => ?_; clear s26
    refine seq_op s31 rfl rfl (of_decide_eq_true rfl) (ob_move rfl (.tmp rfl)) fun a32 w32 s32 => ?_; clear s31
    refine seq_op s32 rfl rfl (of_decide_eq_true rfl) (ob_lens rfl Try.underlying23 (.tmp rfl)) fun a33 w33 s33 => ?_; clear s32
    refine seq_op s33 rfl rfl (of_decide_eq_true rfl) (ob_lss rfl (.tmp rfl) (.tmp rfl)) fun a34 w34 s34 => ?_; clear s33
    refine wpList_nil ?_
    refine then_normal ?_
    refine hK9 _ _ ?_
    have s35 := s34.sub (.cons (t := 0) rfl (.cons (t := 1) rfl (.cons (t := 4) rfl (.cons (t := 17) rfl .nil)))); clear s34
    refine cond_split s35 (.tmp rfl) (fun hc2 => ?_) (fun hc2 => ?_)
    · replace h5 := ite_t hc2 h5
      have h7 := h5; clear h5
      refine wp_region_lit ?_
      refine seq_op s35 rfl rfl (of_decide_eq_true rfl) (ob_move rfl (.tmp rfl)) fun a36 w36 s36 => ?_; clear s35
      refine seq_op s36 rfl rfl (of_decide_eq_true rfl) (ob_move rfl (.tmp rfl)) fun a37 w37 s37 => ?_; clear s36
      refine seq_op s37 rfl rfl (of_decide_eq_true rfl) (ob_move rfl (.tmp rfl)) fun a38 w38 s38 => ?_; clear s37
      refine seq_op s38 rfl rfl (of_decide_eq_true rfl) (ob_move rfl (.tmp rfl)) fun a39 w39 s39 => ?_; clear s38
      obtain ⟨x2, e_x2, h8⟩ := bind_some h7; clear h7
      refine seq_op s39 rfl rfl (of_decide_eq_true rfl) (ob_indexAddrs rfl Try.underlying23 sz5 (.tmp rfl) (.tmp rfl) e_x2) fun a40 w40 s40 => ?_; clear s39
      refine seq_op s40 rfl rfl (of_decide_eq_true rfl) (ob_loadr rfl tk5 (.tmp rfl)) fun a41 w41 s41 => ?_; clear s40
      refine seq_op s41 rfl rfl (of_decide_eq_true rfl) (ob_rem rfl (.tmp rfl) (opd_int rfl) (by decide)) fun a42 w42 s42 => ?_; clear s41
      refine seq_op s42 rfl rfl (of_decide_eq_true rfl) (ob_conv rfl _ Try.underlying5 Try.underlying3 (.tmp rfl)) fun a43 w43 s43 => ?_; clear s42
      refine seq_op s43 rfl rfl (of_decide_eq_true rfl) (ob_mul rfl (opd_int rfl) (.tmp rfl)) fun a44 w44 s44 => ?_; clear s43
      obtain ⟨x3, e_x3, h9⟩ := bind_some h8; clear h8
      refine seq_opx (B' := (fun gg : Value × Value × Value => [BF b00 52 (ko_cabalref12_Disk_0_1_2 gg.1 gg.2.1 gg.2.2) (⟨[], [], [], x3.Fuse, x3.Dead⟩ : cabalref12_Disk), RowF gg.1 9 kstr x3.Firm, RowF gg.2.1 3 (kint .i64) x3.At, RowF gg.2.2 9 kstr x3.Data])) s44 rfl rfl (of_decide_eq_true rfl) (ob_callL (args := [_, _, _]) (L := [_, _, _, _]) rfl .direct hb53 (List.Perm.refl _) (fun a w s fs gs hf hg => by obtain rfl := hf.unnil; obtain rfl := hg.unnil; exact c_cabalref12_Disk_settle k _ _ _ _ e_x3 _ _ _ _ _ _ _ _ _ (ownL s) (disL s) (nodL s) (s.arg (.tmp rfl)) (s.arg (.tmp rfl)) (s.arg (.tmp rfl))) (by exact fun _ => rfl)) fun gg45 a45 w45 s45 => ?_; clear s44
      obtain ⟨v13, v14, v15⟩ := gg45
      refine wpList_nil ?_
      refine in_normal ?_
      refine then_normal ?_
      exact hj2 x3.Fuse x3.Dead x3.Firm x3.At x3.Data v13 v14 v15 _ _ h9 (s45.sub (.cons rfl (.cons rfl (.cons rfl .nil))))
    · replace h5 := ite_f hc2 h5
      have h10 := h5; clear h5
      refine wp_skip ?_
      refine in_normal ?_
      refine then_normal ?_
      exact hj2 y7 y8 y9 y10 y11 v7 v8 v9 _ _ h10 (s35.sub (.cons rfl (.cons rfl (.cons rfl .nil))))
  · replace h4 := ite_f hc1 h4
    have h11 := h4; clear h4
    refine wp_exit ?_
    refine (then_exit (then_exit (in_here ?_)))
    refine then_normal ?_
    exact hj1 y7 y8 y9 y10 y11 v7 v8 v9 _ _ h11 (s25.sub (.cons rfl .nil))

/- 28 (*cabal/cabalref12.Disk).Read -/
theorem c_cabalref12_Disk_Read (k : Nat) (p1 : cabalref12_Disk) (p2 : Int) (r : (List Int)) (h0 : cabalref12_Disk_Read k p1 p2 = some r) (ok : Ok) (w0 : World) (z0 : Value) (z1 : Value) (u0 : (ptrTo k_cabalref12_Disk p1).holds ok w0 z0) (u1 : ((kint .i64).V p2).holds ok w0 z1) :
    Gives Try.prog 28 [z0, z1] ok w0 (resFact [kstr.V r]) := by
  unfold cabalref12_Disk_Read at h0
  refine enter (N := 39) Try.func28 rfl rfl (of_decide_eq_true rfl) (.cons u0 (.cons u1 .nil)) fun a1 s1 => ?_
  refine wp_seq_k fun K1 hK1 => ?_
  refine wp_region_lit ?_
  refine seq_op s1 rfl rfl (of_decide_eq_true rfl) (ob_assign rfl (opd_str (by rfl) (by decide))) fun a2 w2 s2 => ?_; clear s1
  refine wpList_nil ?_
  refine then_normal ?_
  refine hK1 _ _ ?_
  have s3 := s2.sub (.cons (t := 0) rfl (.cons (t := 1) rfl .nil)); clear s2
  refine wp_seq_k fun K2 hK2 => ?_
  refine wp_seq_k fun K3 hK3 => ?_
  refine wp_region_lit ?_
  refine seq_op s3 rfl rfl (of_decide_eq_true rfl) (ob_move rfl (.tmp rfl)) fun a4 w4 s4 => ?_; clear s3
  refine seq_op s4 rfl rfl (of_decide_eq_true rfl) (ob_nilCheckr rfl (.tmp rfl)) fun a5 w5 s5 => ?_; clear s4
  refine seq_op s5 rfl rfl (of_decide_eq_true rfl) (ob_fieldAddrr rfl Try.underlying52 rfl sz50 (by decide) (.tmp rfl) (lg_cabalref12_Disk_At p1)) fun a6 w6 s6 => ?_; clear s5
  refine seq_op s6 rfl rfl (of_decide_eq_true rfl) (ob_loadr rfl tk50 (.tmp rfl)) fun a7 w7 s7 => ?_; clear s6
  refine seq_op s7 rfl rfl (of_decide_eq_true rfl) (ob_lens rfl Try.underlying50 (.tmp rfl)) fun a8 w8 s8 => ?_; clear s7
  refine seq_op s8 rfl rfl (of_decide_eq_true rfl) (ob_sub rfl (.tmp rfl) (opd_int rfl)) fun a9 w9 s9 => ?_; clear s8
  refine seq_op s9 rfl rfl (of_decide_eq_true rfl) (ob_assign rfl (.tmp rfl)) fun a10 w10 s10 => ?_; clear s9
  refine wpList_nil ?_
  refine then_normal ?_
  refine hK3 _ _ ?_
  have s11 := s10.sub (.cons (t := 0) rfl (.cons (t := 1) rfl (.cons (t := 5) rfl .nil))); clear s10
  have hj1 : ∀ (a : Act) (w : World), (cabalref12_Disk_Read.j1 k p1 p2) = some r → St ⟨39, w0, ok, []⟩ [] [(0, (ptrTo k_cabalref12_Disk p1)), (1, ((kint .i64).V p2))] a w → K2 a w := by
    intro a12 w12 h1 s12
    unfold cabalref12_Disk_Read.j1 at h1
    refine hK2 _ _ ?_
    refine wp_seq_k fun K4 hK4 => ?_
    refine wp_region_lit ?_
    refine seq_op s12 rfl rfl (of_decide_eq_true rfl) (ob_move rfl (.tmp rfl)) fun a13 w13 s13 => ?_; clear s12
    refine seq_op s13 rfl rfl (of_decide_eq_true rfl) (ob_nilCheckr rfl (.tmp rfl)) fun a14 w14 s14 => ?_; clear s13
    refine seq_op s14 rfl rfl (of_decide_eq_true rfl) (ob_fieldAddrr rfl Try.underlying52 rfl sz49 (by decide) (.tmp rfl) (lg_cabalref12_Disk_Firm p1)) fun a15 w15 s15 => ?_; clear s14
    refine seq_op s15 rfl rfl (of_decide_eq_true rfl) (ob_loadr rfl tk49 (.tmp rfl)) fun a16 w16 s16 => ?_; clear s15
    refine seq_op s16 rfl rfl (of_decide_eq_true rfl) (ob_move rfl (.tmp rfl)) fun a17 w17 s17 => ?_; clear s16
    obtain ⟨x1, e_x1, h2⟩ := bind_some h1; clear h1
    refine seq_op s17 rfl rfl (of_decide_eq_true rfl) (ob_indexAddrs rfl Try.underlying49 sz9 (.tmp rfl) (.tmp rfl) e_x1) fun a18 w18 s18 => ?_; clear s17
    refine seq_op s18 rfl rfl (of_decide_eq_true rfl) (ob_loadr rfl tk9 (.tmp rfl)) fun a19 w19 s19 => ?_; clear s18
    refine seq_op s19 rfl rfl (of_decide_eq_true rfl) (ob_assign rfl (.tmp rfl)) fun a20 w20 s20 => ?_; clear s19
    refine wpList_nil ?_
    refine then_normal ?_
    refine hK4 _ _ ?_
    have s21 := s20.sub (.cons (t := 4) rfl .nil); clear s20
    refine wp_ret ?_
    obtain rfl := Option.some.inj h2
    exact leave s21 (.inl rfl) rfl (.cons (.tmp rfl) .nil)
  refine wp_block ?_
  refine wp_loop_fuel (fun m (q : Int) => cabalref12_Disk_Read.l1 k p1 p2 m q) r (fun _ => rfl) (fun q a w => St ⟨39, w0, ok, []⟩ [] [(0, (ptrTo k_cabalref12_Disk p1)), (1, ((kint .i64).V p2)), (5, ((kint .i64).V q))] a w) ?_ k (isub .i64 (p1.At.length : Int) (1 : Int)) _ _ h0 (s11.sub (.cons rfl (.cons rfl (.cons rfl .nil))))
  rintro n1 y1 a22 w22 h3 s22 K5 hK5
  replace h3 : cabalref12_Disk_Read.l1 k p1 p2 (n1 + 1) y1 = some r := h3; rw [cabalref12_Disk_Read.l1] at h3
  have h4 := h3; clear h3
  refine wp_seq_k fun K6 hK6 => ?_
  refine wp_seq_k fun K7 hK7 => ?_
  refine wp_region_lit ?_
  refine seq_op s22 rfl rfl (of_decide_eq_true rfl) (ob_move rfl (.tmp rfl)) fun a23 w23 s23 => ?_; clear s22
  refine seq_op s23 rfl rfl (of_decide_eq_true rfl) (ob_geq rfl (.tmp rfl) (opd_int rfl)) fun a24 w24 s24 => ?_; clear s23
  refine wpList_nil ?_
  refine then_normal ?_
  refine hK7 _ _ ?_
  have s25 := s24.sub (.cons (t := 0) rfl (.cons (t := 1) rfl (.cons (t := 5) rfl (.cons (t := 13) rfl .nil)))); clear s24
  refine cond_split s25 (.tmp rfl) (fun hc1 => ?_) (fun hc1 => ?_)
  · replace h4 := ite_t hc1 h4
    have h5 := h4; clear h4
    refine wp_skip ?_
    refine then_normal ?_
    refine hK6 _ _ ?_
    have s26 := s25.sub (.cons (t := 0) rfl (.cons (t := 1) rfl (.cons (t := 5) rfl .nil))); clear s25
    refine wp_seq_k fun K8 hK8 => ?_
    refine wp_block ?_
    refine wp_seq_k fun K9 hK9 => ?_
    refine wp_region_lit ?_
    refine seq_op s26 rfl rfl (of_decide_eq_true rfl) (ob_move rfl (.tmp rfl)) fun a27 w27 s27 => ?_; clear s26
    refine seq_op s27 rfl rfl (of_decide_eq_true rfl) (ob_nilCheckr rfl (.tmp rfl)) fun a28 w28 s28 => ?_; clear s27
    refine seq_op s28 rfl rfl (of_decide_eq_true rfl) (ob_fieldAddrr rfl Try.underlying52 rfl sz50 (by decide) (.tmp rfl) (lg_cabalref12_Disk_At p1)) fun a29 w29 s29 => ?_; clear s28
    refine seq_op s29 rfl rfl (of_decide_eq_true rfl) (ob_loadr rfl tk50 (.tmp rfl)) fun a30 w30 s30 => ?_; clear s29
    refine seq_op s30 rfl rfl (of_decide_eq_true rfl) (ob_move rfl (.tmp rfl)) fun a31 w31 s31 => ?_; clear s30
    obtain ⟨x2, e_x2, h6⟩ := bind_some h5; clear h5
    refine seq_op s31 rfl rfl (of_decide_eq_true rfl) (ob_indexAddrs rfl Try.underlying50 sz3 (.tmp rfl) (.tmp rfl) e_x2) fun a32 w32 s32 => ?_; clear s31
    refine seq_op s32 rfl rfl (of_decide_eq_true rfl) (ob_loadr rfl tk3 (.tmp rfl)) fun a33 w33 s33 => ?_; clear s32
    refine seq_op s33 rfl rfl (of_decide_eq_true rfl) (ob_move rfl (.tmp rfl)) fun a34 w34 s34 => ?_; clear s33
    refine seq_op s34 rfl rfl (of_decide_eq_true rfl) (ob_eql rfl (.tmp rfl) (.tmp rfl)) fun a35 w35 s35 => ?_; clear s34
    refine wpList_nil ?_
    refine then_normal ?_
    refine hK9 _ _ ?_
    have s36 := s35.sub (.cons (t := 0) rfl (.cons (t := 1) rfl (.cons (t := 5) rfl (.cons (t := 24) rfl .nil)))); clear s35
    refine cond_split s36 (.tmp rfl) (fun hc2 => ?_) (fun hc2 => ?_)
    · replace h6 := ite_t hc2 h6
      have h7 := h6; clear h6
      refine wp_seq_k fun K10 hK10 => ?_
      refine wp_region_lit ?_
      refine seq_op s36 rfl rfl (of_decide_eq_true rfl) (ob_move rfl (.tmp rfl)) fun a37 w37 s37 => ?_; clear s36
      refine seq_op s37 rfl rfl (of_decide_eq_true rfl) (ob_nilCheckr rfl (.tmp rfl)) fun a38 w38 s38 => ?_; clear s37
      refine seq_op s38 rfl rfl (of_decide_eq_true rfl) (ob_fieldAddrr rfl Try.underlying52 rfl sz49 (by decide) (.tmp rfl) (lg_cabalref12_Disk_Data p1)) fun a39 w39 s39 => ?_; clear s38
      refine seq_op s39 rfl rfl (of_decide_eq_true rfl) (ob_loadr rfl tk49 (.tmp rfl)) fun a40 w40 s40 => ?_; clear s39
      refine seq_op s40 rfl rfl (of_decide_eq_true rfl) (ob_move rfl (.tmp rfl)) fun a41 w41 s41 => ?_; clear s40
      obtain ⟨x3, e_x3, h8⟩ := bind_some h7; clear h7
      refine seq_op s41 rfl rfl (of_decide_eq_true rfl) (ob_indexAddrs rfl Try.underlying49 sz9 (.tmp rfl) (.tmp rfl) e_x3) fun a42 w42 s42 => ?_; clear s41
      refine seq_op s42 rfl rfl (of_decide_eq_true rfl) (ob_loadr rfl tk9 (.tmp rfl)) fun a43 w43 s43 => ?_; clear s42
      refine seq_op s43 rfl rfl (of_decide_eq_true rfl) (ob_assign rfl (.tmp rfl)) fun a44 w44 s44 => ?_; clear s43
      refine wpList_nil ?_
      refine then_normal ?_
      refine hK10 _ _ ?_
      have s45 := s44.sub (.cons (t := 4) rfl .nil); clear s44
      refine wp_ret ?_
      obtain rfl := Option.some.inj h8
      exact leave s45 (.inl rfl) rfl (.cons (.tmp rfl) .nil)
    · replace h6 := ite_f hc2 h6
      have h9 := h6; clear h6
      refine wp_skip ?_
      refine in_normal ?_
      refine then_normal ?_
      refine hK8 _ _ ?_
      have s46 := s36.sub (.cons (t := 0) rfl (.cons (t := 1) rfl (.cons (t := 5) rfl .nil))); clear s36
      refine wp_region_lit ?_
      refine seq_op s46 rfl rfl (of_decide_eq_true rfl) (ob_move rfl (.tmp rfl)) fun a47 w47 s47 => ?_; clear s46
      refine seq_op s47 rfl rfl (of_decide_eq_true rfl) (ob_sub rfl (.tmp rfl) (opd_int rfl)) fun a48 w48 s48 => ?_; clear s47
      refine seq_op s48 rfl rfl (of_decide_eq_true rfl) (ob_assign rfl (.tmp rfl)) fun a49 w49 s49 => ?_; clear s48
      refine wpList_nil ?_
      refine then_normal ?_
      exact hK5 (isub .i64 y1 (1 : Int)) _ _ h9 (s49.sub (.cons rfl (.cons rfl (.cons rfl .nil))))
  · replace h4 := ite_f hc1 h4
    have h10 := h4; clear h4
    refine wp_exit ?_
    refine (then_exit (then_exit (in_here ?_)))
    refine then_normal ?_
    exact hj1 _ _ h10 (s25.sub (.cons rfl (.cons rfl .nil)))

/- 5 cabal/caballaw12.DiskPlays -/
theorem c_caballaw12_DiskPlays (k : Nat) (p1 : Int) (p2 : (List caballaw12_Act)) (r : Bool) (h0 : caballaw12_DiskPlays k p1 p2 = some r) (ok : Ok) (w0 : World) (z0 : Value) (z1 : Value) (u0 : ((kint .i64).V p1).holds ok w0 z0) (u1 : ((ksl k_caballaw12_Act).V p2).holds ok w0 z1) :
    Gives Try.prog 5 [z0, z1] ok w0 (resFact [kbool.V r]) := by
  unfold caballaw12_DiskPlays at h0
  refine enter (N := 161) Try.func5 rfl rfl (of_decide_eq_true rfl) (.cons u0 (.cons u1 .nil)) fun a1 s1 => ?_
  refine wp_seq_k fun K1 hK1 => ?_
  refine wp_region_lit ?_
  refine seq_op s1 rfl rfl (of_decide_eq_true rfl) (ob_assign rfl opd_bool) fun a2 w2 s2 => ?_; clear s1
  refine wpList_nil ?_
  refine then_normal ?_
  refine hK1 _ _ ?_
  have s3 := s2.sub (.cons (t := 0) rfl (.cons (t := 1) rfl .nil)); clear s2
  refine wp_seq_k fun K2 hK2 => ?_
  refine wp_seq_k fun K3 hK3 => ?_
  refine wp_region_lit ?_
  obtain ⟨x1, e_x1, h1⟩ := bind_some h0; clear h0
  refine seq_op s3 rfl rfl (of_decide_eq_true rfl) (ob_callD (args := []) rfl .direct hb11 (fun a w s fs gs hf hg => by obtain rfl := hf.unnil; obtain rfl := hg.unnil; exact c_caballaw12_alive k _ e_x1 _ _)) fun a4 w4 s4 => ?_; clear s3
  refine seq_op s4 rfl rfl (of_decide_eq_true rfl) (ob_not rfl (.tmp rfl)) fun a5 w5 s5 => ?_; clear s4
  refine wpList_nil ?_
  refine then_normal ?_
  refine hK3 _ _ ?_
  have s6 := s5.sub (.cons (t := 0) rfl (.cons (t := 1) rfl (.cons (t := 14) rfl .nil))); clear s5
  refine cond_split s6 (.tmp rfl) (fun hc1 => ?_) (fun hc1 => ?_)
  · replace h1 := ite_t hc1 h1
    have h2 := h1; clear h1
    refine wp_seq_k fun K4 hK4 => ?_
    refine wp_region_lit ?_
    refine seq_op s6 rfl rfl (of_decide_eq_true rfl) (ob_assign rfl opd_bool) fun a7 w7 s7 => ?_; clear s6
    refine wpList_nil ?_
    refine then_normal ?_
    refine hK4 _ _ ?_
    have s8 := s7.sub (.cons (t := 4) rfl .nil); clear s7
    refine wp_ret ?_
    obtain rfl := Option.some.inj h2
    exact leave s8 (.inl rfl) rfl (.cons (.tmp rfl) .nil)
  · replace h1 := ite_f hc1 h1
    have h3 := h1; clear h1
    refine wp_skip ?_
    refine then_normal ?_
    refine hK2 _ _ ?_
    have s9 := s6.sub (.cons (t := 0) rfl (.cons (t := 1) rfl .nil)); clear s6
    refine wp_seq_k fun K5 hK5 => ?_
    refine wp_seq_k fun K6 hK6 => ?_
    refine wp_region_lit ?_
    refine seq_op s9 rfl rfl (of_decide_eq_true rfl) (ob_move rfl (.tmp rfl)) fun a10 w10 s10 => ?_; clear s9
    refine seq_op s10 rfl rfl (of_decide_eq_true rfl) (ob_gtr rfl (.tmp rfl) (opd_int rfl)) fun a11 w11 s11 => ?_; clear s10
    refine wpList_nil ?_
    refine then_normal ?_
    refine hK6 _ _ ?_
    have s12 := s11.sub (.cons (t := 0) rfl (.cons (t := 1) rfl (.cons (t := 16) rfl .nil))); clear s11
    have hj1 : ∀ (y1 : Int) (a : Act) (w : World), (caballaw12_DiskPlays.j1 k p2) y1 = some r → St ⟨161, w0, ok, []⟩ [] [(0, ((kint .i64).V y1)), (1, ((ksl k_caballaw12_Act).V p2))] a w → K5 a w := by
      intro y1 a13 w13 h4 s13
      unfold caballaw12_DiskPlays.j1 at h4
      refine hK5 _ _ ?_
      refine wp_seq_k fun K7 hK7 => ?_
      refine wp_region_lit ?_
      refine seq_op s13 rfl rfl (of_decide_eq_true rfl) (ob_move rfl (.tmp rfl)) fun a14 w14 s14 => ?_; clear s13
      obtain ⟨x2, e_x2, h5⟩ := bind_some h4; clear h4
      refine seq_opx (B' := (fun gg : Nat × Value × Value => [BF gg.1 87 (ko_disk_Disk_0_1 gg.2.1 gg.2.2) (⟨[], [], x2.fuse, x2.dead⟩ : disk_Disk), RowF gg.2.1 91 (karr 256 (kint .u8)) x2.firm, RowF gg.2.2 93 k_disk_write x2.loose])) s14 rfl rfl (of_decide_eq_true rfl) (ob_callL (args := [_]) (L := []) rfl .direct hb12 (List.Perm.refl _) (fun a w s fs gs hf hg => by obtain rfl := hf.unnil; obtain rfl := hg.unnil; exact c_disk_New k _ _ e_x2 _ _ _ (s.arg (.tmp rfl))) (by exact fun _ => rfl)) fun gg15 a15 w15 s15 => ?_; clear s14
      obtain ⟨b1, v1, v2⟩ := gg15
      refine seq_op s15 rfl rfl (of_decide_eq_true rfl) (ob_move rfl (.tmp rfl)) fun a16 w16 s16 => ?_; clear s15
      obtain ⟨x3, e_x3, h6⟩ := bind_some h5; clear h5
      refine seq_opx (B' := (fun gg : Nat × Value × Value × Value => [BF gg.1 52 (ko_cabalref12_Disk_0_1_2 gg.2.1 gg.2.2.1 gg.2.2.2) (⟨[], [], [], x3.Fuse, x3.Dead⟩ : cabalref12_Disk), RowF gg.2.1 9 kstr x3.Firm, RowF gg.2.2.1 3 (kint .i64) x3.At, RowF gg.2.2.2 9 kstr x3.Data, BF b1 87 (ko_disk_Disk_0_1 v1 v2) (⟨[], [], x2.fuse, x2.dead⟩ : disk_Disk), RowF v1 91 (karr 256 (kint .u8)) x2.firm, RowF v2 93 k_disk_write x2.loose])) s16 rfl rfl (of_decide_eq_true rfl) (ob_callL (args := [_]) (L := []) rfl .direct hb19 (List.Perm.refl _) (fun a w s fs gs hf hg => by obtain rfl := hf.unnil; obtain rfl := hg.unnil; exact c_cabalref12_New k _ _ e_x3 _ _ _ (s.arg (.tmp rfl))) (by exact fun _ => rfl)) fun gg17 a17 w17 s17 => ?_; clear s16
      obtain ⟨b2, v3, v4, v5⟩ := gg17
      refine seq_op s17 rfl rfl (of_decide_eq_true rfl) (ob_assign rfl (.tmp rfl)) fun a18 w18 s18 => ?_; clear s17
      refine seq_op s18 rfl rfl (of_decide_eq_true rfl) (ob_assign rfl (.tmp rfl)) fun a19 w19 s19 => ?_; clear s18
      refine wpList_nil ?_
      refine then_normal ?_
      refine hK7 _ _ ?_
      have s20 := s19.sub (.cons (t := 1) rfl (.cons (t := 5) rfl (.cons (t := 6) rfl .nil))); clear s19
      refine wp_seq_k fun K8 hK8 => ?_
      refine wp_seq_k fun K9 hK9 => ?_
      refine wp_region_lit ?_
      refine seq_op s20 rfl rfl (of_decide_eq_true rfl) (ob_assign rfl (opd_int rfl)) fun a21 w21 s21 => ?_; clear s20
      refine wpList_nil ?_
      refine then_normal ?_
      refine hK9 _ _ ?_
      have s22 := s21.sub (.cons (t := 1) rfl (.cons (t := 5) rfl (.cons (t := 6) rfl (.cons (t := 7) rfl .nil)))); clear s21
      have hj2 : ∀ (a : Act) (w : World), (caballaw12_DiskPlays.j2 k) = some r → St ⟨161, w0, ok, []⟩ [] [] a w → K8 a w := by
        intro a23 w23 h7 s23
        unfold caballaw12_DiskPlays.j2 at h7
        refine hK8 _ _ ?_
        refine wp_seq_k fun K10 hK10 => ?_
        refine wp_region_lit ?_
        obtain ⟨x4, e_x4, h8⟩ := bind_some h7; clear h7
        refine seq_op s23 rfl rfl (of_decide_eq_true rfl) (ob_callD (args := []) rfl .direct hb11 (fun a w s fs gs hf hg => by obtain rfl := hf.unnil; obtain rfl := hg.unnil; exact c_caballaw12_alive k _ e_x4 _ _)) fun a24 w24 s24 => ?_; clear s23
        refine seq_op s24 rfl rfl (of_decide_eq_true rfl) (ob_assign rfl (.tmp rfl)) fun a25 w25 s25 => ?_; clear s24
        refine wpList_nil ?_
        refine then_normal ?_
        refine hK10 _ _ ?_
        have s26 := s25.sub (.cons (t := 4) rfl .nil); clear s25
        refine wp_ret ?_
        obtain rfl := Option.some.inj h8
        exact leave s26 (.inl rfl) rfl (.cons (.tmp rfl) .nil)
      refine wp_block ?_
      have s27 := s22.perm (toFront [_, _, _, _] (toFront [] (toFront [_, _, _] (toFront [_, _, _] (toFront [] (toFront [] (toFront [] (List.Perm.refl _)))))))); clear s22
      refine wp_loop_fuel (fun m (q : Int × Int × Bool × Int × Bool × (List (List Int)) × (List disk_write) × (List (List Int)) × (List Int) × (List (List Int))) => caballaw12_DiskPlays.l1 k p2 m q.1 q.2.1 q.2.2.1 q.2.2.2.1 q.2.2.2.2.1 q.2.2.2.2.2.1 q.2.2.2.2.2.2.1 q.2.2.2.2.2.2.2.1 q.2.2.2.2.2.2.2.2.1 q.2.2.2.2.2.2.2.2.2) r (fun _ => rfl) (fun q a w => ∃ (v6 : Value) (v7 : Value) (v8 : Value) (v9 : Value) (v10 : Value), St ⟨161, w0, ok, []⟩ [BF b1 87 (ko_disk_Disk_0_1 v6 v7) (⟨[], [], q.2.1, q.2.2.1⟩ : disk_Disk), BF b2 52 (ko_cabalref12_Disk_0_1_2 v8 v9 v10) (⟨[], [], [], q.2.2.2.1, q.2.2.2.2.1⟩ : cabalref12_Disk), RowF v6 91 (karr 256 (kint .u8)) q.2.2.2.2.2.1, RowF v7 93 k_disk_write q.2.2.2.2.2.2.1, RowF v8 9 kstr q.2.2.2.2.2.2.2.1, RowF v9 3 (kint .i64) q.2.2.2.2.2.2.2.2.1, RowF v10 9 kstr q.2.2.2.2.2.2.2.2.2] [(1, ((ksl k_caballaw12_Act).V p2)), (5, (ptrB b1 0)), (6, (ptrB b2 0)), (7, ((kint .i64).V q.1))] a w) ?_ k ((0 : Int), x2.fuse, x2.dead, x3.Fuse, x3.Dead, x2.firm, x2.loose, x3.Firm, x3.At, x3.Data) _ _ h6 ⟨v1, v2, v3, v4, v5, (s27.sub (.cons rfl (.cons rfl (.cons rfl (.cons rfl .nil)))))⟩
      rintro n1 ⟨y2, y3, y4, y5, y6, y7, y8, y9, y10, y11⟩ a28 w28 h9 ⟨v6, v7, v8, v9, v10, s28⟩ K11 hK11
      replace h9 : caballaw12_DiskPlays.l1 k p2 (n1 + 1) y2 y3 y4 y5 y6 y7 y8 y9 y10 y11 = some r := h9; rw [caballaw12_DiskPlays.l1] at h9
      have h10 := h9; clear h9
      refine wp_seq_k fun K12 hK12 => ?_
      refine wp_seq_k fun K13 hK13 => ?_
      refine wp_region_lit ?_
      refine seq_op s28 rfl rfl (of_decide_eq_true rfl) (ob_move rfl (.tmp rfl)) fun a29 w29 s29 => ?_; clear s28
      refine seq_op s29 rfl rfl (of_decide_eq_true rfl) (ob_move rfl (.tmp rfl)) fun a30 w30 s30 => ?_; clear s29
      refine seq_op s30 rfl rfl (of_decide_eq_true rfl) (ob_lens rfl Try.underlying22 (.tmp rfl)) fun a31 w31 s31 => ?_; clear s30
      refine seq_op s31 rfl rfl (of_decide_eq_true rfl) (ob_lss rfl (.tmp rfl) (.tmp rfl)) fun a32 w32 s32 => ?_; clear s31
      refine seq_op s32 rfl rfl (of_decide_eq_true rfl) (ob_move rfl (.tmp rfl)) fun a33 w33 s33 => ?_; clear s32
      refine seq_opg s33 rfl rfl rfl rfl (of_decide_eq_true rfl) (fun hb => ob_move rfl (.tmp rfl)) fun a34 w34 s34 => ?_; clear s33
      refine seq_opg s34 rfl rfl rfl rfl (of_decide_eq_true rfl) (fun hb => (Ob.uncond (t := 26) hb rfl (ob_lss rfl (.tmp rfl) (opd_int rfl)))) fun a35 w35 s35 => ?_; clear s34
      obtain ⟨x5, e_x5, h11⟩ := bind_some h10; clear h10; replace e_x5 := Option.some.inj e_x5
      refine seq_op s35 rfl rfl (of_decide_eq_true rfl) ((ob_and2 rfl (.tmp rfl) (.tmp rfl) opd_bool).nm e_x5) fun a36 w36 s36 => ?_; clear s35
      refine wpList_nil ?_
      refine then_normal ?_
      refine hK13 _ _ ?_
      have s37 := s36.sub (.cons (t := 1) rfl (.cons (t := 5) rfl (.cons (t := 6) rfl (.cons (t := 7) rfl (.cons (t := 28) rfl .nil))))); clear s36
      refine cond_split s37 (.tmp rfl) (fun hc2 => ?_) (fun hc2 => ?_)
      · replace h11 := ite_t hc2 h11
        have h12 := h11; clear h11
        refine wp_skip ?_
        refine then_normal ?_
        refine hK12 _ _ ?_
        have s38 := s37.sub (.cons (t := 1) rfl (.cons (t := 5) rfl (.cons (t := 6) rfl (.cons (t := 7) rfl .nil)))); clear s37
        refine wp_seq_k fun K14 hK14 => ?_
        have hj3 : ∀ (y12 : Int) (y13 : Bool) (y14 : Int) (y15 : Bool) (y16 : (List (List Int))) (y17 : (List disk_write)) (y18 : (List (List Int))) (y19 : (List Int)) (y20 : (List (List Int))) (v11 : Value) (v12 : Value) (v13 : Value) (v14 : Value) (v15 : Value) (a : Act) (w : World), (caballaw12_DiskPlays.j3 k y2 (caballaw12_DiskPlays.l1 k p2 n1)) y12 y13 y14 y15 y16 y17 y18 y19 y20 = some r → St ⟨161, w0, ok, []⟩ [BF b1 87 (ko_disk_Disk_0_1 v11 v12) (⟨[], [], y12, y13⟩ : disk_Disk), BF b2 52 (ko_cabalref12_Disk_0_1_2 v13 v14 v15) (⟨[], [], [], y14, y15⟩ : cabalref12_Disk), RowF v11 91 (karr 256 (kint .u8)) y16, RowF v12 93 k_disk_write y17, RowF v13 9 kstr y18, RowF v14 3 (kint .i64) y19, RowF v15 9 kstr y20] [(1, ((ksl k_caballaw12_Act).V p2)), (5, (ptrB b1 0)), (6, (ptrB b2 0)), (7, ((kint .i64).V y2))] a w → K14 a w := by
          intro y12 y13 y14 y15 y16 y17 y18 y19 y20 v11 v12 v13 v14 v15 a39 w39 h13 s39
          unfold caballaw12_DiskPlays.j3 at h13
          refine hK14 _ _ ?_
          refine wp_region_lit ?_
          refine seq_op s39 rfl rfl (of_decide_eq_true rfl) (ob_move rfl (.tmp rfl)) fun a40 w40 s40 => ?_; clear s39
          refine seq_op s40 rfl rfl (of_decide_eq_true rfl) (ob_add rfl (.tmp rfl) (opd_int rfl)) fun a41 w41 s41 => ?_; clear s40
          refine seq_op s41 rfl rfl (of_decide_eq_true rfl) (ob_assign rfl (.tmp rfl)) fun a42 w42 s42 => ?_; clear s41
          refine wpList_nil ?_
          refine then_normal ?_
          exact hK11 ((iadd .i64 y2 (1 : Int)), y12, y13, y14, y15, y16, y17, y18, y19, y20) _ _ h13 ⟨v11, v12, v13, v14, v15, (s42.sub (.cons rfl (.cons rfl (.cons rfl (.cons rfl .nil)))))⟩
        refine wp_block ?_
        refine wp_seq_k fun K15 hK15 => ?_
        refine wp_region_lit ?_
        refine seq_op s38 rfl rfl (of_decide_eq_true rfl) (ob_move rfl (.tmp rfl)) fun a43 w43 s43 => ?_; clear s38
        refine seq_op s43 rfl rfl (of_decide_eq_true rfl) (ob_move rfl (.tmp rfl)) fun a44 w44 s44 => ?_; clear s43
        obtain ⟨x6, e_x6, h14⟩ := bind_some h12; clear h12
        refine seq_op s44 rfl rfl (of_decide_eq_true rfl) (ob_indexAddrs rfl Try.underlying22 sz30 (.tmp rfl) (.tmp rfl) e_x6) fun a45 w45 s45 => ?_; clear s44
        refine seq_op s45 rfl rfl (of_decide_eq_true rfl) (ob_loadr rfl tk30 (.tmp rfl)) fun a46 w46 s46 => ?_; clear s45
        refine seq_opx (B' := (fun b3 : Nat => [BF b3 30 k_caballaw12_Act (⟨(0 : Int), (0 : Int), (0 : Int), (0 : Int), (0 : Int), []⟩ : caballaw12_Act), BF b1 87 (ko_disk_Disk_0_1 v6 v7) (⟨[], [], y3, y4⟩ : disk_Disk), BF b2 52 (ko_cabalref12_Disk_0_1_2 v8 v9 v10) (⟨[], [], [], y5, y6⟩ : cabalref12_Disk), RowF v6 91 (karr 256 (kint .u8)) y7, RowF v7 93 k_disk_write y8, RowF v8 9 kstr y9, RowF v9 3 (kint .i64) y10, RowF v10 9 kstr y11])) s46 rfl rfl (of_decide_eq_true rfl) (ob_new (k := k_caballaw12_Act) rfl zz30 (Zr.iso (f := t_caballaw12_Act) (x := (⟨(0 : Int), (0 : Int), (0 : Int), (0 : Int), (0 : Int), []⟩ : caballaw12_Act)) (Zr.pair (Zr.int .i64) (Zr.pair (Zr.int .i64) (Zr.pair (Zr.int .i64) (Zr.pair (Zr.int .u8) (Zr.pair (Zr.int .i8) (Zr.pair (Zr.sl _) Zr.nil)))))))) fun b3 a47 w47 s47 => ?_; clear s46
        refine seq_opx0 (B' := (fun _ : Unit => [BF b3 30 k_caballaw12_Act x6, BF b1 87 (ko_disk_Disk_0_1 v6 v7) (⟨[], [], y3, y4⟩ : disk_Disk), BF b2 52 (ko_cabalref12_Disk_0_1_2 v8 v9 v10) (⟨[], [], [], y5, y6⟩ : cabalref12_Disk), RowF v6 91 (karr 256 (kint .u8)) y7, RowF v7 93 k_disk_write y8, RowF v8 9 kstr y9, RowF v9 3 (kint .i64) y10, RowF v10 9 kstr y11])) s47 rfl rfl (ob_store (A := []) rfl tk30 (.tmp rfl) (.tmp rfl) rfl (LS.refl _ _ _) rfl) fun _ a48 w48 s48 => ?_; clear s47
        refine wpList_nil ?_
        refine then_normal ?_
        refine hK15 _ _ ?_
        have s49 := s48.sub (.cons (t := 1) rfl (.cons (t := 5) rfl (.cons (t := 6) rfl (.cons (t := 7) rfl (.cons (t := 8) rfl .nil))))); clear s48
        refine wp_seq_k fun K16 hK16 => ?_
        refine wp_region_lit ?_
        refine seq_op s49 rfl rfl (of_decide_eq_true rfl) (ob_assign rfl opd_bool) fun a50 w50 s50 => ?_; clear s49
        refine wpList_nil ?_
        refine then_normal ?_
        refine hK16 _ _ ?_
        have s51 := s50.sub (.cons (t := 1) rfl (.cons (t := 5) rfl (.cons (t := 6) rfl (.cons (t := 7) rfl (.cons (t := 8) rfl (.cons (t := 9) rfl .nil)))))); clear s50
        refine wp_seq_k fun K17 hK17 => ?_
        refine wp_seq_k fun K18 hK18 => ?_
        refine wp_region_lit ?_
        refine seq_op s51 rfl rfl (of_decide_eq_true rfl) (ob_fieldAddr (off' := 0) rfl Try.underlying30 rfl sz3 (by decide) (.tmp rfl) rfl) fun a52 w52 s52 => ?_; clear s51
        refine seq_op s52 rfl rfl (of_decide_eq_true rfl) (ob_load rfl tk3 (.tmp rfl) (.head _) (lg_caballaw12_Act_Kind x6)) fun a53 w53 s53 => ?_; clear s52
        refine seq_op s53 rfl rfl (of_decide_eq_true rfl) (ob_rem rfl (.tmp rfl) (opd_int rfl) (by decide)) fun a54 w54 s54 => ?_; clear s53
        refine wpList_nil ?_
        refine then_normal ?_
        refine hK18 _ _ ?_
        have s55 := s54.sub (.cons (t := 1) rfl (.cons (t := 5) rfl (.cons (t := 6) rfl (.cons (t := 7) rfl (.cons (t := 8) rfl (.cons (t := 9) rfl (.cons (t := 37) rfl .nil))))))); clear s54
        have hj4 : ∀ (y21 : Bool) (y22 : Int) (y23 : Bool) (y24 : Int) (y25 : Bool) (y26 : (List (List Int))) (y27 : (List disk_write)) (y28 : (List (List Int))) (y29 : (List Int)) (y30 : (List (List Int))) (v11 : Value) (v12 : Value) (v13 : Value) (v14 : Value) (v15 : Value) (a : Act) (w : World), (caballaw12_DiskPlays.j4 k y2 (caballaw12_DiskPlays.l1 k p2 n1)) y21 y22 y23 y24 y25 y26 y27 y28 y29 y30 = some r → St ⟨161, w0, ok, []⟩ [BF b1 87 (ko_disk_Disk_0_1 v11 v12) (⟨[], [], y22, y23⟩ : disk_Disk), BF b2 52 (ko_cabalref12_Disk_0_1_2 v13 v14 v15) (⟨[], [], [], y24, y25⟩ : cabalref12_Disk), RowF v11 91 (karr 256 (kint .u8)) y26, RowF v12 93 k_disk_write y27, RowF v13 9 kstr y28, RowF v14 3 (kint .i64) y29, RowF v15 9 kstr y30] [(1, ((ksl k_caballaw12_Act).V p2)), (5, (ptrB b1 0)), (6, (ptrB b2 0)), (7, ((kint .i64).V y2)), (9, (kbool.V y21))] a w → K17 a w := by
          intro y21 y22 y23 y24 y25 y26 y27 y28 y29 y30 v11 v12 v13 v14 v15 a56 w56 h15 s56
          unfold caballaw12_DiskPlays.j4 at h15
          refine hK17 _ _ ?_
          refine wp_seq_k fun K19 hK19 => ?_
          refine wp_seq_k fun K20 hK20 => ?_
          obtain ⟨x7, e_x7, h16⟩ := bind_some h15; clear h15
          obtain ⟨x8, e_x8, h17⟩ := bind_some h16; clear h16
          refine wp_goes (Fs := [(kbool.V y21), (kbool.V (!y21)), (kbool.V (!y21)), (Fact.when ((!y21) == false) (ptrB b1 0)), (Fact.when ((!y21) == false) (kbool.V x7)), (Fact.when ((!y21) == false) (ptrB b2 0)), (Fact.when ((!y21) == false) (ptrB b2 0)), (Fact.when ((!y21) == false) (ptrB b2 4)), (Fact.when ((!y21) == false) (kbool.V y25)), (Fact.when ((!y21) == false) (kbool.V (!decide (x7 = y25)))), (kbool.V (if (!y21) then true else (!decide (x7 = y25)))), (kbool.V (if (!y21) then true else (!decide (x7 = y25)))), (Fact.when ((if (!y21) then true else (!decide (x7 = y25))) == false) (ptrB b1 0)), (Fact.when ((if (!y21) then true else (!decide (x7 = y25))) == false) ((kint .i64).V x8)), (Fact.when ((if (!y21) then true else (!decide (x7 = y25))) == false) (ptrB b2 0)), (Fact.when ((if (!y21) then true else (!decide (x7 = y25))) == false) (ptrB b2 0)), (Fact.when ((if (!y21) then true else (!decide (x7 = y25))) == false) (ptrB b2 0)), (Fact.when ((if (!y21) then true else (!decide (x7 = y25))) == false) (is v13)), (Fact.when ((if (!y21) then true else (!decide (x7 = y25))) == false) ((kint .i64).V (y28.length : Int)))]) (bits := [0, 1, 3, 7, 15, 7, 39, 103, 231, 511, 1023, 2047, 4095, 8191, 4095, 20479, 53247, 118783, 249855, 524287, 1048575]) (m := 19) (todo := 0) mx s56 ?_; clear s56
          refine goes_last (by kernel_rfl) rfl (opsS_cons (.plain _ (Av.old (t := 9) rfl rfl Av.nil) rfl rfl (ob_move rfl (.tmp rfl))) (opsS_cons (.plain _ (Av.new (j := 0) rfl rfl rfl Av.nil) rfl rfl (ob_not rfl (.tmp rfl))) (opsS_cons (.plain _ (Av.new (j := 1) rfl rfl rfl Av.nil) rfl rfl (ob_move rfl (.tmp rfl))) (opsS_cons (.guarded _ (Av.old (t := 5) rfl rfl (Av.new (j := 2) rfl rfl rfl Av.nil)) rfl rfl rfl rfl (fun hb => ob_move rfl (.tmp rfl))) (opsS_cons (.guarded _ (Av.new (j := 2) rfl rfl rfl (Av.new (j := 3) rfl rfl rfl Av.nil)) rfl rfl rfl rfl (fun hb => (Ob.uncond (t := 89) hb rfl ((ob_lendG (L := [_, _, _]) (toFront [] (toFront [_] (toFront [_] (List.Perm.refl _)))) (.cons (t := 89) rfl (lendObj (K' := k_disk_Disk) (X' := (⟨y26, y27, y22, y23⟩ : disk_Disk)) (.head _) rfl (upo_disk_Disk_0_1 rfl (.row (LetAll.row (.tail _ (.head _)))) (.row (LetAll.row (.tail _ (.tail _ (.head _))))))) .nil) (Flat.res1 (Flat.V KFlat.bool)) (fun _ => ob_callD (args := [_]) rfl .direct hb25 (fun a w s fs gs hf hg => by obtain rfl := hf.unnil; obtain rfl := hg.unnil; exact c_disk_Disk_Dead k _ _ (ite_t hb e_x7) _ _ _ (s.arg (.tmp rfl))))))))) (opsS_cons (.guarded _ (Av.old (t := 6) rfl rfl (Av.new (j := 2) rfl rfl rfl Av.nil)) rfl rfl rfl rfl (fun hb => ob_move rfl (.tmp rfl))) (opsS_cons (.guarded _ (Av.new (j := 2) rfl rfl rfl (Av.new (j := 5) rfl rfl rfl Av.nil)) rfl rfl rfl rfl (fun hb => (Ob.uncond (t := 91) hb rfl (ob_nilCheck rfl (.tmp rfl))))) (opsS_cons (.guarded _ (Av.new (j := 2) rfl rfl rfl (Av.new (j := 6) rfl rfl rfl Av.nil)) rfl rfl rfl rfl (fun hb => (Ob.uncond (t := 92) hb rfl (ob_fieldAddr (off' := 4) rfl Try.underlying52 rfl sz4 (by decide) (.tmp rfl) rfl)))) (opsS_cons (.guarded _ (Av.new (j := 2) rfl rfl rfl (Av.new (j := 7) rfl rfl rfl Av.nil)) rfl rfl rfl rfl (fun hb => (Ob.uncond (t := 93) hb rfl (ob_load rfl tk4 (.tmp rfl) (.tail _ (.head _)) (lgo_cabalref12_Disk_0_1_2_Dead (⟨[], [], [], y24, y25⟩ : cabalref12_Disk)))))) (opsS_cons (.guarded _ (Av.new (j := 2) rfl rfl rfl (Av.new (j := 4) rfl rfl rfl (Av.new (j := 8) rfl rfl rfl Av.nil))) rfl rfl rfl rfl (fun hb => (Ob.uncond (t := 94) hb rfl ((Ob.uncond (t := 90) hb rfl (ob_bneq rfl Try.underlying4 (.tmp rfl) (.tmp rfl))))))) (opsS_cons (.plain _ (Av.new (j := 2) rfl rfl rfl (Av.new (j := 9) rfl rfl rfl Av.nil)) rfl rfl (ob_or2 rfl (.tmp rfl) opd_bool (.tmp rfl))) (opsS_cons (.plain _ (Av.new (j := 10) rfl rfl rfl Av.nil) rfl rfl (ob_move rfl (.tmp rfl))) (opsS_cons (.guarded _ (Av.old (t := 5) rfl rfl (Av.new (j := 11) rfl rfl rfl Av.nil)) rfl rfl rfl rfl (fun hb => ob_move rfl (.tmp rfl))) (opsS_cons (.guarded _ (Av.new (j := 11) rfl rfl rfl (Av.new (j := 12) rfl rfl rfl Av.nil)) rfl rfl rfl rfl (fun hb => (Ob.uncond (t := 98) hb rfl ((ob_lendG (L := [_, _, _]) (toFront [] (toFront [_] (toFront [_] (List.Perm.refl _)))) (.cons (t := 98) rfl (lendObj (K' := k_disk_Disk) (X' := (⟨y26, y27, y22, y23⟩ : disk_Disk)) (.head _) rfl (upo_disk_Disk_0_1 rfl (.row (LetAll.row (.tail _ (.head _)))) (.row (LetAll.row (.tail _ (.tail _ (.head _))))))) .nil) (Flat.res1 (Flat.V (KFlat.int _))) (fun _ => ob_callD (args := [_]) rfl .direct hb26 (fun a w s fs gs hf hg => by obtain rfl := hf.unnil; obtain rfl := hg.unnil; exact c_disk_Disk_Blocks k _ _ (ite_t hb e_x8) _ _ _ (s.arg (.tmp rfl))))))))) (opsS_cons (.guarded _ (Av.old (t := 6) rfl rfl (Av.new (j := 11) rfl rfl rfl Av.nil)) rfl rfl rfl rfl (fun hb => ob_move rfl (.tmp rfl))) (opsS_cons (.guarded _ (Av.new (j := 11) rfl rfl rfl (Av.new (j := 14) rfl rfl rfl Av.nil)) rfl rfl rfl rfl (fun hb => (Ob.uncond (t := 100) hb rfl (ob_nilCheck rfl (.tmp rfl))))) (opsS_cons (.guarded _ (Av.new (j := 11) rfl rfl rfl (Av.new (j := 15) rfl rfl rfl Av.nil)) rfl rfl rfl rfl (fun hb => (Ob.uncond (t := 101) hb rfl (ob_fieldAddr (off' := 0) rfl Try.underlying52 rfl sz49 (by decide) (.tmp rfl) rfl)))) (opsS_cons (.guarded _ (Av.new (j := 11) rfl rfl rfl (Av.new (j := 16) rfl rfl rfl Av.nil)) rfl rfl rfl rfl (fun hb => (Ob.uncond (t := 102) hb rfl (ob_loadRowV rfl (tkr49 _) (.tmp rfl) (.tail _ (.head _)) (lgo_cabalref12_Disk_0_1_2_Firm (⟨[], [], [], y24, y25⟩ : cabalref12_Disk)))))) (opsS_cons (.guarded _ (Av.new (j := 11) rfl rfl rfl (Av.new (j := 17) rfl rfl rfl Av.nil)) rfl rfl rfl rfl (fun hb => (Ob.uncond (t := 103) hb rfl (ob_lenRow rfl Try.underlying49 (.tmp rfl) (.tail _ (.tail _ (.tail _ (.tail _ (.head _))))))))) opsS_nil))))))))))))))))))) (out_old (t := 1) rfl rfl (out_old (t := 5) rfl rfl (out_old (t := 6) rfl rfl (out_old (t := 7) rfl rfl (out_new (i := 11) (by decide) rfl rfl (out_new (i := 13) (by decide) rfl rfl (out_new (i := 18) (by decide) rfl rfl out_nil))))))) fun a57 w57 s57 => ?_
          refine seq_opg s57 rfl rfl rfl rfl (of_decide_eq_true rfl) (fun hb => (Ob.uncond (t := 104) hb rfl ((Ob.uncond (t := 99) hb rfl (ob_neq rfl (.tmp rfl) (.tmp rfl)))))) fun a58 w58 s58 => ?_; clear s57
          obtain ⟨x9, e_x9, h18⟩ := bind_some h17; clear h17; replace e_x9 := Option.some.inj e_x9
          refine seq_op s58 rfl rfl (of_decide_eq_true rfl) ((ob_or2 rfl (.tmp rfl) opd_bool (.tmp rfl)).nm e_x9) fun a59 w59 s59 => ?_; clear s58
          refine wpList_nil ?_
          refine then_normal ?_
          refine hK20 _ _ ?_
          have s60 := s59.sub (.cons (t := 1) rfl (.cons (t := 5) rfl (.cons (t := 6) rfl (.cons (t := 7) rfl (.cons (t := 106) rfl .nil))))); clear s59
          refine cond_split s60 (.tmp rfl) (fun hc3 => ?_) (fun hc3 => ?_)
          · replace h18 := ite_t hc3 h18
            have h19 := h18; clear h18
            refine wp_seq_k fun K21 hK21 => ?_
            refine wp_region_lit ?_
            refine seq_op s60 rfl rfl (of_decide_eq_true rfl) (ob_assign rfl opd_bool) fun a61 w61 s61 => ?_; clear s60
            refine wpList_nil ?_
            refine then_normal ?_
            refine hK21 _ _ ?_
            have s62 := s61.sub (.cons (t := 4) rfl .nil); clear s61
            have s63 := St.drop (A := []) s62; clear s62
            have s64 := St.drop (A := []) s63; clear s63
            have s65 := St.drop (A := []) s64; clear s64
            have s66 := St.drop (A := []) s65; clear s65
            have s67 := St.drop (A := []) s66; clear s66
            have s68 := St.drop (A := []) s67; clear s67
            have s69 := St.drop (A := []) s68; clear s68
            refine wp_ret ?_
            obtain rfl := Option.some.inj h19
            exact leave s69 (.inl rfl) rfl (.cons (.tmp rfl) .nil)
          · replace h18 := ite_f hc3 h18
            have h20 := h18; clear h18
            refine wp_skip ?_
            refine then_normal ?_
            refine hK19 _ _ ?_
            have s70 := s60.sub (.cons (t := 1) rfl (.cons (t := 5) rfl (.cons (t := 6) rfl (.cons (t := 7) rfl .nil)))); clear s60
            refine wp_seq_k fun K22 hK22 => ?_
            refine wp_region_lit ?_
            refine seq_op s70 rfl rfl (of_decide_eq_true rfl) (ob_assign rfl (opd_int rfl)) fun a71 w71 s71 => ?_; clear s70
            refine wpList_nil ?_
            refine then_normal ?_
            refine hK22 _ _ ?_
            have s72 := s71.sub (.cons (t := 1) rfl (.cons (t := 5) rfl (.cons (t := 6) rfl (.cons (t := 7) rfl (.cons (t := 10) rfl .nil))))); clear s71
            refine wp_block ?_
            refine wp_loop_fuel (fun m (q : Int) => caballaw12_DiskPlays.l2 k y28 y26 y27 y22 y23 y29 y30 y24 y25 y2 (caballaw12_DiskPlays.l1 k p2 n1) m q) r (fun _ => rfl) (fun q a w => St ⟨161, w0, ok, []⟩ [BF b1 87 (ko_disk_Disk_0_1 v11 v12) (⟨[], [], y22, y23⟩ : disk_Disk), BF b2 52 (ko_cabalref12_Disk_0_1_2 v13 v14 v15) (⟨[], [], [], y24, y25⟩ : cabalref12_Disk), RowF v11 91 (karr 256 (kint .u8)) y26, RowF v12 93 k_disk_write y27, RowF v13 9 kstr y28, RowF v14 3 (kint .i64) y29, RowF v15 9 kstr y30] [(1, ((ksl k_caballaw12_Act).V p2)), (5, (ptrB b1 0)), (6, (ptrB b2 0)), (7, ((kint .i64).V y2)), (10, ((kint .i64).V q))] a w) ?_ k (-1 : Int) _ _ h20 (s72.sub (.cons rfl (.cons rfl (.cons rfl (.cons rfl (.cons rfl .nil))))))
            rintro n2 y31 a73 w73 h21 s73 K23 hK23
            replace h21 : caballaw12_DiskPlays.l2 k y28 y26 y27 y22 y23 y29 y30 y24 y25 y2 (caballaw12_DiskPlays.l1 k p2 n1) (n2 + 1) y31 = some r := h21; rw [caballaw12_DiskPlays.l2] at h21
            have h22 := h21; clear h21
            refine wp_seq_k fun K24 hK24 => ?_
            refine wp_seq_k fun K25 hK25 => ?_
            refine wp_region_lit ?_
            refine seq_op s73 rfl rfl (of_decide_eq_true rfl) (ob_move rfl (.tmp rfl)) fun a74 w74 s74 => ?_; clear s73
            refine seq_op s74 rfl rfl (of_decide_eq_true rfl) (ob_move rfl (.tmp rfl)) fun a75 w75 s75 => ?_; clear s74
            refine seq_op s75 rfl rfl (of_decide_eq_true rfl) (ob_nilCheck rfl (.tmp rfl)) fun a76 w76 s76 => ?_; clear s75
            refine seq_op s76 rfl rfl (of_decide_eq_true rfl) (ob_fieldAddr (off' := 0) rfl Try.underlying52 rfl sz49 (by decide) (.tmp rfl) rfl) fun a77 w77 s77 => ?_; clear s76
            refine seq_op s77 rfl rfl (of_decide_eq_true rfl) (ob_loadRowV rfl (tkr49 _) (.tmp rfl) (.tail _ (.head _)) (lgo_cabalref12_Disk_0_1_2_Firm (⟨[], [], [], y24, y25⟩ : cabalref12_Disk))) fun a78 w78 s78 => ?_; clear s77
            refine seq_op s78 rfl rfl (of_decide_eq_true rfl) (ob_lenRow rfl Try.underlying49 (.tmp rfl) (.tail _ (.tail _ (.tail _ (.tail _ (.head _)))))) fun a79 w79 s79 => ?_; clear s78
            refine seq_op s79 rfl rfl (of_decide_eq_true rfl) (ob_leq rfl (.tmp rfl) (.tmp rfl)) fun a80 w80 s80 => ?_; clear s79
            refine wpList_nil ?_
            refine then_normal ?_
            refine hK25 _ _ ?_
            have s81 := s80.sub (.cons (t := 1) rfl (.cons (t := 5) rfl (.cons (t := 6) rfl (.cons (t := 7) rfl (.cons (t := 10) rfl (.cons (t := 113) rfl .nil)))))); clear s80
            refine cond_split s81 (.tmp rfl) (fun hc4 => ?_) (fun hc4 => ?_)
            · replace h22 := ite_t hc4 h22
              have h23 := h22; clear h22
              refine wp_skip ?_
              refine then_normal ?_
              refine hK24 _ _ ?_
              have s82 := s81.sub (.cons (t := 1) rfl (.cons (t := 5) rfl (.cons (t := 6) rfl (.cons (t := 7) rfl (.cons (t := 10) rfl .nil))))); clear s81
              refine wp_seq_k fun K26 hK26 => ?_
              have hj5 : ∀ (a : Act) (w : World), (caballaw12_DiskPlays.j5 k y31 (caballaw12_DiskPlays.l2 k y28 y26 y27 y22 y23 y29 y30 y24 y25 y2 (caballaw12_DiskPlays.l1 k p2 n1) n2)) = some r → St ⟨161, w0, ok, []⟩ [BF b1 87 (ko_disk_Disk_0_1 v11 v12) (⟨[], [], y22, y23⟩ : disk_Disk), BF b2 52 (ko_cabalref12_Disk_0_1_2 v13 v14 v15) (⟨[], [], [], y24, y25⟩ : cabalref12_Disk), RowF v11 91 (karr 256 (kint .u8)) y26, RowF v12 93 k_disk_write y27, RowF v13 9 kstr y28, RowF v14 3 (kint .i64) y29, RowF v15 9 kstr y30] [(1, ((ksl k_caballaw12_Act).V p2)), (5, (ptrB b1 0)), (6, (ptrB b2 0)), (7, ((kint .i64).V y2)), (10, ((kint .i64).V y31))] a w → K26 a w := by
                intro a83 w83 h24 s83
                unfold caballaw12_DiskPlays.j5 at h24
                refine hK26 _ _ ?_
                refine wp_region_lit ?_
                refine seq_op s83 rfl rfl (of_decide_eq_true rfl) (ob_move rfl (.tmp rfl)) fun a84 w84 s84 => ?_; clear s83
                refine seq_op s84 rfl rfl (of_decide_eq_true rfl) (ob_add rfl (.tmp rfl) (opd_int rfl)) fun a85 w85 s85 => ?_; clear s84
                refine seq_op s85 rfl rfl (of_decide_eq_true rfl) (ob_assign rfl (.tmp rfl)) fun a86 w86 s86 => ?_; clear s85
                refine wpList_nil ?_
                refine then_normal ?_
                exact hK23 (iadd .i64 y31 (1 : Int)) _ _ h24 (s86.sub (.cons rfl (.cons rfl (.cons rfl (.cons rfl (.cons rfl .nil))))))
              refine wp_block ?_
              refine wp_seq_k fun K27 hK27 => ?_
              refine wp_region_lit ?_
              refine seq_op s82 rfl rfl (of_decide_eq_true rfl) (ob_move rfl (.tmp rfl)) fun a87 w87 s87 => ?_; clear s82
              refine seq_op s87 rfl rfl (of_decide_eq_true rfl) (ob_move rfl (.tmp rfl)) fun a88 w88 s88 => ?_; clear s87
              obtain ⟨x10, e_x10, h25⟩ := bind_some h23; clear h23
              refine seq_op s88 rfl rfl (of_decide_eq_true rfl) ((ob_lendG (L := [_, _, _]) (toFront [] (toFront [_] (toFront [_] (List.Perm.refl _)))) (.cons (t := 117) rfl (lendObj (K' := k_disk_Disk) (X' := (⟨y26, y27, y22, y23⟩ : disk_Disk)) (.head _) rfl (upo_disk_Disk_0_1 rfl (.row (LetAll.row (.tail _ (.head _)))) (.row (LetAll.row (.tail _ (.tail _ (.head _))))))) .nil) (Flat.res2 (Flat.V KFlat.str) (Flat.V (KFlat.int _))) (fun _ => ob_callD (args := [_, _]) rfl .direct hb14 (fun a w s fs gs hf hg => by obtain rfl := hf.unnil; obtain rfl := hg.unnil; exact c_disk_Disk_Read k _ _ _ e_x10 _ _ _ _ (s.arg (.tmp rfl)) (s.arg (.tmp rfl)))))) fun a89 w89 s89 => ?_; clear s88
              refine seq_op s89 rfl rfl (of_decide_eq_true rfl) (ob_move rfl (.tmp rfl)) fun a90 w90 s90 => ?_; clear s89
              refine seq_op s90 rfl rfl (of_decide_eq_true rfl) (ob_extract rfl (.tmp rfl) rfl) fun a91 w91 s91 => ?_; clear s90
              refine seq_op s91 rfl rfl (of_decide_eq_true rfl) (ob_extract rfl (.tmp rfl) rfl) fun a92 w92 s92 => ?_; clear s91
              refine seq_op s92 rfl rfl (of_decide_eq_true rfl) (ob_assign rfl (.tmp rfl)) fun a93 w93 s93 => ?_; clear s92
              refine seq_op s93 rfl rfl (of_decide_eq_true rfl) (ob_assign rfl (.tmp rfl)) fun a94 w94 s94 => ?_; clear s93
              refine wpList_nil ?_
              refine then_normal ?_
              refine hK27 _ _ ?_
              have s95 := s94.sub (.cons (t := 1) rfl (.cons (t := 5) rfl (.cons (t := 6) rfl (.cons (t := 7) rfl (.cons (t := 10) rfl (.cons (t := 11) rfl (.cons (t := 12) rfl .nil))))))); clear s94
              refine wp_seq_k fun K28 hK28 => ?_
              refine wp_seq_k fun K29 hK29 => ?_
              refine wp_region_lit ?_
              refine seq_op s95 rfl rfl (of_decide_eq_true rfl) (ob_move rfl (.tmp rfl)) fun a96 w96 s96 => ?_; clear s95
              refine seq_op s96 rfl rfl (of_decide_eq_true rfl) (ob_move rfl (.tmp rfl)) fun a97 w97 s97 => ?_; clear s96
              obtain ⟨x11, e_x11, h26⟩ := bind_some h25; clear h25
              refine seq_op s97 rfl rfl (of_decide_eq_true rfl) ((ob_lendG (L := [_, _, _, _]) (toFront [_] (toFront [_, _, _] (toFront [_, _, _] (toFront [_, _, _] (List.Perm.refl _))))) (.cons (t := 122) rfl (lendObj (K' := k_cabalref12_Disk) (X' := (⟨y28, y29, y30, y24, y25⟩ : cabalref12_Disk)) (.head _) rfl (upo_cabalref12_Disk_0_1_2 rfl (.row (LetAll.row (.tail _ (.head _)))) (.row (LetAll.row (.tail _ (.tail _ (.head _))))) (.row (LetAll.row (.tail _ (.tail _ (.tail _ (.head _)))))))) .nil) (Flat.res1 (Flat.V KFlat.bool)) (fun _ => ob_callD (args := [_, _]) rfl .direct hb27 (fun a w s fs gs hf hg => by obtain rfl := hf.unnil; obtain rfl := hg.unnil; exact c_cabalref12_Disk_Has k _ _ _ e_x11 _ _ _ _ (s.arg (.tmp rfl)) (s.arg (.tmp rfl)))))) fun a98 w98 s98 => ?_; clear s97
              refine seq_op s98 rfl rfl (of_decide_eq_true rfl) (ob_not rfl (.tmp rfl)) fun a99 w99 s99 => ?_; clear s98
              refine wpList_nil ?_
              refine then_normal ?_
              refine hK29 _ _ ?_
              have s100 := s99.sub (.cons (t := 1) rfl (.cons (t := 5) rfl (.cons (t := 6) rfl (.cons (t := 7) rfl (.cons (t := 10) rfl (.cons (t := 11) rfl (.cons (t := 12) rfl (.cons (t := 125) rfl .nil)))))))); clear s99
              refine cond_split s100 (.tmp rfl) (fun hc5 => ?_) (fun hc5 => ?_)
              · replace h26 := ite_t hc5 h26
                have h27 := h26; clear h26
                refine wp_seq_k fun K30 hK30 => ?_
                refine wp_seq_k fun K31 hK31 => ?_
                refine wp_region_lit ?_
                refine seq_op s100 rfl rfl (of_decide_eq_true rfl) (ob_move rfl (.tmp rfl)) fun a101 w101 s101 => ?_; clear s100
                refine seq_op s101 rfl rfl (of_decide_eq_true rfl) (ob_sneq rfl (.tmp rfl) (opd_str (by rfl) (by decide))) fun a102 w102 s102 => ?_; clear s101
                refine seq_op s102 rfl rfl (of_decide_eq_true rfl) (ob_move rfl (.tmp rfl)) fun a103 w103 s103 => ?_; clear s102
                refine seq_opg s103 rfl rfl rfl rfl (of_decide_eq_true rfl) (fun hb => ob_move rfl (.tmp rfl)) fun a104 w104 s104 => ?_; clear s103
                refine seq_opg s104 rfl rfl rfl rfl (of_decide_eq_true rfl) (fun hb => (Ob.uncond (t := 129) hb rfl (ob_neq rfl (.tmp rfl) (opd_int rfl)))) fun a105 w105 s105 => ?_; clear s104
                obtain ⟨x12, e_x12, h28⟩ := bind_some h27; clear h27; replace e_x12 := Option.some.inj e_x12
                refine seq_op s105 rfl rfl (of_decide_eq_true rfl) ((ob_or2 rfl (.tmp rfl) opd_bool (.tmp rfl)).nm e_x12) fun a106 w106 s106 => ?_; clear s105
                refine seq_op s106 rfl rfl (of_decide_eq_true rfl) (ob_move rfl (.tmp rfl)) fun a107 w107 s107 => ?_; clear s106
                refine seq_opg s107 rfl rfl rfl rfl (of_decide_eq_true rfl) (fun hb => ob_move rfl (.tmp rfl)) fun a108 w108 s108 => ?_; clear s107
                refine seq_opg s108 rfl rfl rfl rfl (of_decide_eq_true rfl) (fun hb => ob_move rfl (.tmp rfl)) fun a109 w109 s109 => ?_; clear s108
                obtain ⟨x13, e_x13, h29⟩ := bind_some h28; clear h28
                refine seq_opg s109 rfl rfl rfl rfl (of_decide_eq_true rfl) (fun hb => (Ob.uncond (t := 134) hb rfl ((Ob.uncond (t := 133) hb rfl ((ob_lendG (L := [_, _, _]) (toFront [] (toFront [_] (toFront [_] (List.Perm.refl _)))) (.cons (t := 133) rfl (lendObj (K' := k_disk_Disk) (X' := (⟨y26, y27, y22, y23⟩ : disk_Disk)) (.head _) rfl (upo_disk_Disk_0_1 rfl (.row (LetAll.row (.tail _ (.head _)))) (.row (LetAll.row (.tail _ (.tail _ (.head _))))))) .nil) (Flat.res1 (Flat.V KFlat.str)) (fun _ => ob_callD (args := [_, _]) rfl .direct hb18 (fun a w s fs gs hf hg => by obtain rfl := hf.unnil; obtain rfl := hg.unnil; exact c_disk_Disk_Settled k _ _ _ (ite_t hb e_x13) _ _ _ _ (s.arg (.tmp rfl)) (s.arg (.tmp rfl)))))))))) fun a110 w110 s110 => ?_; clear s109
                refine seq_opg s110 rfl rfl rfl rfl (of_decide_eq_true rfl) (fun hb => (Ob.uncond (t := 135) hb rfl (ob_sneq rfl (.tmp rfl) (opd_str (by rfl) (by decide))))) fun a111 w111 s111 => ?_; clear s110
                refine seq_op s111 rfl rfl (of_decide_eq_true rfl) (ob_or2 rfl (.tmp rfl) opd_bool (.tmp rfl)) fun a112 w112 s112 => ?_; clear s111
                refine wpList_nil ?_
                refine then_normal ?_
                refine hK31 _ _ ?_
                have s113 := s112.sub (.cons (t := 1) rfl (.cons (t := 5) rfl (.cons (t := 6) rfl (.cons (t := 7) rfl (.cons (t := 10) rfl (.cons (t := 137) rfl .nil)))))); clear s112
                refine cond_split s113 (.tmp rfl) (fun hc6 => ?_) (fun hc6 => ?_)
                · replace h29 := ite_t hc6 h29
                  have h30 := h29; clear h29
                  refine wp_seq_k fun K32 hK32 => ?_
                  refine wp_region_lit ?_
                  refine seq_op s113 rfl rfl (of_decide_eq_true rfl) (ob_assign rfl opd_bool) fun a114 w114 s114 => ?_; clear s113
                  refine wpList_nil ?_
                  refine then_normal ?_
                  refine hK32 _ _ ?_
                  have s115 := s114.sub (.cons (t := 4) rfl .nil); clear s114
                  have s116 := St.drop (A := []) s115; clear s115
                  have s117 := St.drop (A := []) s116; clear s116
                  have s118 := St.drop (A := []) s117; clear s117
                  have s119 := St.drop (A := []) s118; clear s118
                  have s120 := St.drop (A := []) s119; clear s119
                  have s121 := St.drop (A := []) s120; clear s120
                  have s122 := St.drop (A := []) s121; clear s121
                  refine wp_ret ?_
                  obtain rfl := Option.some.inj h30
                  exact leave s122 (.inl rfl) rfl (.cons (.tmp rfl) .nil)
                · replace h29 := ite_f hc6 h29
                  have h31 := h29; clear h29
                  refine wp_skip ?_
                  refine then_normal ?_
                  refine hK30 _ _ ?_
                  have s123 := s113.sub (.cons (t := 1) rfl (.cons (t := 5) rfl (.cons (t := 6) rfl (.cons (t := 7) rfl (.cons (t := 10) rfl (.cons (t := 137) rfl .nil)))))); clear s113
                  refine wp_exit ?_
                  refine (then_exit (in_here ?_))
                  refine then_normal ?_
                  exact hj5 _ _ h31 (s123.sub (.cons rfl (.cons rfl (.cons rfl (.cons rfl (.cons rfl .nil))))))
              · replace h26 := ite_f hc5 h26
                have h32 := h26; clear h26
                refine wp_skip ?_
                refine then_normal ?_
                refine hK28 _ _ ?_
                have s124 := s100.sub (.cons (t := 1) rfl (.cons (t := 5) rfl (.cons (t := 6) rfl (.cons (t := 7) rfl (.cons (t := 10) rfl (.cons (t := 11) rfl (.cons (t := 12) rfl .nil))))))); clear s100
                refine wp_seq_k fun K33 hK33 => ?_
                obtain ⟨x14, e_x14, h33⟩ := bind_some h32; clear h32
                obtain ⟨x15, e_x15, h34⟩ := bind_some h33; clear h33
                obtain ⟨g1, h35⟩ := guard_some h34; clear h34
                obtain ⟨x16, e_x16, h36⟩ := bind_some h35; clear h35
                refine wp_goes (Fs := [((kint .i64).V x10.2), (kbool.V (x10.2 != (0 : Int))), (kbool.V (x10.2 != (0 : Int))), (Fact.when ((x10.2 != (0 : Int)) == false) (kstr.V x10.1)), (Fact.when ((x10.2 != (0 : Int)) == false) (ptrB b2 0)), (Fact.when ((x10.2 != (0 : Int)) == false) ((kint .i64).V y31)), (Fact.when ((x10.2 != (0 : Int)) == false) (kstr.V x14)), (Fact.when ((x10.2 != (0 : Int)) == false) (kbool.V (!decide (x10.1 = x14)))), (kbool.V (if (x10.2 != (0 : Int)) then true else (!decide (x10.1 = x14)))), (kbool.V (if (x10.2 != (0 : Int)) then true else (!decide (x10.1 = x14)))), (Fact.when ((if (x10.2 != (0 : Int)) then true else (!decide (x10.1 = x14))) == false) (ptrB b1 0)), (Fact.when ((if (x10.2 != (0 : Int)) then true else (!decide (x10.1 = x14))) == false) ((kint .i64).V y31)), (Fact.when ((if (x10.2 != (0 : Int)) then true else (!decide (x10.1 = x14))) == false) (kstr.V x15)), (Fact.when ((if (x10.2 != (0 : Int)) then true else (!decide (x10.1 = x14))) == false) (ptrB b2 0)), (Fact.when ((if (x10.2 != (0 : Int)) then true else (!decide (x10.1 = x14))) == false) (ptrB b2 0)), (Fact.when ((if (x10.2 != (0 : Int)) then true else (!decide (x10.1 = x14))) == false) (ptrB b2 0)), (Fact.when ((if (x10.2 != (0 : Int)) then true else (!decide (x10.1 = x14))) == false) (is v13)), (Fact.when ((if (x10.2 != (0 : Int)) then true else (!decide (x10.1 = x14))) == false) ((kint .i64).V y31)), (Fact.when ((if (x10.2 != (0 : Int)) then true else (!decide (x10.1 = x14))) == false) (ptrR v13 (y31.toNat * 1))), (Fact.when ((if (x10.2 != (0 : Int)) then true else (!decide (x10.1 = x14))) == false) (kstr.V x16))]) (bits := [0, 1, 3, 7, 7, 7, 55, 127, 255, 511, 1023, 1023, 4095, 1023, 9215, 25599, 58367, 1023, 254975, 517119, 1048575, 2097151]) (m := 20) (todo := 0) mx s124 ?_; clear s124
                refine goes_last (by kernel_rfl) rfl (opsS_cons (.plain _ (Av.old (t := 12) rfl rfl Av.nil) rfl rfl (ob_move rfl (.tmp rfl))) (opsS_cons (.plain _ (Av.new (j := 0) rfl rfl rfl Av.nil) rfl rfl (ob_neq rfl (.tmp rfl) (opd_int rfl))) (opsS_cons (.plain _ (Av.new (j := 1) rfl rfl rfl Av.nil) rfl rfl (ob_move rfl (.tmp rfl))) (opsS_cons (.guarded _ (Av.old (t := 11) rfl rfl (Av.new (j := 2) rfl rfl rfl Av.nil)) rfl rfl rfl rfl (fun hb => ob_move rfl (.tmp rfl))) (opsS_cons (.guarded _ (Av.old (t := 6) rfl rfl (Av.new (j := 2) rfl rfl rfl Av.nil)) rfl rfl rfl rfl (fun hb => ob_move rfl (.tmp rfl))) (opsS_cons (.guarded _ (Av.old (t := 10) rfl rfl (Av.new (j := 2) rfl rfl rfl Av.nil)) rfl rfl rfl rfl (fun hb => ob_move rfl (.tmp rfl))) (opsS_cons (.guarded _ (Av.new (j := 2) rfl rfl rfl (Av.new (j := 4) rfl rfl rfl (Av.new (j := 5) rfl rfl rfl Av.nil))) rfl rfl rfl rfl (fun hb => (Ob.uncond (t := 143) hb rfl ((Ob.uncond (t := 142) hb rfl ((ob_lendG (L := [_, _, _, _]) (toFront [_] (toFront [_, _, _] (toFront [_, _, _] (toFront [_, _, _] (List.Perm.refl _))))) (.cons (t := 142) rfl (lendObj (K' := k_cabalref12_Disk) (X' := (⟨y28, y29, y30, y24, y25⟩ : cabalref12_Disk)) (.head _) rfl (upo_cabalref12_Disk_0_1_2 rfl (.row (LetAll.row (.tail _ (.head _)))) (.row (LetAll.row (.tail _ (.tail _ (.head _))))) (.row (LetAll.row (.tail _ (.tail _ (.tail _ (.head _)))))))) .nil) (Flat.res1 (Flat.V KFlat.str)) (fun _ => ob_callD (args := [_, _]) rfl .direct hb28 (fun a w s fs gs hf hg => by obtain rfl := hf.unnil; obtain rfl := hg.unnil; exact c_cabalref12_Disk_Read k _ _ _ (ite_t hb e_x14) _ _ _ _ (s.arg (.tmp rfl)) (s.arg (.tmp rfl))))))))))) (opsS_cons (.guarded _ (Av.new (j := 2) rfl rfl rfl (Av.new (j := 3) rfl rfl rfl (Av.new (j := 6) rfl rfl rfl Av.nil))) rfl rfl rfl rfl (fun hb => (Ob.uncond (t := 144) hb rfl ((Ob.uncond (t := 141) hb rfl (ob_sneq rfl (.tmp rfl) (.tmp rfl))))))) (opsS_cons (.plain _ (Av.new (j := 2) rfl rfl rfl (Av.new (j := 7) rfl rfl rfl Av.nil)) rfl rfl (ob_or2 rfl (.tmp rfl) opd_bool (.tmp rfl))) (opsS_cons (.plain _ (Av.new (j := 8) rfl rfl rfl Av.nil) rfl rfl (ob_move rfl (.tmp rfl))) (opsS_cons (.guarded _ (Av.old (t := 5) rfl rfl (Av.new (j := 9) rfl rfl rfl Av.nil)) rfl rfl rfl rfl (fun hb => ob_move rfl (.tmp rfl))) (opsS_cons (.guarded _ (Av.old (t := 10) rfl rfl (Av.new (j := 9) rfl rfl rfl Av.nil)) rfl rfl rfl rfl (fun hb => ob_move rfl (.tmp rfl))) (opsS_cons (.guarded _ (Av.new (j := 9) rfl rfl rfl (Av.new (j := 10) rfl rfl rfl (Av.new (j := 11) rfl rfl rfl Av.nil))) rfl rfl rfl rfl (fun hb => (Ob.uncond (t := 149) hb rfl ((Ob.uncond (t := 148) hb rfl ((ob_lendG (L := [_, _, _]) (toFront [] (toFront [_] (toFront [_] (List.Perm.refl _)))) (.cons (t := 148) rfl (lendObj (K' := k_disk_Disk) (X' := (⟨y26, y27, y22, y23⟩ : disk_Disk)) (.head _) rfl (upo_disk_Disk_0_1 rfl (.row (LetAll.row (.tail _ (.head _)))) (.row (LetAll.row (.tail _ (.tail _ (.head _))))))) .nil) (Flat.res1 (Flat.V KFlat.str)) (fun _ => ob_callD (args := [_, _]) rfl .direct hb18 (fun a w s fs gs hf hg => by obtain rfl := hf.unnil; obtain rfl := hg.unnil; exact c_disk_Disk_Settled k _ _ _ (ite_t hb e_x15) _ _ _ _ (s.arg (.tmp rfl)) (s.arg (.tmp rfl))))))))))) (opsS_cons (.guarded _ (Av.old (t := 6) rfl rfl (Av.new (j := 9) rfl rfl rfl Av.nil)) rfl rfl rfl rfl (fun hb => ob_move rfl (.tmp rfl))) (opsS_cons (.guarded _ (Av.new (j := 9) rfl rfl rfl (Av.new (j := 13) rfl rfl rfl Av.nil)) rfl rfl rfl rfl (fun hb => (Ob.uncond (t := 151) hb rfl (ob_nilCheck rfl (.tmp rfl))))) (opsS_cons (.guarded _ (Av.new (j := 9) rfl rfl rfl (Av.new (j := 14) rfl rfl rfl Av.nil)) rfl rfl rfl rfl (fun hb => (Ob.uncond (t := 152) hb rfl (ob_fieldAddr (off' := 0) rfl Try.underlying52 rfl sz49 (by decide) (.tmp rfl) rfl)))) (opsS_cons (.guarded _ (Av.new (j := 9) rfl rfl rfl (Av.new (j := 15) rfl rfl rfl Av.nil)) rfl rfl rfl rfl (fun hb => (Ob.uncond (t := 153) hb rfl (ob_loadRowV rfl (tkr49 _) (.tmp rfl) (.tail _ (.head _)) (lgo_cabalref12_Disk_0_1_2_Firm (⟨[], [], [], y24, y25⟩ : cabalref12_Disk)))))) (opsS_cons (.guarded _ (Av.old (t := 10) rfl rfl (Av.new (j := 9) rfl rfl rfl Av.nil)) rfl rfl rfl rfl (fun hb => ob_move rfl (.tmp rfl))) (opsS_cons (.guarded _ (Av.new (j := 9) rfl rfl rfl (Av.new (j := 16) rfl rfl rfl (Av.new (j := 17) rfl rfl rfl Av.nil))) rfl rfl rfl rfl (fun hb => (Ob.uncond (t := 155) hb rfl ((Ob.uncond (t := 154) hb rfl (ob_rowAt rfl Try.underlying49 sz9 (.tmp rfl) (.tail _ (.tail _ (.tail _ (.tail _ (.head _))))) (.tmp rfl) (g1 hb))))))) (opsS_cons (.guarded _ (Av.new (j := 9) rfl rfl rfl (Av.new (j := 18) rfl rfl rfl Av.nil)) rfl rfl rfl rfl (fun hb => (Ob.uncond (t := 156) hb rfl (ob_rowLoad rfl tk9 (.tmp rfl) (.tail _ (.tail _ (.tail _ (.tail _ (.head _))))) (LG.arrA (ite_t hb e_x16)))))) opsS_nil)))))))))))))))))))) (out_old (t := 1) rfl rfl (out_old (t := 5) rfl rfl (out_old (t := 6) rfl rfl (out_old (t := 7) rfl rfl (out_old (t := 10) rfl rfl (out_new (i := 9) (by decide) rfl rfl (out_new (i := 12) (by decide) rfl rfl (out_new (i := 19) (by decide) rfl rfl out_nil)))))))) fun a125 w125 s125 => ?_
                refine seq_opg s125 rfl rfl rfl rfl (of_decide_eq_true rfl) (fun hb => (Ob.uncond (t := 157) hb rfl ((Ob.uncond (t := 150) hb rfl (ob_sneq rfl (.tmp rfl) (.tmp rfl)))))) fun a126 w126 s126 => ?_; clear s125
                obtain ⟨x17, e_x17, h37⟩ := bind_some h36; clear h36; replace e_x17 := Option.some.inj e_x17
                refine seq_op s126 rfl rfl (of_decide_eq_true rfl) ((ob_or2 rfl (.tmp rfl) opd_bool (.tmp rfl)).nm e_x17) fun a127 w127 s127 => ?_; clear s126
                refine wpList_nil ?_
                refine then_normal ?_
                refine hK33 _ _ ?_
                have s128 := s127.sub (.cons (t := 1) rfl (.cons (t := 5) rfl (.cons (t := 6) rfl (.cons (t := 7) rfl (.cons (t := 10) rfl (.cons (t := 159) rfl .nil)))))); clear s127
                refine cond_split s128 (.tmp rfl) (fun hc7 => ?_) (fun hc7 => ?_)
                · replace h37 := ite_t hc7 h37
                  have h38 := h37; clear h37
                  refine wp_seq_k fun K34 hK34 => ?_
                  refine wp_region_lit ?_
                  refine seq_op s128 rfl rfl (of_decide_eq_true rfl) (ob_assign rfl opd_bool) fun a129 w129 s129 => ?_; clear s128
                  refine wpList_nil ?_
                  refine then_normal ?_
                  refine hK34 _ _ ?_
                  have s130 := s129.sub (.cons (t := 4) rfl .nil); clear s129
                  have s131 := St.drop (A := []) s130; clear s130
                  have s132 := St.drop (A := []) s131; clear s131
                  have s133 := St.drop (A := []) s132; clear s132
                  have s134 := St.drop (A := []) s133; clear s133
                  have s135 := St.drop (A := []) s134; clear s134
                  have s136 := St.drop (A := []) s135; clear s135
                  have s137 := St.drop (A := []) s136; clear s136
                  refine wp_ret ?_
                  obtain rfl := Option.some.inj h38
                  exact leave s137 (.inl rfl) rfl (.cons (.tmp rfl) .nil)
                · replace h37 := ite_f hc7 h37
                  have h39 := h37; clear h37
                  refine wp_skip ?_
                  refine in_normal ?_
                  refine then_normal ?_
                  exact hj5 _ _ h39 (s128.sub (.cons rfl (.cons rfl (.cons rfl (.cons rfl (.cons rfl .nil))))))
            · replace h22 := ite_f hc4 h22
              have h40 := h22; clear h22
              refine wp_exit ?_
              refine (then_exit (then_exit (in_here ?_)))
              refine in_normal ?_
              refine then_normal ?_
              exact hj3 y22 y23 y24 y25 y26 y27 y28 y29 y30 v11 v12 v13 v14 v15 _ _ h40 (s81.sub (.cons rfl (.cons rfl (.cons rfl (.cons rfl .nil)))))
        refine wp_block ?_
        refine wp_seq_k fun K35 hK35 => ?_
        refine wp_region_lit ?_
        refine seq_op s55 rfl rfl (of_decide_eq_true rfl) (ob_eql rfl (.tmp rfl) (opd_int rfl)) fun a138 w138 s138 => ?_; clear s55
        refine seq_op s138 rfl rfl (of_decide_eq_true rfl) (ob_assign rfl (.tmp rfl)) fun a139 w139 s139 => ?_; clear s138
        refine wpList_nil ?_
        refine then_normal ?_
        refine hK35 _ _ ?_
        have s140 := s139.sub (.cons (t := 1) rfl (.cons (t := 5) rfl (.cons (t := 6) rfl (.cons (t := 7) rfl (.cons (t := 8) rfl (.cons (t := 9) rfl (.cons (t := 37) rfl (.cons (t := 38) rfl .nil)))))))); clear s139
        refine cond_split s140 (.tmp rfl) (fun hc8 => ?_) (fun hc8 => ?_)
        · replace h14 := ite_t hc8 h14
          have h41 := h14; clear h14
          obtain ⟨x18, e_x18, h42⟩ := bind_some h41; clear h41
          obtain ⟨x19, e_x19, h43⟩ := bind_some h42; clear h42
          obtain ⟨x20, e_x20, h44⟩ := bind_some h43; clear h43
          refine wp_goes (Fs := [(ptrB b1 0), (ptrB b3 1), ((kint .i64).V x6.At), (ptrB b3 3), ((kint .u8).V x6.B), (ptrB b3 4), ((kint .i8).V x6.Long), (kstr.V x18), nofact, (ptrB b2 0), (ptrB b3 1), ((kint .i64).V x6.At), (ptrB b3 3), ((kint .u8).V x6.B), (ptrB b3 4), ((kint .i8).V x6.Long), nofact]) (bits := [0, 0, 2, 0, 8, 0, 32, 120, 255, 0, 0, 1024, 0, 4096, 0, 16384, 61951, 131071, 262143, 524287]) (m := 17) (todo := 256) mx s140 ?_; clear s140
          refine goes_turn (B' := (fun gg : Value × Value => [BF b1 87 (ko_disk_Disk_0_1 gg.1 gg.2) (⟨[], [], x19.2.fuse, x19.2.dead⟩ : disk_Disk), RowF gg.1 91 (karr 256 (kint .u8)) x19.2.firm, RowF gg.2 93 k_disk_write x19.2.loose, BF b3 30 k_caballaw12_Act x6, BF b2 52 (ko_cabalref12_Disk_0_1_2 v8 v9 v10) (⟨[], [], [], y5, y6⟩ : cabalref12_Disk), RowF v8 9 kstr y9, RowF v9 3 (kint .i64) y10, RowF v10 9 kstr y11])) (Fs' := (fun gg : Value × Value => setAll ([(ptrB b1 0), (ptrB b3 1), ((kint .i64).V x6.At), (ptrB b3 3), ((kint .u8).V x6.B), (ptrB b3 4), ((kint .i8).V x6.Long), (kstr.V x18), nofact, (ptrB b2 0), (ptrB b3 1), ((kint .i64).V x6.At), (ptrB b3 3), ((kint .u8).V x6.B), (ptrB b3 4), ((kint .i8).V x6.Long), nofact]) [(8, ((kint .i64).V x19.1)), (16, (kstr.V x20))])) 8 65792 511 0 (by kernel_rfl) rfl rfl rfl (opsS_cons (.plain _ (Av.old (t := 5) rfl rfl Av.nil) rfl rfl (ob_move rfl (.tmp rfl))) (opsS_cons (.plain _ (Av.old (t := 8) rfl rfl Av.nil) rfl rfl (ob_fieldAddr (off' := 1) rfl Try.underlying30 rfl sz3 (by decide) (.tmp rfl) rfl)) (opsS_cons (.plain _ (Av.new (j := 1) rfl rfl rfl Av.nil) rfl rfl (ob_load rfl tk3 (.tmp rfl) (.head _) (lg_caballaw12_Act_At x6))) (opsS_cons (.plain _ (Av.old (t := 8) rfl rfl Av.nil) rfl rfl (ob_fieldAddr (off' := 3) rfl Try.underlying30 rfl sz5 (by decide) (.tmp rfl) rfl)) (opsS_cons (.plain _ (Av.new (j := 3) rfl rfl rfl Av.nil) rfl rfl (ob_load rfl tk5 (.tmp rfl) (.head _) (lg_caballaw12_Act_B x6))) (opsS_cons (.plain _ (Av.old (t := 8) rfl rfl Av.nil) rfl rfl (ob_fieldAddr (off' := 4) rfl Try.underlying30 rfl sz28 (by decide) (.tmp rfl) rfl)) (opsS_cons (.plain _ (Av.new (j := 5) rfl rfl rfl Av.nil) rfl rfl (ob_load rfl tk28 (.tmp rfl) (.head _) (lg_caballaw12_Act_Long x6))) (opsS_cons (.plain _ (Av.new (j := 4) rfl rfl rfl (Av.new (j := 6) rfl rfl rfl Av.nil)) rfl rfl (ob_callD (args := [_, _]) rfl .direct hb16 (fun a w s fs gs hf hg => by obtain rfl := hf.unnil; obtain rfl := hg.unnil; exact c_caballaw12_data k _ _ _ e_x18 _ _ _ _ (s.arg (.tmp rfl)) (s.arg (.tmp rfl))))) (opsS_skip (by rfl) (opsS_cons (.plain _ (Av.old (t := 6) rfl rfl Av.nil) rfl rfl (ob_move rfl (.tmp rfl))) (opsS_cons (.plain _ (Av.old (t := 8) rfl rfl Av.nil) rfl rfl (ob_fieldAddr (off' := 1) rfl Try.underlying30 rfl sz3 (by decide) (.tmp rfl) rfl)) (opsS_cons (.plain _ (Av.new (j := 10) rfl rfl rfl Av.nil) rfl rfl (ob_load rfl tk3 (.tmp rfl) (.head _) (lg_caballaw12_Act_At x6))) (opsS_cons (.plain _ (Av.old (t := 8) rfl rfl Av.nil) rfl rfl (ob_fieldAddr (off' := 3) rfl Try.underlying30 rfl sz5 (by decide) (.tmp rfl) rfl)) (opsS_cons (.plain _ (Av.new (j := 12) rfl rfl rfl Av.nil) rfl rfl (ob_load rfl tk5 (.tmp rfl) (.head _) (lg_caballaw12_Act_B x6))) (opsS_cons (.plain _ (Av.old (t := 8) rfl rfl Av.nil) rfl rfl (ob_fieldAddr (off' := 4) rfl Try.underlying30 rfl sz28 (by decide) (.tmp rfl) rfl)) (opsS_cons (.plain _ (Av.new (j := 14) rfl rfl rfl Av.nil) rfl rfl (ob_load rfl tk28 (.tmp rfl) (.head _) (lg_caballaw12_Act_Long x6))) (opsS_skip (by rfl) opsS_nil))))))))))))))))) (.plain _ (Av.new (j := 0) rfl rfl rfl (Av.new (j := 2) rfl rfl rfl (Av.new (j := 7) rfl rfl rfl Av.nil))) rfl (fun _ => rfl) (fun R => ob_callL (args := [_, _, _]) (L := [_, _, _]) rfl .direct hb15 (toFront [_] (toFront [_, _] (toFront [_, _] (List.Perm.refl _)))) (fun a w s fs gs hf hg => by obtain rfl := hf.unnil; obtain rfl := hg.unnil; exact c_disk_Disk_Write k _ _ _ _ e_x19 _ _ _ _ _ _ _ _ (ownL s) (disL s) (nodL s) (s.arg (.tmp rfl)) (s.arg (.tmp rfl)) (s.arg (.tmp rfl))) (by exact fun _ => rfl))) (setAll_same (us := (fun gg : Value × Value => [(8, ((kint .i64).V x19.1)), (16, (kstr.V x20))])) fun _ => by kernel_rfl) fun gg142 => ?_
          obtain ⟨v16, v17⟩ := gg142
          refine goes_last (by kernel_rfl) rfl (opsS_skip (by rfl) (opsS_skip (by rfl) (opsS_skip (by rfl) (opsS_skip (by rfl) (opsS_skip (by rfl) (opsS_skip (by rfl) (opsS_skip (by rfl) (opsS_skip (by rfl) (opsS_skip (by rfl) (opsS_cons (.plain _ (Av.old (t := 6) rfl rfl Av.nil) rfl rfl (ob_move rfl (.tmp rfl))) (opsS_cons (.plain _ (Av.old (t := 8) rfl rfl Av.nil) rfl rfl (ob_fieldAddr (off' := 1) rfl Try.underlying30 rfl sz3 (by decide) (.tmp rfl) rfl)) (opsS_cons (.plain _ (Av.new (j := 10) rfl rfl rfl Av.nil) rfl rfl (ob_load rfl tk3 (.tmp rfl) (.tail _ (.tail _ (.tail _ (.head _)))) (lg_caballaw12_Act_At x6))) (opsS_cons (.plain _ (Av.old (t := 8) rfl rfl Av.nil) rfl rfl (ob_fieldAddr (off' := 3) rfl Try.underlying30 rfl sz5 (by decide) (.tmp rfl) rfl)) (opsS_cons (.plain _ (Av.new (j := 12) rfl rfl rfl Av.nil) rfl rfl (ob_load rfl tk5 (.tmp rfl) (.tail _ (.tail _ (.tail _ (.head _)))) (lg_caballaw12_Act_B x6))) (opsS_cons (.plain _ (Av.old (t := 8) rfl rfl Av.nil) rfl rfl (ob_fieldAddr (off' := 4) rfl Try.underlying30 rfl sz28 (by decide) (.tmp rfl) rfl)) (opsS_cons (.plain _ (Av.new (j := 14) rfl rfl rfl Av.nil) rfl rfl (ob_load rfl tk28 (.tmp rfl) (.tail _ (.tail _ (.tail _ (.head _)))) (lg_caballaw12_Act_Long x6))) (opsS_cons (.plain _ (Av.new (j := 13) rfl rfl rfl (Av.new (j := 15) rfl rfl rfl Av.nil)) rfl rfl (ob_callD (args := [_, _]) rfl .direct hb16 (fun a w s fs gs hf hg => by obtain rfl := hf.unnil; obtain rfl := hg.unnil; exact c_caballaw12_data k _ _ _ e_x20 _ _ _ _ (s.arg (.tmp rfl)) (s.arg (.tmp rfl))))) opsS_nil))))))))))))))))) (out_old (t := 1) rfl rfl (out_old (t := 5) rfl rfl (out_old (t := 6) rfl rfl (out_old (t := 7) rfl rfl (out_old (t := 9) rfl rfl (out_new (i := 8) (by decide) rfl rfl (out_new (i := 9) (by decide) rfl rfl (out_new (i := 11) (by decide) rfl rfl (out_new (i := 16) (by decide) rfl rfl out_nil))))))))) fun a141 w141 s141 => ?_
          obtain ⟨x21, e_x21, h45⟩ := bind_some h44; clear h44
          refine seq_opx (B' := (fun gg : Value × Value × Value => [BF b2 52 (ko_cabalref12_Disk_0_1_2 gg.1 gg.2.1 gg.2.2) (⟨[], [], [], x21.2.Fuse, x21.2.Dead⟩ : cabalref12_Disk), RowF gg.1 9 kstr x21.2.Firm, RowF gg.2.1 3 (kint .i64) x21.2.At, RowF gg.2.2 9 kstr x21.2.Data, BF b1 87 (ko_disk_Disk_0_1 v16 v17) (⟨[], [], x19.2.fuse, x19.2.dead⟩ : disk_Disk), RowF v16 91 (karr 256 (kint .u8)) x19.2.firm, RowF v17 93 k_disk_write x19.2.loose, BF b3 30 k_caballaw12_Act x6])) s141 rfl rfl (of_decide_eq_true rfl) (ob_callL (args := [_, _, _]) (L := [_, _, _, _]) rfl .direct hb20 (toFront [_, _, _, _] (toFront [_, _, _, _] (toFront [_, _, _, _] (toFront [_, _, _, _] (List.Perm.refl _))))) (fun a w s fs gs hf hg => by obtain rfl := hf.unnil; obtain rfl := hg.unnil; exact c_cabalref12_Disk_Write k _ _ _ _ e_x21 _ _ _ _ _ _ _ _ _ (ownL s) (disL s) (nodL s) (s.arg (.tmp rfl)) (s.arg (.tmp rfl)) (s.arg (.tmp rfl))) (by exact fun _ => rfl)) fun gg143 a143 w143 s143 => ?_; clear s141
          obtain ⟨v18, v19, v20⟩ := gg143
          refine seq_op s143 rfl rfl (of_decide_eq_true rfl) (ob_eql rfl (.tmp rfl) (.tmp rfl)) fun a144 w144 s144 => ?_; clear s143
          refine seq_op s144 rfl rfl (of_decide_eq_true rfl) (ob_assign rfl (.tmp rfl)) fun a145 w145 s145 => ?_; clear s144
          refine wpList_nil ?_
          refine in_normal ?_
          refine then_normal ?_
          have s146 := St.drop (A := [_, _, _, _, _, _, _]) s145; clear s145
          have s147 := s146.perm (toFront [_, _, _, _] (toFront [] (toFront [_, _, _] (toFront [_, _, _] (toFront [] (toFront [] (toFront [] (List.Perm.refl _)))))))); clear s146
          exact hj4 (x19.1 == x21.1) x19.2.fuse x19.2.dead x21.2.Fuse x21.2.Dead x19.2.firm x19.2.loose x21.2.Firm x21.2.At x21.2.Data v16 v17 v18 v19 v20 _ _ h45 (s147.sub (.cons rfl (.cons rfl (.cons rfl (.cons rfl (.cons rfl .nil))))))
        · replace h14 := ite_f hc8 h14
          have h46 := h14; clear h14
          refine wp_seq_k fun K36 hK36 => ?_
          refine wp_region_lit ?_
          refine seq_op s140 rfl rfl (of_decide_eq_true rfl) (ob_eql rfl (.tmp rfl) (opd_int rfl)) fun a148 w148 s148 => ?_; clear s140
          refine seq_op s148 rfl rfl (of_decide_eq_true rfl) (ob_assign rfl (.tmp rfl)) fun a149 w149 s149 => ?_; clear s148
          refine wpList_nil ?_
          refine then_normal ?_
          refine hK36 _ _ ?_
          have s150 := s149.sub (.cons (t := 1) rfl (.cons (t := 5) rfl (.cons (t := 6) rfl (.cons (t := 7) rfl (.cons (t := 8) rfl (.cons (t := 9) rfl (.cons (t := 37) rfl (.cons (t := 59) rfl .nil)))))))); clear s149
          refine cond_split s150 (.tmp rfl) (fun hc9 => ?_) (fun hc9 => ?_)
          · replace h46 := ite_t hc9 h46
            have h47 := h46; clear h46
            refine wp_region_lit ?_
            refine seq_op s150 rfl rfl (of_decide_eq_true rfl) (ob_move rfl (.tmp rfl)) fun a151 w151 s151 => ?_; clear s150
            obtain ⟨x22, e_x22, h48⟩ := bind_some h47; clear h47
            refine seq_opx (B' := (fun gg : Value × Value => [BF b1 87 (ko_disk_Disk_0_1 gg.1 gg.2) (⟨[], [], x22.2.fuse, x22.2.dead⟩ : disk_Disk), RowF gg.1 91 (karr 256 (kint .u8)) x22.2.firm, RowF gg.2 93 k_disk_write x22.2.loose, BF b3 30 k_caballaw12_Act x6, BF b2 52 (ko_cabalref12_Disk_0_1_2 v8 v9 v10) (⟨[], [], [], y5, y6⟩ : cabalref12_Disk), RowF v8 9 kstr y9, RowF v9 3 (kint .i64) y10, RowF v10 9 kstr y11])) s151 rfl rfl (of_decide_eq_true rfl) (ob_callL (args := [_]) (L := [_, _, _]) rfl .direct hb13 (toFront [_] (toFront [_, _] (toFront [_, _] (List.Perm.refl _)))) (fun a w s fs gs hf hg => by obtain rfl := hf.unnil; obtain rfl := hg.unnil; exact c_disk_Disk_Sync k _ _ e_x22 _ _ _ _ _ _ (ownL s) (disL s) (nodL s) (s.arg (.tmp rfl))) (by exact fun _ => rfl)) fun gg152 a152 w152 s152 => ?_; clear s151
            obtain ⟨v21, v22⟩ := gg152
            refine seq_op s152 rfl rfl (of_decide_eq_true rfl) (ob_move rfl (.tmp rfl)) fun a153 w153 s153 => ?_; clear s152
            obtain ⟨x23, e_x23, h49⟩ := bind_some h48; clear h48
            refine seq_opx (B' := (fun gg : Value × Value × Value => [BF b2 52 (ko_cabalref12_Disk_0_1_2 gg.1 gg.2.1 gg.2.2) (⟨[], [], [], x23.2.Fuse, x23.2.Dead⟩ : cabalref12_Disk), RowF gg.1 9 kstr x23.2.Firm, RowF gg.2.1 3 (kint .i64) x23.2.At, RowF gg.2.2 9 kstr x23.2.Data, BF b1 87 (ko_disk_Disk_0_1 v21 v22) (⟨[], [], x22.2.fuse, x22.2.dead⟩ : disk_Disk), RowF v21 91 (karr 256 (kint .u8)) x22.2.firm, RowF v22 93 k_disk_write x22.2.loose, BF b3 30 k_caballaw12_Act x6])) s153 rfl rfl (of_decide_eq_true rfl) (ob_callL (args := [_]) (L := [_, _, _, _]) rfl .direct hb21 (toFront [_, _, _, _] (toFront [_, _, _, _] (toFront [_, _, _, _] (toFront [_, _, _, _] (List.Perm.refl _))))) (fun a w s fs gs hf hg => by obtain rfl := hf.unnil; obtain rfl := hg.unnil; exact c_cabalref12_Disk_Sync k _ _ e_x23 _ _ _ _ _ _ _ (ownL s) (disL s) (nodL s) (s.arg (.tmp rfl))) (by exact fun _ => rfl)) fun gg154 a154 w154 s154 => ?_; clear s153
            obtain ⟨v23, v24, v25⟩ := gg154
            refine seq_op s154 rfl rfl (of_decide_eq_true rfl) (ob_eql rfl (.tmp rfl) (.tmp rfl)) fun a155 w155 s155 => ?_; clear s154
            refine seq_op s155 rfl rfl (of_decide_eq_true rfl) (ob_assign rfl (.tmp rfl)) fun a156 w156 s156 => ?_; clear s155
            refine wpList_nil ?_
            refine in_normal ?_
            refine then_normal ?_
            have s157 := St.drop (A := [_, _, _, _, _, _, _]) s156; clear s156
            have s158 := s157.perm (toFront [_, _, _, _] (toFront [] (toFront [_, _, _] (toFront [_, _, _] (toFront [] (toFront [] (toFront [] (List.Perm.refl _)))))))); clear s157
            exact hj4 (x22.1 == x23.1) x22.2.fuse x22.2.dead x23.2.Fuse x23.2.Dead x22.2.firm x22.2.loose x23.2.Firm x23.2.At x23.2.Data v21 v22 v23 v24 v25 _ _ h49 (s158.sub (.cons rfl (.cons rfl (.cons rfl (.cons rfl (.cons rfl .nil))))))
          · replace h46 := ite_f hc9 h46
            have h50 := h46; clear h46
            refine wp_seq_k fun K37 hK37 => ?_
            refine wp_region_lit ?_
            refine seq_op s150 rfl rfl (of_decide_eq_true rfl) (ob_eql rfl (.tmp rfl) (opd_int rfl)) fun a159 w159 s159 => ?_; clear s150
            refine seq_op s159 rfl rfl (of_decide_eq_true rfl) (ob_assign rfl (.tmp rfl)) fun a160 w160 s160 => ?_; clear s159
            refine wpList_nil ?_
            refine then_normal ?_
            refine hK37 _ _ ?_
            have s161 := s160.sub (.cons (t := 1) rfl (.cons (t := 5) rfl (.cons (t := 6) rfl (.cons (t := 7) rfl (.cons (t := 8) rfl (.cons (t := 9) rfl (.cons (t := 37) rfl (.cons (t := 59) rfl (.cons (t := 66) rfl .nil))))))))); clear s160
            refine cond_split s161 (.tmp rfl) (fun hc10 => ?_) (fun hc10 => ?_)
            · replace h50 := ite_t hc10 h50
              have h51 := h50; clear h50
              refine wp_seq_k fun K38 hK38 => ?_
              refine wp_region_lit ?_
              refine seq_op s161 rfl rfl (of_decide_eq_true rfl) (ob_move rfl (.tmp rfl)) fun a162 w162 s162 => ?_; clear s161
              refine seq_op s162 rfl rfl (of_decide_eq_true rfl) (ob_fieldAddr (off' := 2) rfl Try.underlying30 rfl sz3 (by decide) (.tmp rfl) rfl) fun a163 w163 s163 => ?_; clear s162
              refine seq_op s163 rfl rfl (of_decide_eq_true rfl) (ob_load rfl tk3 (.tmp rfl) (.head _) (lg_caballaw12_Act_N x6)) fun a164 w164 s164 => ?_; clear s163
              obtain ⟨x24, e_x24, h52⟩ := bind_some h51; clear h51
              refine seq_opx (B' := (fun gg : Value × Value => [BF b1 87 (ko_disk_Disk_0_1 gg.1 gg.2) (⟨[], [], x24.fuse, x24.dead⟩ : disk_Disk), RowF gg.1 91 (karr 256 (kint .u8)) x24.firm, RowF gg.2 93 k_disk_write x24.loose, BF b3 30 k_caballaw12_Act x6, BF b2 52 (ko_cabalref12_Disk_0_1_2 v8 v9 v10) (⟨[], [], [], y5, y6⟩ : cabalref12_Disk), RowF v8 9 kstr y9, RowF v9 3 (kint .i64) y10, RowF v10 9 kstr y11])) s164 rfl rfl (of_decide_eq_true rfl) (ob_callL (args := [_, _]) (L := [_, _, _]) rfl .direct hb22 (toFront [_] (toFront [_, _] (toFront [_, _] (List.Perm.refl _)))) (fun a w s fs gs hf hg => by obtain rfl := hf.unnil; obtain rfl := hg.unnil; exact c_disk_Disk_Fuse k _ _ _ e_x24 _ _ _ _ _ _ _ (ownL s) (disL s) (nodL s) (s.arg (.tmp rfl)) (s.arg (.tmp rfl))) (by exact fun _ => rfl)) fun gg165 a165 w165 s165 => ?_; clear s164
              obtain ⟨v26, v27⟩ := gg165
              refine wpList_nil ?_
              refine then_normal ?_
              refine hK38 _ _ ?_
              have s166 := s165.sub (.cons (t := 1) rfl (.cons (t := 5) rfl (.cons (t := 6) rfl (.cons (t := 7) rfl (.cons (t := 8) rfl (.cons (t := 9) rfl (.cons (t := 59) rfl (.cons (t := 66) rfl .nil)))))))); clear s165
              refine wp_region_lit ?_
              refine seq_op s166 rfl rfl (of_decide_eq_true rfl) (ob_move rfl (.tmp rfl)) fun a167 w167 s167 => ?_; clear s166
              refine seq_op s167 rfl rfl (of_decide_eq_true rfl) (ob_fieldAddr (off' := 2) rfl Try.underlying30 rfl sz3 (by decide) (.tmp rfl) rfl) fun a168 w168 s168 => ?_; clear s167
              refine seq_op s168 rfl rfl (of_decide_eq_true rfl) (ob_load rfl tk3 (.tmp rfl) (.tail _ (.tail _ (.tail _ (.head _)))) (lg_caballaw12_Act_N x6)) fun a169 w169 s169 => ?_; clear s168
              obtain ⟨x25, e_x25, h53⟩ := bind_some h52; clear h52
              refine seq_opx (B' := (fun gg : Value × Value × Value => [BF b2 52 (ko_cabalref12_Disk_0_1_2 gg.1 gg.2.1 gg.2.2) (⟨[], [], [], x25.Fuse, x25.Dead⟩ : cabalref12_Disk), RowF gg.1 9 kstr x25.Firm, RowF gg.2.1 3 (kint .i64) x25.At, RowF gg.2.2 9 kstr x25.Data, BF b1 87 (ko_disk_Disk_0_1 v26 v27) (⟨[], [], x24.fuse, x24.dead⟩ : disk_Disk), RowF v26 91 (karr 256 (kint .u8)) x24.firm, RowF v27 93 k_disk_write x24.loose, BF b3 30 k_caballaw12_Act x6])) s169 rfl rfl (of_decide_eq_true rfl) (ob_callL (args := [_, _]) (L := [_, _, _, _]) rfl .direct hb23 (toFront [_, _, _, _] (toFront [_, _, _, _] (toFront [_, _, _, _] (toFront [_, _, _, _] (List.Perm.refl _))))) (fun a w s fs gs hf hg => by obtain rfl := hf.unnil; obtain rfl := hg.unnil; exact c_cabalref12_Disk_Light k _ _ _ e_x25 _ _ _ _ _ _ _ _ (ownL s) (disL s) (nodL s) (s.arg (.tmp rfl)) (s.arg (.tmp rfl))) (by exact fun _ => rfl)) fun gg170 a170 w170 s170 => ?_; clear s169
              obtain ⟨v28, v29, v30⟩ := gg170
              refine wpList_nil ?_
              refine in_normal ?_
              refine then_normal ?_
              have s171 := St.drop (A := [_, _, _, _, _, _, _]) s170; clear s170
              have s172 := s171.perm (toFront [_, _, _, _] (toFront [] (toFront [_, _, _] (toFront [_, _, _] (toFront [] (toFront [] (toFront [] (List.Perm.refl _)))))))); clear s171
              exact hj4 true x24.fuse x24.dead x25.Fuse x25.Dead x24.firm x24.loose x25.Firm x25.At x25.Data v26 v27 v28 v29 v30 _ _ h53 (s172.sub (.cons rfl (.cons rfl (.cons rfl (.cons rfl (.cons rfl .nil))))))
            · replace h50 := ite_f hc10 h50
              have h54 := h50; clear h50
              refine wp_seq_k fun K39 hK39 => ?_
              refine wp_region_lit ?_
              refine seq_op s161 rfl rfl (of_decide_eq_true rfl) (ob_eql rfl (.tmp rfl) (opd_int rfl)) fun a173 w173 s173 => ?_; clear s161
              refine seq_op s173 rfl rfl (of_decide_eq_true rfl) (ob_assign rfl (.tmp rfl)) fun a174 w174 s174 => ?_; clear s173
              refine wpList_nil ?_
              refine then_normal ?_
              refine hK39 _ _ ?_
              have s175 := s174.sub (.cons (t := 1) rfl (.cons (t := 5) rfl (.cons (t := 6) rfl (.cons (t := 7) rfl (.cons (t := 8) rfl (.cons (t := 9) rfl (.cons (t := 59) rfl (.cons (t := 66) rfl (.cons (t := 76) rfl .nil))))))))); clear s174
              refine cond_split s175 (.tmp rfl) (fun hc11 => ?_) (fun hc11 => ?_)
              · replace h54 := ite_t hc11 h54
                have h55 := h54; clear h54
                refine wp_seq_k fun K40 hK40 => ?_
                refine wp_region_lit ?_
                refine seq_op s175 rfl rfl (of_decide_eq_true rfl) (ob_move rfl (.tmp rfl)) fun a176 w176 s176 => ?_; clear s175
                refine seq_op s176 rfl rfl (of_decide_eq_true rfl) (ob_fieldAddr (off' := 5) rfl Try.underlying30 rfl sz23 (by decide) (.tmp rfl) rfl) fun a177 w177 s177 => ?_; clear s176
                refine seq_op s177 rfl rfl (of_decide_eq_true rfl) (ob_load rfl tk23 (.tmp rfl) (.head _) (lg_caballaw12_Act_Keep x6)) fun a178 w178 s178 => ?_; clear s177
                obtain ⟨x26, e_x26, h56⟩ := bind_some h55; clear h55
                refine seq_opx (B' := (fun gg : Value × Value => [BF b1 87 (ko_disk_Disk_0_1 gg.1 gg.2) (⟨[], [], x26.fuse, x26.dead⟩ : disk_Disk), RowF gg.1 91 (karr 256 (kint .u8)) x26.firm, RowF gg.2 93 k_disk_write x26.loose, BF b3 30 k_caballaw12_Act x6, BF b2 52 (ko_cabalref12_Disk_0_1_2 v8 v9 v10) (⟨[], [], [], y5, y6⟩ : cabalref12_Disk), RowF v8 9 kstr y9, RowF v9 3 (kint .i64) y10, RowF v10 9 kstr y11])) s178 rfl rfl (of_decide_eq_true rfl) (ob_callL (args := [_, _]) (L := [_, _, _]) rfl .direct hb17 (toFront [_] (toFront [_, _] (toFront [_, _] (List.Perm.refl _)))) (fun a w s fs gs hf hg => by obtain rfl := hf.unnil; obtain rfl := hg.unnil; exact c_disk_Disk_Crash k _ _ _ e_x26 _ _ _ _ _ _ _ (ownL s) (disL s) (nodL s) (s.arg (.tmp rfl)) (s.arg (.tmp rfl))) (by exact fun _ => rfl)) fun gg179 a179 w179 s179 => ?_; clear s178
                obtain ⟨v31, v32⟩ := gg179
                refine wpList_nil ?_
                refine then_normal ?_
                refine hK40 _ _ ?_
                have s180 := s179.sub (.cons (t := 1) rfl (.cons (t := 5) rfl (.cons (t := 6) rfl (.cons (t := 7) rfl (.cons (t := 8) rfl (.cons (t := 9) rfl (.cons (t := 59) rfl (.cons (t := 66) rfl (.cons (t := 76) rfl .nil))))))))); clear s179
                refine wp_region_lit ?_
                refine seq_op s180 rfl rfl (of_decide_eq_true rfl) (ob_move rfl (.tmp rfl)) fun a181 w181 s181 => ?_; clear s180
                refine seq_op s181 rfl rfl (of_decide_eq_true rfl) (ob_fieldAddr (off' := 5) rfl Try.underlying30 rfl sz23 (by decide) (.tmp rfl) rfl) fun a182 w182 s182 => ?_; clear s181
                refine seq_op s182 rfl rfl (of_decide_eq_true rfl) (ob_load rfl tk23 (.tmp rfl) (.tail _ (.tail _ (.tail _ (.head _)))) (lg_caballaw12_Act_Keep x6)) fun a183 w183 s183 => ?_; clear s182
                obtain ⟨x27, e_x27, h57⟩ := bind_some h56; clear h56
                refine seq_opx (B' := (fun gg : Value × Value × Value => [BF b2 52 (ko_cabalref12_Disk_0_1_2 gg.1 gg.2.1 gg.2.2) (⟨[], [], [], x27.Fuse, x27.Dead⟩ : cabalref12_Disk), RowF gg.1 9 kstr x27.Firm, RowF gg.2.1 3 (kint .i64) x27.At, RowF gg.2.2 9 kstr x27.Data, BF b1 87 (ko_disk_Disk_0_1 v31 v32) (⟨[], [], x26.fuse, x26.dead⟩ : disk_Disk), RowF v31 91 (karr 256 (kint .u8)) x26.firm, RowF v32 93 k_disk_write x26.loose, BF b3 30 k_caballaw12_Act x6])) s183 rfl rfl (of_decide_eq_true rfl) (ob_callL (args := [_, _]) (L := [_, _, _, _]) rfl .direct hb24 (toFront [_, _, _, _] (toFront [_, _, _, _] (toFront [_, _, _, _] (toFront [_, _, _, _] (List.Perm.refl _))))) (fun a w s fs gs hf hg => by obtain rfl := hf.unnil; obtain rfl := hg.unnil; exact c_cabalref12_Disk_Crash k _ _ _ e_x27 _ _ _ _ _ _ _ _ (ownL s) (disL s) (nodL s) (s.arg (.tmp rfl)) (s.arg (.tmp rfl))) (by exact fun _ => rfl)) fun gg184 a184 w184 s184 => ?_; clear s183
                obtain ⟨v33, v34, v35⟩ := gg184
                refine wpList_nil ?_
                refine in_normal ?_
                refine then_normal ?_
                have s185 := St.drop (A := [_, _, _, _, _, _, _]) s184; clear s184
                have s186 := s185.perm (toFront [_, _, _, _] (toFront [] (toFront [_, _, _] (toFront [_, _, _] (toFront [] (toFront [] (toFront [] (List.Perm.refl _)))))))); clear s185
                exact hj4 true x26.fuse x26.dead x27.Fuse x27.Dead x26.firm x26.loose x27.Firm x27.At x27.Data v31 v32 v33 v34 v35 _ _ h57 (s186.sub (.cons rfl (.cons rfl (.cons rfl (.cons rfl (.cons rfl .nil))))))
              · replace h54 := ite_f hc11 h54
                have h58 := h54; clear h54
                refine wp_skip ?_
                refine in_normal ?_
                refine then_normal ?_
                have s187 := St.drop (A := []) s175; clear s175
                exact hj4 true y3 y4 y5 y6 y7 y8 y9 y10 y11 v6 v7 v8 v9 v10 _ _ h58 (s187.sub (.cons rfl (.cons rfl (.cons rfl (.cons rfl (.cons rfl .nil))))))
      · replace h11 := ite_f hc2 h11
        have h59 := h11; clear h11
        refine wp_exit ?_
        refine (then_exit (then_exit (in_here ?_)))
        refine then_normal ?_
        have s188 := St.drop (A := []) s37; clear s37
        have s189 := St.drop (A := []) s188; clear s188
        have s190 := St.drop (A := []) s189; clear s189
        have s191 := St.drop (A := []) s190; clear s190
        have s192 := St.drop (A := []) s191; clear s191
        have s193 := St.drop (A := []) s192; clear s192
        have s194 := St.drop (A := []) s193; clear s193
        exact hj2 _ _ h59 (s194.sub .nil)
    refine cond_split s12 (.tmp rfl) (fun hc12 => ?_) (fun hc12 => ?_)
    · replace h3 := ite_t hc12 h3
      have h60 := h3; clear h3
      refine wp_region_lit ?_
      refine seq_op s12 rfl rfl (of_decide_eq_true rfl) (ob_assign rfl (opd_int rfl)) fun a195 w195 s195 => ?_; clear s12
      refine wpList_nil ?_
      refine then_normal ?_
      exact hj1 (10 : Int) _ _ h60 (s195.sub (.cons rfl (.cons rfl .nil)))
    · replace h3 := ite_f hc12 h3
      have h61 := h3; clear h3
      refine wp_skip ?_
      refine then_normal ?_
      exact hj1 p1 _ _ h61 (s12.sub (.cons rfl (.cons rfl .nil)))

end Go.Proofs.Ytlcddcamnkgeeaa
