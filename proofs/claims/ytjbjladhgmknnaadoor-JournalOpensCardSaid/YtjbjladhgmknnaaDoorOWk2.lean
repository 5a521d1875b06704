/- Several parts of this proof in one file. No condition. -/
import Derived.Test.YtjbjladhgmknnaaDoorOWk1
namespace Go.Proofs.YtjbjladhgmknnaaDoor
open Go Go.RowKit Go.Proofs.Kit Go.Proofs.Pure
set_option linter.unusedVariables false
set_option linter.unusedSimpArgs false
set_option maxRecDepth 100000
set_option maxHeartbeats 2000000
theorem c_wire_Reader_Number (k : Nat) (p1 : wire_Reader) (r : (Int × wire_Reader)) (h0 : wire_Reader_Number k p1 = some r) (ok : Ok) (w0 : World) (z0 : Value) (b00 : Nat) (l0 : ∀ q, q ∈ [BF b00 129 k_wire_Reader p1] → q.holds ok w0) (d0 : ∀ c, c ∈ idsOf [BF b00 129 k_wire_Reader p1] → ¬ ok c) (nd : (idsOf [BF b00 129 k_wire_Reader p1]).Nodup) (u0 : (ptrB b00 0).holds ok w0 z0) :
 GivesX Tryd.prog 92 [z0] ok w0 [BF b00 129 k_wire_Reader p1] (fun g : Unit => resFact [(kint .u32).V r.1]) (fun g : Unit => [BF b00 129 k_wire_Reader r.2]) := by
 unfold wire_Reader_Number at h0
 refine enterX (N := 31) Tryd.func92 rfl rfl (of_decide_eq_true rfl) (.cons u0 .nil) nd l0 d0 fun a1 s1 => ?_
 refine wp_seq_k fun K1 hK1 => wp_region_lit (qs s1 (.c1 rfl (ob_assign rfl (opd_int rfl)) (.ce (u 0 rfl .nil))) fun _ _ s3 => wn hK1 ?_); clear s1
 refine wp_seq_k fun K2 hK2 => wp_seq_k fun K3 hK3 => ?_
 refine wp_region_lit (qs s3 (.c1 rfl (mv rfl rfl) (.c1 rfl (ob_nilCheck rfl (.tmp rfl)) (.c1 rfl (ob_fieldAddr (off' := 1) rfl Tryd.underlying129 rfl sz27 (by decide) (.tmp rfl) rfl) (.c1 rfl (ob_load rfl tk27 (.tmp rfl) (.head _) (lg_wire_Reader_err p1)) (.c1 rfl (ob_neq rfl (.tmp rfl) (opd_int rfl)) (.ce (u 0 rfl (u 10 rfl .nil)))))))) fun _ _ s9 => wn hK3 ?_); clear s3
 refine cond_split s9 (.tmp rfl) (fun hc1 => ?_) (fun hc1 => ?_)
 ·have h1 := ite_t hc1 h0; clear h0
  refine wp_seq_k fun K4 hK4 => wp_region_lit (qs s9 (.c1 rfl (ob_assign rfl (opd_int rfl)) (.ce (u 2 rfl .nil))) fun _ _ s11 => wn hK4 ?_); clear s9
  refine wp_ret ?_
  obtain rfl := Option.some.inj h1
  exact leaveXD (D := []) () s11 rfl (.inl rfl) rfl (.cons (.tmp rfl) .nil) rfl
 ·have h2 := ite_f hc1 h0; clear h0
  refine wp_skip ?_
  refine then_normal (hK2 _ _ ?_)
  have s12 := s9.sub (u 0 rfl .nil); clear s9
  obtain ⟨x1, e_x1, h3⟩ := bind_some h2; clear h2
  refine wp_seq_k fun K5 hK5 => wp_region_lit (qs s12 (.c1 rfl (mv rfl rfl) (.c1 rfl ((ob_lendG (L := [_]) (List.Perm.refl _) (.cons (t := 12) rfl (lendPtrB (.head _) (LG.refl _ _)) .nil) (Flat.res3 (Flat.V (KFlat.int _)) (Flat.V (KFlat.int _)) (Flat.V (KFlat.int _))) (fun _ => ob_callD0 (args := [_]) rfl .direct hb94 (fun a w s => by exact c_wire_Reader_number k _ _ e_x1 _ _ _ (s.arg (.tmp rfl)))))) (.c1 rfl (mv rfl rfl) (.c1 rfl (ob_extract rfl (.tmp rfl) rfl) (.c1 rfl (ob_extract rfl (.tmp rfl) rfl) (.c1 rfl (ob_extract rfl (.tmp rfl) rfl) (.c1 rfl (ob_assign rfl (.tmp rfl)) (.c1 rfl (ob_assign rfl (.tmp rfl)) (.c1 rfl (ob_assign rfl (.tmp rfl)) (.ce (u 0 rfl (u 3 rfl (u 4 rfl (u 5 rfl .nil)))))))))))))) fun _ _ s22 => wn hK5 ?_); clear s12
  obtain ⟨x2, e_x2, h4⟩ := bind_some h3; clear h3
  refine wp_seq_k fun K6 hK6 => wp_region_lit (qs s22 (.c1 rfl (mv rfl rfl) (.c1 rfl (mv rfl rfl) (.c1 rfl (mv rfl rfl) (.c1 rfl (ob_nilCheck rfl (.tmp rfl)) (.c1 rfl (ob_fieldAddr (off' := 0) rfl Tryd.underlying129 rfl sz9 (by decide) (.tmp rfl) rfl) (.c1 rfl (ob_load rfl tk9 (.tmp rfl) (.head _) (lg_wire_Reader_s p1)) (.c1 rfl (mv rfl rfl) (.c1 rfl (ob_cutStr rfl Tryd.underlying9 (.tmp rfl) (.some (.tmp rfl)) .none e_x2) (.c1 rfl (mv rfl rfl) (.c1 rfl (ob_nilCheck rfl (.tmp rfl)) (.c1 rfl (ob_fieldAddr (off' := 0) rfl Tryd.underlying129 rfl sz9 (by decide) (.tmp rfl) rfl) .cz))))))))))) fun _ _ s33 => ?_); clear s22
  refine seq_opx0 (B' := (fun _ : Unit => [BF b00 129 k_wire_Reader ({ p1 with s := x2 })])) s33 rfl rfl (ob_store (A := []) rfl tk9 (.tmp rfl) (.tmp rfl) rfl (ls_wire_Reader_s p1 x2) rfl) fun _ a34 w34 s34 => ?_; clear s33
  refine qs s34 (.c1 rfl (ob_nilCheck rfl (.tmp rfl)) (.c1 rfl (ob_fieldAddr (off' := 1) rfl Tryd.underlying129 rfl sz27 (by decide) (.tmp rfl) rfl) .cz)) fun _ _ s36 => ?_; clear s34
  refine seq_opx0 (B' := (fun _ : Unit => [BF b00 129 k_wire_Reader ({ { p1 with s := x2 } with err := x1.2.2 })])) s36 rfl rfl (ob_store (A := []) rfl tk27 (.tmp rfl) (.tmp rfl) rfl (ls_wire_Reader_err ({ p1 with s := x2 }) x1.2.2) rfl) fun _ a37 w37 s37 => ?_; clear s36
  refine wn hK6 ?_
  have s38 := s37.sub (u 3 rfl .nil); clear s37
  refine wp_seq_k fun K7 hK7 => wp_region_lit (qs s38 (.c1 rfl (mv rfl rfl) (.c1 rfl (ob_assign rfl (.tmp rfl)) (.ce (u 2 rfl .nil)))) fun _ _ s41 => wn hK7 ?_); clear s38
  refine wp_ret ?_
  obtain rfl := Option.some.inj h4
  exact leaveXD (D := []) () s41 rfl (.inl rfl) rfl (.cons (.tmp rfl) .nil) rfl
theorem c_wire_Reader_count (k : Nat) (p1 : wire_Reader) (p2 : Int) (r : (Int × wire_Reader)) (h0 : wire_Reader_count k p1 p2 = some r) (ok : Ok) (w0 : World) (z0 : Value) (z1 : Value) (b00 : Nat) (l0 : ∀ q, q ∈ [BF b00 129 k_wire_Reader p1] → q.holds ok w0) (d0 : ∀ c, c ∈ idsOf [BF b00 129 k_wire_Reader p1] → ¬ ok c) (nd : (idsOf [BF b00 129 k_wire_Reader p1]).Nodup) (u0 : (ptrB b00 0).holds ok w0 z0) (u1 : ((kint .i64).V p2).holds ok w0 z1) :
 GivesX Tryd.prog 85 [z0, z1] ok w0 [BF b00 129 k_wire_Reader p1] (fun g : Unit => resFact [(kint .i64).V r.1]) (fun g : Unit => [BF b00 129 k_wire_Reader r.2]) := by
 unfold wire_Reader_count at h0
 refine enterX (N := 34) Tryd.func85 rfl rfl (of_decide_eq_true rfl) (.cons u0 (.cons u1 .nil)) nd l0 d0 fun a1 s1 => ?_
 refine wp_seq_k fun K1 hK1 => wp_region_lit (qs s1 (.c1 rfl (ob_assign rfl (opd_int rfl)) (.ce (u 0 rfl (u 1 rfl .nil)))) fun _ _ s3 => wn hK1 ?_); clear s1
 refine wp_seq_k fun K2 hK2 => wp_region_lit (qs s3 (.c1 rfl (mv rfl rfl) (.c1 rfl (ob_nilCheck rfl (.tmp rfl)) (.c1 rfl (ob_fieldAddr (off' := 0) rfl Tryd.underlying129 rfl sz9 (by decide) (.tmp rfl) rfl) (.c1 rfl (ob_load rfl tk9 (.tmp rfl) (.head _) (lg_wire_Reader_s p1)) (.c1 rfl (ob_assign rfl (.tmp rfl)) (.ce (u 0 rfl (u 1 rfl (u 5 rfl .nil))))))))) fun _ _ s9 => wn hK2 ?_); clear s3
 obtain ⟨x1, e_x1, h1⟩ := bind_some h0; clear h0
 refine wp_seq_k fun K3 hK3 => wp_region_lit (qs s9 (.c1 rfl (mv rfl rfl) .cz) fun _ _ s10 => ?_); clear s9
 refine qx (B' := (fun _ : Unit => [BF b00 129 k_wire_Reader x1.2])) s10 rfl (ob_callL0 (args := [_]) (L := [_]) rfl .direct hb92 (List.Perm.refl _) (fun a w s => by exact c_wire_Reader_Number k _ _ e_x1 _ _ _ _ (ownL s) (disL s) (nodL s) (s.arg (.tmp rfl))) (by exact fun _ => rfl)) fun _ _ _ s11 => ?_; clear s10
 refine qs s11 (.c1 rfl (ob_assign rfl (.tmp rfl)) (.ce (u 0 rfl (u 1 rfl (u 5 rfl (u 6 rfl .nil)))))) fun _ _ s13 => wn hK3 ?_; clear s11
 refine wp_seq_k fun K4 hK4 => wp_seq_k fun K5 hK5 => ?_
 obtain ⟨x2, e_x2, h2⟩ := bind_some h1; clear h1; replace e_x2 := Option.some.inj e_x2
 refine wp_region_lit (qs s13 (.c1 rfl (mv rfl rfl) (.c1 rfl (ob_nilCheck rfl (.tmp rfl)) (.c1 rfl (ob_fieldAddr (off' := 1) rfl Tryd.underlying129 rfl sz27 (by decide) (.tmp rfl) rfl) (.c1 rfl (ob_load rfl tk27 (.tmp rfl) (.head _) (lg_wire_Reader_err x1.2)) (.c1 rfl (ob_eql rfl (.tmp rfl) (opd_int rfl)) (.c1 rfl (mv rfl rfl) (.cg rfl rfl rfl rfl (fun hb => ob_move rfl (.tmp rfl)) (.cg rfl rfl rfl rfl (fun hb => (Ob.uncond (t := 19) hb rfl (ob_conv rfl _ Tryd.underlying116 Tryd.underlying2 (.tmp rfl)))) (.cg rfl rfl rfl rfl (fun hb => ob_move rfl (.tmp rfl)) (.cg rfl rfl rfl rfl (fun hb => (Ob.uncond (t := 21) hb rfl (ob_max rfl (.tmp rfl) (opd_int rfl)))) (.cg rfl rfl rfl rfl (fun hb => (Ob.uncond (t := 22) hb rfl ((Ob.uncond (t := 20) hb rfl ((ob_gtr rfl (.tmp rfl) (.tmp rfl)).nm e_x2))))) (.c1 rfl (ob_and2 rfl (.tmp rfl) (.tmp rfl) opd_bool) (.ce (u 0 rfl (u 5 rfl (u 6 rfl (u 24 rfl .nil))))))))))))))))) fun _ _ s26 => wn hK5 ?_); clear s13
 refine cond_split s26 (.tmp rfl) (fun hc1 => ?_) (fun hc1 => ?_)
 ·have h3 := ite_t hc1 h2; clear h2
  refine wp_seq_k fun K6 hK6 => wp_region_lit (qs s26 (.c1 rfl (mv rfl rfl) (.c1 rfl (mv rfl rfl) (.c1 rfl (mv rfl rfl) (.c1 rfl (ob_nilCheck rfl (.tmp rfl)) (.c1 rfl (ob_fieldAddr (off' := 0) rfl Tryd.underlying129 rfl sz9 (by decide) (.tmp rfl) rfl) .cz))))) fun _ _ s31 => ?_); clear s26
  refine seq_opx0 (B' := (fun _ : Unit => [BF b00 129 k_wire_Reader ({ x1.2 with s := p1.s })])) s31 rfl rfl (ob_store (A := []) rfl tk9 (.tmp rfl) (.tmp rfl) rfl (ls_wire_Reader_s x1.2 p1.s) rfl) fun _ a32 w32 s32 => ?_; clear s31
  refine qs s32 (.c1 rfl (ob_nilCheck rfl (.tmp rfl)) (.c1 rfl (ob_fieldAddr (off' := 1) rfl Tryd.underlying129 rfl sz27 (by decide) (.tmp rfl) rfl) .cz)) fun _ _ s34 => ?_; clear s32
  refine seq_opx0 (B' := (fun _ : Unit => [BF b00 129 k_wire_Reader ({ { x1.2 with s := p1.s } with err := (5 : Int) })])) s34 rfl rfl (ob_store (A := []) rfl tk27 (.tmp rfl) (opd_int rfl) rfl (ls_wire_Reader_err ({ x1.2 with s := p1.s }) (5 : Int)) rfl) fun _ a35 w35 s35 => ?_; clear s34
  refine wn hK6 ?_
  have s36 := s35.sub .nil; clear s35
  refine wp_seq_k fun K7 hK7 => wp_region_lit (qs s36 (.c1 rfl (ob_assign rfl (opd_int rfl)) (.ce (u 4 rfl .nil))) fun _ _ s38 => wn hK7 ?_); clear s36
  refine wp_ret ?_
  obtain rfl := Option.some.inj h3
  exact leaveXD (D := []) () s38 rfl (.inl rfl) rfl (.cons (.tmp rfl) .nil) rfl
 ·have h4 := ite_f hc1 h2; clear h2
  refine wp_skip ?_
  refine then_normal (hK4 _ _ ?_)
  have s39 := s26.sub (u 6 rfl .nil); clear s26
  refine wp_seq_k fun K8 hK8 => wp_region_lit (qs s39 (.c1 rfl (mv rfl rfl) (.c1 rfl (ob_conv rfl _ Tryd.underlying116 Tryd.underlying3 (.tmp rfl)) (.c1 rfl (ob_assign rfl (.tmp rfl)) (.ce (u 4 rfl .nil))))) fun _ _ s43 => wn hK8 ?_); clear s39
  refine wp_ret ?_
  obtain rfl := Option.some.inj h4
  exact leaveXD (D := []) () s43 rfl (.inl rfl) rfl (.cons (.tmp rfl) .nil) rfl
theorem c_wire_Reader_take (k : Nat) (p1 : wire_Reader) (p2 : Int) (r : ((List Int) × wire_Reader)) (h0 : wire_Reader_take k p1 p2 = some r) (ok : Ok) (w0 : World) (z0 : Value) (z1 : Value) (b00 : Nat) (l0 : ∀ q, q ∈ [BF b00 129 k_wire_Reader p1] → q.holds ok w0) (d0 : ∀ c, c ∈ idsOf [BF b00 129 k_wire_Reader p1] → ¬ ok c) (nd : (idsOf [BF b00 129 k_wire_Reader p1]).Nodup) (u0 : (ptrB b00 0).holds ok w0 z0) (u1 : ((kint .i64).V p2).holds ok w0 z1) :
 GivesX Tryd.prog 84 [z0, z1] ok w0 [BF b00 129 k_wire_Reader p1] (fun g : Unit => resFact [kstr.V r.1]) (fun g : Unit => [BF b00 129 k_wire_Reader r.2]) := by
 unfold wire_Reader_take at h0
 refine enterX (N := 44) Tryd.func84 rfl rfl (of_decide_eq_true rfl) (.cons u0 (.cons u1 .nil)) nd l0 d0 fun a1 s1 => ?_
 refine wp_seq_k fun K1 hK1 => wp_region_lit (qs s1 (.c1 rfl (ob_assign rfl (opd_str (by rfl) (by decide))) (.ce (u 0 rfl (u 1 rfl .nil)))) fun _ _ s3 => wn hK1 ?_); clear s1
 refine wp_seq_k fun K2 hK2 => wp_seq_k fun K3 hK3 => ?_
 obtain ⟨x1, e_x1, h1⟩ := bind_some h0; clear h0; replace e_x1 := Option.some.inj e_x1
 refine wp_region_lit (qs s3 (.c1 rfl (mv rfl rfl) (.c1 rfl (ob_nilCheck rfl (.tmp rfl)) (.c1 rfl (ob_fieldAddr (off' := 1) rfl Tryd.underlying129 rfl sz27 (by decide) (.tmp rfl) rfl) (.c1 rfl (ob_load rfl tk27 (.tmp rfl) (.head _) (lg_wire_Reader_err p1)) (.c1 rfl (ob_eql rfl (.tmp rfl) (opd_int rfl)) (.c1 rfl (mv rfl rfl) (.cg rfl rfl rfl rfl (fun hb => ob_move rfl (.tmp rfl)) (.cg rfl rfl rfl rfl (fun hb => ob_move rfl (.tmp rfl)) (.cg rfl rfl rfl rfl (fun hb => (Ob.uncond (t := 13) hb rfl (ob_nilCheck rfl (.tmp rfl)))) (.cg rfl rfl rfl rfl (fun hb => (Ob.uncond (t := 14) hb rfl (ob_fieldAddr (off' := 0) rfl Tryd.underlying129 rfl sz9 (by decide) (.tmp rfl) rfl))) (.cg rfl rfl rfl rfl (fun hb => (Ob.uncond (t := 15) hb rfl (ob_load rfl tk9 (.tmp rfl) (.head _) (lg_wire_Reader_s p1)))) (.cg rfl rfl rfl rfl (fun hb => (Ob.uncond (t := 16) hb rfl (ob_lenStr rfl Tryd.underlying9 (.tmp rfl)))) (.cg rfl rfl rfl rfl (fun hb => (Ob.uncond (t := 17) hb rfl ((Ob.uncond (t := 12) hb rfl (ob_gtr rfl (.tmp rfl) (.tmp rfl)))))) (.c1 rfl ((ob_and2 rfl (.tmp rfl) (.tmp rfl) opd_bool).nm e_x1) (.ce (u 0 rfl (u 1 rfl (u 19 rfl .nil)))))))))))))))))) fun _ _ s18 => wn hK3 ?_); clear s3
 have hj1 : ∀ (y1 : wire_Reader) (a : Act) (w : World), (wire_Reader_take.j1 k p2) y1 = some r → St ⟨44, w0, ok, (idsOf [BF b00 129 k_wire_Reader p1])⟩ [BF b00 129 k_wire_Reader y1] [(0, (ptrB b00 0)), (1, ((kint .i64).V p2))] a w → K2 a w := by
  intro y1 a19 w19 h2 s19
  unfold wire_Reader_take.j1 at h2
  refine hK2 _ _ ?_
  refine wp_seq_k fun K4 hK4 => wp_seq_k fun K5 hK5 => ?_
  refine wp_region_lit (qs s19 (.c1 rfl (mv rfl rfl) (.c1 rfl (ob_nilCheck rfl (.tmp rfl)) (.c1 rfl (ob_fieldAddr (off' := 1) rfl Tryd.underlying129 rfl sz27 (by decide) (.tmp rfl) rfl) (.c1 rfl (ob_load rfl tk27 (.tmp rfl) (.head _) (lg_wire_Reader_err y1)) (.c1 rfl (ob_neq rfl (.tmp rfl) (opd_int rfl)) (.ce (u 0 rfl (u 1 rfl (u 27 rfl .nil))))))))) fun _ _ s25 => wn hK5 ?_); clear s19
  refine cond_split s25 (.tmp rfl) (fun hc1 => ?_) (fun hc1 => ?_)
  ·have h3 := ite_t hc1 h2; clear h2
   refine wp_seq_k fun K6 hK6 => wp_region_lit (qs s25 (.c1 rfl (ob_assign rfl (opd_str (by rfl) (by decide))) (.ce (u 4 rfl .nil))) fun _ _ s27 => wn hK6 ?_); clear s25
   refine wp_ret ?_
   obtain rfl := Option.some.inj h3
   exact leaveXD (D := []) () s27 rfl (.inl rfl) rfl (.cons (.tmp rfl) .nil) rfl
  ·have h4 := ite_f hc1 h2; clear h2
   refine wp_skip ?_
   refine then_normal (hK4 _ _ ?_)
   have s28 := s25.sub (u 0 rfl (u 1 rfl .nil)); clear s25
   obtain ⟨x2, e_x2, h5⟩ := bind_some h4; clear h4
   refine wp_seq_k fun K7 hK7 => wp_region_lit (qs s28 (.c1 rfl (mv rfl rfl) (.c1 rfl (ob_nilCheck rfl (.tmp rfl)) (.c1 rfl (ob_fieldAddr (off' := 0) rfl Tryd.underlying129 rfl sz9 (by decide) (.tmp rfl) rfl) (.c1 rfl (ob_load rfl tk9 (.tmp rfl) (.head _) (lg_wire_Reader_s y1)) (.c1 rfl (mv rfl rfl) (.c1 rfl (ob_cutStr rfl Tryd.underlying9 (.tmp rfl) .none (.some (.tmp rfl)) e_x2) (.c1 rfl (ob_assign rfl (.tmp rfl)) (.ce (u 0 rfl (u 1 rfl (u 5 rfl .nil))))))))))) fun _ _ s36 => wn hK7 ?_); clear s28
   obtain ⟨x3, e_x3, h6⟩ := bind_some h5; clear h5
   refine wp_seq_k fun K8 hK8 => wp_region_lit (qs s36 (.c1 rfl (mv rfl rfl) (.c1 rfl (mv rfl rfl) (.c1 rfl (ob_nilCheck rfl (.tmp rfl)) (.c1 rfl (ob_fieldAddr (off' := 0) rfl Tryd.underlying129 rfl sz9 (by decide) (.tmp rfl) rfl) (.c1 rfl (ob_load rfl tk9 (.tmp rfl) (.head _) (lg_wire_Reader_s y1)) (.c1 rfl (mv rfl rfl) (.c1 rfl (ob_cutStr rfl Tryd.underlying9 (.tmp rfl) (.some (.tmp rfl)) .none e_x3) (.c1 rfl (ob_nilCheck rfl (.tmp rfl)) (.c1 rfl (ob_fieldAddr (off' := 0) rfl Tryd.underlying129 rfl sz9 (by decide) (.tmp rfl) rfl) .cz))))))))) fun _ _ s45 => ?_); clear s36
   refine seq_opx0 (B' := (fun _ : Unit => [BF b00 129 k_wire_Reader ({ y1 with s := x3 })])) s45 rfl rfl (ob_store (A := []) rfl tk9 (.tmp rfl) (.tmp rfl) rfl (ls_wire_Reader_s y1 x3) rfl) fun _ a46 w46 s46 => ?_; clear s45
   refine wn hK8 ?_
   have s47 := s46.sub (u 5 rfl .nil); clear s46
   refine wp_seq_k fun K9 hK9 => wp_region_lit (qs s47 (.c1 rfl (mv rfl rfl) (.c1 rfl (ob_assign rfl (.tmp rfl)) (.ce (u 4 rfl .nil)))) fun _ _ s50 => wn hK9 ?_); clear s47
   refine wp_ret ?_
   obtain rfl := Option.some.inj h6
   exact leaveXD (D := []) () s50 rfl (.inl rfl) rfl (.cons (.tmp rfl) .nil) rfl
 refine cond_split s18 (.tmp rfl) (fun hc2 => ?_) (fun hc2 => ?_)
 ·have h7 := ite_t hc2 h1; clear h1
  refine wp_region_lit (qs s18 (.c1 rfl (mv rfl rfl) (.c1 rfl (ob_nilCheck rfl (.tmp rfl)) (.c1 rfl (ob_fieldAddr (off' := 1) rfl Tryd.underlying129 rfl sz27 (by decide) (.tmp rfl) rfl) .cz))) fun _ _ s53 => ?_); clear s18
  refine seq_opx0 (B' := (fun _ : Unit => [BF b00 129 k_wire_Reader ({ p1 with err := (3 : Int) })])) s53 rfl rfl (ob_store (A := []) rfl tk27 (.tmp rfl) (opd_int rfl) rfl (ls_wire_Reader_err p1 (3 : Int)) rfl) fun _ a54 w54 s54 => ?_; clear s53
  refine wpList_nil ?_
  refine then_normal ?_
  exact hj1 ({ p1 with err := (3 : Int) }) _ _ h7 (s54.sub (.cons rfl (.cons rfl .nil)))
 ·have h8 := ite_f hc2 h1; clear h1
  refine wp_skip ?_
  refine then_normal ?_
  exact hj1 p1 _ _ h8 (s18.sub (.cons rfl (.cons rfl .nil)))
theorem c_wire_Reader_Text (k : Nat) (p1 : wire_Reader) (p2 : Int) (r : ((List Int) × wire_Reader)) (h0 : wire_Reader_Text k p1 p2 = some r) (ok : Ok) (w0 : World) (z0 : Value) (z1 : Value) (b00 : Nat) (l0 : ∀ q, q ∈ [BF b00 129 k_wire_Reader p1] → q.holds ok w0) (d0 : ∀ c, c ∈ idsOf [BF b00 129 k_wire_Reader p1] → ¬ ok c) (nd : (idsOf [BF b00 129 k_wire_Reader p1]).Nodup) (u0 : (ptrB b00 0).holds ok w0 z0) (u1 : ((kint .i64).V p2).holds ok w0 z1) :
 GivesX Tryd.prog 69 [z0, z1] ok w0 [BF b00 129 k_wire_Reader p1] (fun g : Unit => resFact [kstr.V r.1]) (fun g : Unit => [BF b00 129 k_wire_Reader r.2]) := by
 unfold wire_Reader_Text at h0
 refine enterX (N := 26) Tryd.func69 rfl rfl (of_decide_eq_true rfl) (.cons u0 (.cons u1 .nil)) nd l0 d0 fun a1 s1 => ?_
 refine wp_seq_k fun K1 hK1 => wp_region_lit (qs s1 (.c1 rfl (ob_assign rfl (opd_str (by rfl) (by decide))) (.ce (u 0 rfl (u 1 rfl .nil)))) fun _ _ s3 => wn hK1 ?_); clear s1
 refine wp_seq_k fun K2 hK2 => wp_region_lit (qs s3 (.c1 rfl (mv rfl rfl) (.c1 rfl (ob_nilCheck rfl (.tmp rfl)) (.c1 rfl (ob_fieldAddr (off' := 0) rfl Tryd.underlying129 rfl sz9 (by decide) (.tmp rfl) rfl) (.c1 rfl (ob_load rfl tk9 (.tmp rfl) (.head _) (lg_wire_Reader_s p1)) (.c1 rfl (ob_assign rfl (.tmp rfl)) (.ce (u 0 rfl (u 1 rfl (u 5 rfl .nil))))))))) fun _ _ s9 => wn hK2 ?_); clear s3
 obtain ⟨x1, e_x1, h1⟩ := bind_some h0; clear h0
 refine wp_seq_k fun K3 hK3 => wp_region_lit (qs s9 (.c1 rfl (mv rfl rfl) (.c1 rfl (mv rfl rfl) (.c1 rfl (mv rfl rfl) .cz))) fun _ _ s12 => ?_); clear s9
 refine qx (B' := (fun _ : Unit => [BF b00 129 k_wire_Reader x1.2])) s12 rfl (ob_callL0 (args := [_, _]) (L := [_]) rfl .direct hb85 (List.Perm.refl _) (fun a w s => by exact c_wire_Reader_count k _ _ _ e_x1 _ _ _ _ _ (ownL s) (disL s) (nodL s) (s.arg (.tmp rfl)) (s.arg (.tmp rfl))) (by exact fun _ => rfl)) fun _ _ _ s13 => ?_; clear s12
 obtain ⟨x2, e_x2, h2⟩ := bind_some h1; clear h1
 refine qx (B' := (fun _ : Unit => [BF b00 129 k_wire_Reader x2.2])) s13 rfl (ob_callL0 (args := [_, _]) (L := [_]) rfl .direct hb84 (List.Perm.refl _) (fun a w s => by exact c_wire_Reader_take k _ _ _ e_x2 _ _ _ _ _ (ownL s) (disL s) (nodL s) (s.arg (.tmp rfl)) (s.arg (.tmp rfl))) (by exact fun _ => rfl)) fun _ _ _ s14 => ?_; clear s13
 refine qs s14 (.c1 rfl (ob_assign rfl (.tmp rfl)) (.ce (u 0 rfl (u 5 rfl (u 6 rfl .nil))))) fun _ _ s16 => wn hK3 ?_; clear s14
 refine wp_seq_k fun K4 hK4 => wp_seq_k fun K5 hK5 => ?_
 refine wp_region_lit (qs s16 (.c1 rfl (mv rfl rfl) (.c1 rfl (ob_nilCheck rfl (.tmp rfl)) (.c1 rfl (ob_fieldAddr (off' := 1) rfl Tryd.underlying129 rfl sz27 (by decide) (.tmp rfl) rfl) (.c1 rfl (ob_load rfl tk27 (.tmp rfl) (.head _) (lg_wire_Reader_err x2.2)) (.c1 rfl (ob_neq rfl (.tmp rfl) (opd_int rfl)) (.ce (u 0 rfl (u 5 rfl (u 6 rfl (u 20 rfl .nil)))))))))) fun _ _ s22 => wn hK5 ?_); clear s16
 have hj1 : ∀ (y1 : wire_Reader) (a : Act) (w : World), (wire_Reader_Text.j1 k x2) y1 = some r → St ⟨26, w0, ok, (idsOf [BF b00 129 k_wire_Reader p1])⟩ [BF b00 129 k_wire_Reader y1] [(6, (kstr.V x2.1))] a w → K4 a w := by
  intro y1 a23 w23 h3 s23
  unfold wire_Reader_Text.j1 at h3
  refine hK4 _ _ ?_
  refine wp_seq_k fun K6 hK6 => wp_region_lit (qs s23 (.c1 rfl (mv rfl rfl) (.c1 rfl (ob_assign rfl (.tmp rfl)) (.ce (u 4 rfl .nil)))) fun _ _ s26 => wn hK6 ?_); clear s23
  refine wp_ret ?_
  obtain rfl := Option.some.inj h3
  exact leaveXD (D := []) () s26 rfl (.inl rfl) rfl (.cons (.tmp rfl) .nil) rfl
 refine cond_split s22 (.tmp rfl) (fun hc1 => ?_) (fun hc1 => ?_)
 ·have h4 := ite_t hc1 h2; clear h2
  refine wp_region_lit (qs s22 (.c1 rfl (mv rfl rfl) (.c1 rfl (mv rfl rfl) (.c1 rfl (ob_nilCheck rfl (.tmp rfl)) (.c1 rfl (ob_fieldAddr (off' := 0) rfl Tryd.underlying129 rfl sz9 (by decide) (.tmp rfl) rfl) .cz)))) fun _ _ s30 => ?_); clear s22
  refine seq_opx0 (B' := (fun _ : Unit => [BF b00 129 k_wire_Reader ({ x2.2 with s := p1.s })])) s30 rfl rfl (ob_store (A := []) rfl tk9 (.tmp rfl) (.tmp rfl) rfl (ls_wire_Reader_s x2.2 p1.s) rfl) fun _ a31 w31 s31 => ?_; clear s30
  refine wpList_nil ?_
  refine then_normal ?_
  exact hj1 ({ x2.2 with s := p1.s }) _ _ h4 (s31.sub (.cons rfl .nil))
 ·have h5 := ite_f hc1 h2; clear h2
  refine wp_skip ?_
  refine then_normal ?_
  exact hj1 x2.2 _ _ h5 (s22.sub (.cons rfl .nil))
theorem c_journal_records (k : Nat) (p1 : (List Int)) (r : ((List (List Int)) × Bool)) (h0 : journal_records k p1 = some r) (ok : Ok) (w0 : World) (z0 : Value) (u0 : (kstr.V p1).holds ok w0 z0) :
 GivesX Tryd.prog 36 [z0] ok w0 [] (fun g : Value => resFact [is g, kbool.V r.2]) (fun g : Value => [RowF (g) 9 kstr r.1]) := by
 unfold journal_records at h0
 refine enterX (N := 25) Tryd.func36 rfl rfl (of_decide_eq_true rfl) (.cons u0 .nil) List.nodup_nil (fun _ h => by cases h) (fun _ h => by cases h) fun a1 s1 => ?_
 refine wp_seq_k fun K1 hK1 => wp_region_lit (qs s1 (.c1 rfl (ob_assign rfl opd_is) .cz) fun _ _ s2 => ?_); clear s1
 have s3 := St.adopt s2 (G := RowF (nilRow 4) 9 kstr []) rfl (rowNilN _ _ _ _ _); clear s2
 refine qs s3 (.c1 rfl (ob_assign rfl opd_bool) (.ce (u 0 rfl .nil))) fun _ _ s5 => wn hK1 ?_; clear s3
 have s6 := St.drop (A := []) s5; clear s5
 obtain ⟨x1, e_x1, h1⟩ := bind_some h0; clear h0
 refine wp_seq_k fun K2 hK2 => wp_region_lit (qs s6 (.c1 rfl (mv rfl rfl) .cz) fun _ _ s7 => ?_); clear s6
 refine qx (B' := (fun b1 : Nat => [BF b1 129 k_wire_Reader x1])) s7 rfl (ob_callL0 (args := [_]) (L := []) rfl .direct hb66 (List.Perm.refl _) (fun a w s => by exact c_wire_NewReader k _ _ e_x1 _ _ _ (s.arg (.tmp rfl))) (by exact fun _ => rfl)) fun b1 _ _ s8 => ?_; clear s7
 refine qs s8 (.c1 rfl (ob_assign rfl (.tmp rfl)) (.ce (u 4 rfl .nil))) fun _ _ s10 => wn hK2 ?_; clear s8
 refine wp_seq_k fun K3 hK3 => wp_region_lit (qs s10 (.c1 rfl (ob_assign rfl opd_is) .cz) fun _ _ s11 => ?_); clear s10
 have s12 := St.adopt s11 (G := RowF (nilRow 5) 9 kstr []) rfl (rowNilN _ _ _ _ _); clear s11
 refine wn hK3 ?_
 have s13 := s12.sub (u 4 rfl (u 5 rfl .nil)); clear s12
 refine wp_seq_k fun K4 hK4 => ?_
 have hj1 : ∀ (y1 : wire_Reader) (y2 : (List (List Int))) (v1 : Value) (a : Act) (w : World), (journal_records.j1 k) y1 y2 = some r → St ⟨25, w0, ok, (idsOf [])⟩ [BF b1 129 k_wire_Reader y1, RowF v1 9 kstr y2] [(4, (ptrB b1 0)), (5, (is v1))] a w → K4 a w := by
  intro y1 y2 v1 a14 w14 h2 s14
  unfold journal_records.j1 at h2
  refine hK4 _ _ ?_
  obtain ⟨x2, e_x2, h3⟩ := bind_some h2; clear h2
  refine wp_seq_k fun K5 hK5 => wp_region_lit (qs s14 (.c1 rfl (mv rfl rfl) (.c1 rfl (mv rfl rfl) (.c1 rfl ((ob_lendG (L := [_]) (List.Perm.refl _) (.cons (t := 22) rfl (lendPtrB (.head _) (LG.refl _ _)) .nil) (Flat.res1 (Flat.V (KFlat.int _))) (fun _ => ob_callD0 (args := [_]) rfl .direct hb68 (fun a w s => by exact c_wire_Reader_End k _ _ e_x2 _ _ _ (s.arg (.tmp rfl)))))) (.c1 rfl (ob_eql rfl (.tmp rfl) (opd_int rfl)) (.c1 rfl (ob_assign rfl (.tmp rfl)) (.c1 rfl (ob_assign rfl (.tmp rfl)) (.ce (u 2 rfl (u 3 rfl .nil))))))))) fun _ _ s21 => wn hK5 ?_); clear s14
  have s22 := St.drop (A := []) s21; clear s21
  refine wp_ret ?_
  obtain rfl := Option.some.inj h3
  exact leaveXD (D := []) v1 s22 rfl (.inl rfl) rfl (.cons (.tmp rfl) (.cons (.tmp rfl) .nil)) rfl
 refine wp_block ?_
 have s23 := s13.perm (toFront [_] (toFront [] (List.Perm.refl _))); clear s13
 refine wp_loop_fuel (fun m (q : wire_Reader × (List (List Int))) => journal_records.l1 k m q.1 q.2) r (fun _ => rfl) (fun q a w => ∃ (v2 : Value), St ⟨25, w0, ok, (idsOf [])⟩ [BF b1 129 k_wire_Reader q.1, RowF v2 9 kstr q.2] [(4, (ptrB b1 0)), (5, (is v2))] a w) ?_ k (x1, ([] : (List (List Int)))) _ _ h1 ⟨(nilRow 5), (s23.sub (.cons rfl (.cons rfl .nil)))⟩
 rintro n1 ⟨y3, y4⟩ a24 w24 h4 ⟨v2, s24⟩ K6 hK6
 replace h4 : journal_records.l1 k (n1 + 1) y3 y4 = some r := h4; rw [journal_records.l1] at h4
 have h5 := h4; clear h4
 refine wp_seq_k fun K7 hK7 => wp_seq_k fun K8 hK8 => ?_
 obtain ⟨x3, e_x3, h6⟩ := bind_some h5; clear h5
 obtain ⟨x4, e_x4, h7⟩ := bind_some h6; clear h6
 refine wp_region_lit (qs s24 (.c1 rfl (mv rfl rfl) (.c1 rfl ((ob_lendG (L := [_]) (List.Perm.refl _) (.cons (t := 8) rfl (lendPtrB (.head _) (LG.refl _ _)) .nil) (Flat.res1 (Flat.V (KFlat.int _))) (fun _ => ob_callD0 (args := [_]) rfl .direct hb67 (fun a w s => by exact c_wire_Reader_Left k _ _ e_x3 _ _ _ (s.arg (.tmp rfl)))))) (.c1 rfl (ob_gtr rfl (.tmp rfl) (opd_int rfl)) (.c1 rfl (mv rfl rfl) (.cg rfl rfl rfl rfl (fun hb => ob_move rfl (.tmp rfl)) (.cg rfl rfl rfl rfl (fun hb => (Ob.uncond (t := 12) hb rfl ((ob_lendG (L := [_]) (List.Perm.refl _) (.cons (t := 12) rfl (lendPtrB (.head _) (LG.refl _ _)) .nil) (Flat.res1 (Flat.V (KFlat.int _))) (fun _ => ob_callD0 (args := [_]) rfl .direct hb68 (fun a w s => by exact c_wire_Reader_End k _ _ (ite_t hb e_x4) _ _ _ (s.arg (.tmp rfl)))))))) (.cg rfl rfl rfl rfl (fun hb => (Ob.uncond (t := 13) hb rfl (ob_eql rfl (.tmp rfl) (opd_int rfl)))) (.c1 rfl (ob_and2 rfl (.tmp rfl) (.tmp rfl) opd_bool) (.ce (u 4 rfl (u 5 rfl (u 15 rfl .nil)))))))))))) fun _ _ s33 => wn hK8 ?_); clear s24
 refine cond_split s33 (.tmp rfl) (fun hc1 => ?_) (fun hc1 => ?_)
 ·have h8 := ite_t hc1 h7; clear h7
  refine wp_skip ?_
  refine then_normal (hK7 _ _ ?_)
  have s34 := s33.sub (u 4 rfl (u 5 rfl .nil)); clear s33
  refine wp_block ?_
  obtain ⟨x5, e_x5, h9⟩ := bind_some h8; clear h8
  refine wp_region_lit (qs s34 (.c1 rfl (mv rfl rfl) (.c1 rfl (mv rfl rfl) .cz)) fun _ _ s36 => ?_); clear s34
  refine qx (B' := (fun _ : Unit => [BF b1 129 k_wire_Reader x5.2, RowF v2 9 kstr y4])) s36 rfl (ob_callL0 (args := [_, _]) (L := [_]) rfl .direct hb69 (List.Perm.refl _) (fun a w s => by exact c_wire_Reader_Text k _ _ _ e_x5 _ _ _ _ _ (ownL s) (disL s) (nodL s) (s.arg (.tmp rfl)) (s.arg (opd_int rfl))) (by exact fun _ => rfl)) fun _ _ _ s37 => ?_; clear s36
  obtain ⟨g1, h10⟩ := guard_some h9; clear h9
  refine qs s37 (.c1 rfl (ob_mkSlice (k := kstr) (xs := ([x5.1] : (List (List Int)))) rfl Tryd.underlying30 zz9 sz9 Zr.str (by decide) (by decide) (.cons (.tmp rfl) rfl (LS.arr' (i := 0) (ys := ([x5.1] : (List (List Int)))) (by simp) (by rfl)) (.nil _))) .cz) fun _ _ s38 => ?_; clear s37
  refine qx (B' := (fun v3 : Value => [BF b1 129 k_wire_Reader x5.2, RowF v3 9 kstr (y4 ++ ([x5.1] : (List (List Int))))])) s38 rfl (ob_appendL2 (A := [_]) rfl Tryd.underlying30 ap9 Zr.str (by decide) (.tmp rfl) (.tmp rfl) rfl g1) fun v3 _ _ s39 => ?_; clear s38
  refine qs s39 (.c1 rfl (ob_assign rfl (.tmp rfl)) .cz) fun _ _ s40 => ?_; clear s39
  refine wpList_nil ?_
  refine in_normal ?_
  refine then_normal ?_
  exact hK6 (x5.2, (y4 ++ ([x5.1] : (List (List Int))))) _ _ h10 ⟨v3, (s40.sub (.cons rfl (.cons rfl .nil)))⟩
 ·have h11 := ite_f hc1 h7; clear h7
  refine wp_exit ?_
  refine (then_exit (then_exit (in_here ?_)))
  refine then_normal ?_
  exact hj1 y3 y4 v2 _ _ h11 (s33.sub (.cons rfl (.cons rfl .nil)))
theorem c_journal_Open (k : Nat) (p1 : disk_Disk) (r : (Bool × journal_Journal × Int × disk_Disk)) (h0 : journal_Open k p1 = some r) (ok : Ok) (w0 : World) (gl0 : (ptrTo (karr 8 (kint .u32)) G_digest_first).holds ok w0 (.pointer (some ⟨0, 0, none⟩))) (gl1 : (ptrTo (karr 64 (kint .u32)) G_digest_rounds).holds ok w0 (.pointer (some ⟨1, 0, none⟩))) (z0 : Value) (b00 : Nat) (w0_0 : Value) (w0_1 : Value) (l0 : ∀ q, q ∈ [BF b00 68 (ko_disk_Disk_0_1 w0_0 w0_1) (⟨[], [], p1.fuse, p1.dead⟩ : disk_Disk), RowF w0_0 100 (karr 256 (kint .u8)) p1.firm, RowF w0_1 102 k_disk_write p1.loose] → q.holds ok w0) (d0 : ∀ c, c ∈ idsOf [BF b00 68 (ko_disk_Disk_0_1 w0_0 w0_1) (⟨[], [], p1.fuse, p1.dead⟩ : disk_Disk), RowF w0_0 100 (karr 256 (kint .u8)) p1.firm, RowF w0_1 102 k_disk_write p1.loose] → ¬ ok c) (nd : (idsOf [BF b00 68 (ko_disk_Disk_0_1 w0_0 w0_1) (⟨[], [], p1.fuse, p1.dead⟩ : disk_Disk), RowF w0_0 100 (karr 256 (kint .u8)) p1.firm, RowF w0_1 102 k_disk_write p1.loose]).Nodup) (u0 : (ptrB b00 0).holds ok w0 z0) :
 GivesX Tryd.prog 8 [z0] ok w0 [BF b00 68 (ko_disk_Disk_0_1 w0_0 w0_1) (⟨[], [], p1.fuse, p1.dead⟩ : disk_Disk), RowF w0_0 100 (karr 256 (kint .u8)) p1.firm, RowF w0_1 102 k_disk_write p1.loose] (fun g : Nat × Value × Value => resFact [ptrO r.1 g.1, (kint .i64).V r.2.2.1]) (fun g : Nat × Value × Value => [whenO r.1 (BF g.1 70 (ko_journal_Journal_0 (.pointer (some ⟨b00, 0, none⟩))) (⟨(), r.2.1.area, r.2.1.bytes, r.2.1.l⟩ : journal_Journal)), BF b00 68 (ko_disk_Disk_0_1 (g.2.1) (g.2.2)) (⟨[], [], r.2.2.2.fuse, r.2.2.2.dead⟩ : disk_Disk), RowF (g.2.1) 100 (karr 256 (kint .u8)) r.2.2.2.firm, RowF (g.2.2) 102 k_disk_write r.2.2.2.loose]) := by
 unfold journal_Open at h0
 refine enterX (N := 98) Tryd.func8 rfl rfl (of_decide_eq_true rfl) (.cons u0 .nil) nd l0 d0 fun a1 s1 => ?_
 have s2 := s1.keepKnown 100000 gl0 (okInX (L := [BF b00 68 (ko_disk_Disk_0_1 w0_0 w0_1) (⟨[], [], p1.fuse, p1.dead⟩ : disk_Disk), RowF w0_0 100 (karr 256 (kint .u8)) p1.firm, RowF w0_1 102 k_disk_write p1.loose]) d0); clear s1
 have s3 := s2.keepKnown 100001 gl1 (okInX (L := [BF b00 68 (ko_disk_Disk_0_1 w0_0 w0_1) (⟨[], [], p1.fuse, p1.dead⟩ : disk_Disk), RowF w0_0 100 (karr 256 (kint .u8)) p1.firm, RowF w0_1 102 k_disk_write p1.loose]) d0); clear s2
 refine wp_seq_k fun K1 hK1 => wp_region_lit (qs s3 (.c1 rfl (ob_assign rfl opd_is) (.c1 rfl (ob_assign rfl (opd_int rfl)) (.ce (u 0 rfl (u 100000 rfl (u 100001 rfl .nil)))))) fun _ _ s6 => wn hK1 ?_); clear s3
 refine wp_seq_k fun K2 hK2 => wp_seq_k fun K3 hK3 => ?_
 obtain ⟨x1, e_x1, h1⟩ := bind_some h0; clear h0
 refine wp_region_lit (qs s6 (.c1 rfl (mv rfl rfl) (.c1 rfl ((ob_lendG (L := [_, _, _]) (List.Perm.refl _) (.cons (t := 11) rfl (lendObj (K' := k_disk_Disk) (X' := p1) (.head _) rfl (upo_disk_Disk_0_1 rfl (.row (LetAll.row (.tail _ (.head _)))) (.row (LetAll.row (.tail _ (.tail _ (.head _))))))) .nil) (Flat.res1 (Flat.V (KFlat.int _))) (fun _ => ob_callD0 (args := [_]) rfl .direct hb30 (fun a w s => by exact c_disk_Disk_Blocks k _ _ e_x1 _ _ _ (s.arg (.tmp rfl)))))) (.c1 rfl (ob_lss rfl (.tmp rfl) (opd_int rfl)) (.ce (u 0 rfl (u 13 rfl (u 100000 rfl (u 100001 rfl .nil)))))))) fun _ _ s10 => wn hK3 ?_); clear s6
 refine cond_split s10 (.tmp rfl) (fun hc1 => ?_) (fun hc1 => ?_)
 ·have h2 := ite_t hc1 h1; clear h1
  refine wp_seq_k fun K4 hK4 => wp_region_lit (qs s10 (.c1 rfl (ob_assign rfl opd_is) (.c1 rfl (ob_assign rfl (opd_int rfl)) (.ce (u 2 rfl (u 3 rfl (u 100000 rfl (u 100001 rfl .nil))))))) fun _ _ s13 => wn hK4 ?_); clear s10
  refine wp_ret ?_
  have s14 := St.addNo (q := BF 0 70 (ko_journal_Journal_0 (.pointer (some ⟨b00, 0, none⟩))) (⟨(), (0 : Int), [], []⟩ : journal_Journal)) s13; clear s13
  obtain rfl := Option.some.inj h2
  exact leaveXD (D := []) ⟨0, w0_0, w0_1⟩ s14 rfl (.inl rfl) rfl (.cons (.tmp rfl) (.cons (.tmp rfl) .nil)) rfl
 ·have h3 := ite_f hc1 h1; clear h1
  refine wp_skip ?_
  refine then_normal (hK2 _ _ ?_)
  have s15 := s10.sub (u 0 rfl (u 100000 rfl (u 100001 rfl .nil))); clear s10
  refine wp_seq_k fun K5 hK5 => wp_region_lit (qs s15 (.c1 rfl (mv rfl rfl) (.c1 rfl ((ob_mkObj (K0 := (ko_journal_Journal_0 (.pointer none))) (K := (ko_journal_Journal_0 (.pointer (some ⟨b00, 0, none⟩)))) (X := (⟨(), (0 : Int), [], []⟩ : journal_Journal)) rfl Tryd.underlying70 zz70 rfl rfl pl70 (Zr.iso (f := to_journal_Journal_0) (x := (⟨(), (0 : Int), [], []⟩ : journal_Journal)) (Zr.pair Zr.nilPtr (Zr.pair (Zr.int .i64) (Zr.pair Zr.str (Zr.pair (Zr.sl _) Zr.nil))))) (.cons (.conv (.tmp rfl) (is_kis rfl rfl rfl)) rfl (lsk_journal_Journal_0_to_0_at0 (⟨(), (0 : Int), [], []⟩ : journal_Journal)) (.nil _ _)))) .cz)) fun _ _ s17 => ?_); clear s15
  refine qx (B' := (fun b2 : Nat => [BF b2 70 (ko_journal_Journal_0 (.pointer (some ⟨b00, 0, none⟩))) (⟨(), (0 : Int), [], []⟩ : journal_Journal), BF b00 68 (ko_disk_Disk_0_1 w0_0 w0_1) (⟨[], [], p1.fuse, p1.dead⟩ : disk_Disk), RowF w0_0 100 (karr 256 (kint .u8)) p1.firm, RowF w0_1 102 k_disk_write p1.loose])) s17 rfl (ob_box rfl (.tmp rfl)) fun b2 _ _ s18 => ?_; clear s17
  refine qs s18 (.c1 rfl (ob_assign rfl (.tmp rfl)) (.ce (u 0 rfl (u 4 rfl (u 100000 rfl (u 100001 rfl .nil)))))) fun _ _ s20 => wn hK5 ?_; clear s18
  obtain ⟨x2, e_x2, h4⟩ := bind_some h3; clear h3
  refine wp_seq_k fun K6 hK6 => wp_region_lit (qs s20 (.c1 rfl (mv rfl rfl) (.c1 rfl ((ob_lendG (L := [_, _, _]) (toFront [_] (toFront [_] (toFront [_] (List.Perm.refl _)))) (.cons (t := 18) rfl (lendObj (K' := k_disk_Disk) (X' := p1) (.head _) rfl (upo_disk_Disk_0_1 rfl (.row (LetAll.row (.tail _ (.head _)))) (.row (LetAll.row (.tail _ (.tail _ (.head _))))))) .nil) (Flat.res2 (Flat.V KFlat.str) (Flat.V (KFlat.int _))) (fun _ => ob_callD0 (args := [_, _]) rfl .direct hb31 (fun a w s => by exact c_disk_Disk_Read k _ _ _ e_x2 _ _ _ _ (s.arg (.tmp rfl)) (s.arg (opd_int rfl)))))) (.c1 rfl (mv rfl rfl) (.c1 rfl (ob_extract rfl (.tmp rfl) rfl) (.c1 rfl (ob_extract rfl (.tmp rfl) rfl) (.c1 rfl (ob_assign rfl (.tmp rfl)) (.c1 rfl (ob_assign rfl (.tmp rfl)) (.ce (u 0 rfl (u 4 rfl (u 5 rfl (u 100000 rfl (u 100001 rfl .nil))))))))))))) fun _ _ s28 => wn hK6 ?_); clear s20
  obtain ⟨x3, e_x3, h5⟩ := bind_some h4; clear h4
  refine wp_seq_k fun K7 hK7 => wp_region_lit (qs s28 (.c1 rfl (mv rfl rfl) (.c1 rfl (ob_cutStr rfl Tryd.underlying9 (.tmp rfl) .none (.some (opd_int rfl)) e_x3) (.c1 rfl (ob_assign rfl (.tmp rfl)) (.ce (u 0 rfl (u 4 rfl (u 5 rfl (u 100000 rfl (u 100001 rfl .nil))))))))) fun _ _ s32 => wn hK7 ?_); clear s28
  refine wp_seq_k fun K8 hK8 => wp_seq_k fun K9 hK9 => ?_
  obtain ⟨x4, e_x4, h6⟩ := bind_some h5; clear h5
  refine wp_region_lit (qs s32 (.c1 rfl (mv rfl rfl) (.c1 rfl (ob_callD0 (args := [_, _]) rfl .direct hb32 (fun a w s => by exact c_journal_filled k _ _ _ e_x4 _ _ _ _ (s.arg (opd_str (by rfl) (by decide))) (s.arg (opd_int rfl)))) (.c1 rfl (ob_seql rfl (.tmp rfl) (.tmp rfl)) (.ce (u 0 rfl (u 4 rfl (u 5 rfl (u 26 rfl (u 100000 rfl (u 100001 rfl .nil)))))))))) fun _ _ s36 => wn hK9 ?_); clear s32
  refine cond_split s36 (.tmp rfl) (fun hc2 => ?_) (fun hc2 => ?_)
  ·have h7 := ite_t hc2 h6; clear h6
   refine wp_seq_k fun K10 hK10 => wp_region_lit (qs s36 (.c1 rfl (mv rfl rfl) (.c1 rfl (ob_assign rfl (.tmp rfl)) (.c1 rfl (ob_assign rfl (opd_int rfl)) (.ce (u 2 rfl (u 3 rfl (u 100000 rfl (u 100001 rfl .nil)))))))) fun _ _ s40 => wn hK10 ?_); clear s36
   refine wp_ret ?_
   have s41 := St.addYes (s40.perm (List.Perm.refl _)); clear s40
   obtain rfl := Option.some.inj h7
   exact leaveXD (D := []) ⟨b2, w0_0, w0_1⟩ s41 rfl (.inl rfl) rfl (.cons (.tmp rfl) (.cons (.tmp rfl) .nil)) rfl
  ·have h8 := ite_f hc2 h6; clear h6
   refine wp_skip ?_
   refine then_normal (hK8 _ _ ?_)
   have s42 := s36.sub (u 0 rfl (u 4 rfl (u 5 rfl (u 100000 rfl (u 100001 rfl .nil))))); clear s36
   refine wp_seq_k fun K11 hK11 => wp_region_lit (qs s42 (.c1 rfl (ob_assign rfl (opd_int rfl)) (.ce (u 0 rfl (u 4 rfl (u 5 rfl (u 7 rfl (u 100000 rfl (u 100001 rfl .nil)))))))) fun _ _ s44 => wn hK11 ?_); clear s42
   refine wp_seq_k fun K12 hK12 => ?_
   obtain ⟨x5, e_x5, h9⟩ := bind_some h8; clear h8
   obtain ⟨x6, e_x6, h10⟩ := bind_some h9; clear h9
   obtain ⟨x7, e_x7, h11⟩ := bind_some h10; clear h10; replace e_x7 := Option.some.inj e_x7
   obtain ⟨x8, e_x8, h12⟩ := bind_some h11; clear h11
   obtain ⟨x9, e_x9, h13⟩ := bind_some h12; clear h12
   refine wp_goes (Fs := [(kstr.V x3), ((kint .i64).V (4 : Int)), ((kint .i64).V (iadd .i64 (4 : Int) (1 : Int))), ((kint .u8).V x5), ((kint .i64).V (IntKind.wrap .i64 x5)), ((kint .i64).V (ishl .i64 (IntKind.wrap .i64 x5) (24 : Int))), (kstr.V x3), ((kint .i64).V (4 : Int)), ((kint .i64).V (iadd .i64 (4 : Int) (2 : Int))), ((kint .u8).V x6), ((kint .i64).V (IntKind.wrap .i64 x6)), ((kint .i64).V (ishl .i64 (IntKind.wrap .i64 x6) (16 : Int))), ((kint .i64).V x7), (kstr.V x3), ((kint .i64).V (4 : Int)), ((kint .i64).V (iadd .i64 (4 : Int) (3 : Int))), ((kint .u8).V x8), ((kint .i64).V (IntKind.wrap .i64 x8)), ((kint .i64).V (ishl .i64 (IntKind.wrap .i64 x8) (8 : Int))), ((kint .i64).V (ior .i64 x7 (ishl .i64 (IntKind.wrap .i64 x8) (8 : Int)))), (kstr.V x3), ((kint .i64).V (4 : Int)), ((kint .i64).V (iadd .i64 (4 : Int) (4 : Int))), ((kint .u8).V x9), ((kint .i64).V (IntKind.wrap .i64 x9))]) (bits := [0, 0, 2, 7, 15, 31, 0, 0, 128, 448, 960, 1984, 4095, 0, 0, 16384, 57344, 122880, 253952, 524287, 0, 0, 2097152, 7340032, 15728640, 33554431, 67108863]) (m := 25) (todo := 0) mx s44 ?_; clear s44
   refine goes_last (by kernel_rfl) rfl (oc (av 5 rfl rfl (av 100000 rfl rfl (av 100001 rfl rfl Av.nil))) rfl rfl (mv rfl rfl) (oc (av 7 rfl rfl (av 100000 rfl rfl (av 100001 rfl rfl Av.nil))) rfl rfl (mv rfl rfl) (oc (an 1 rfl rfl rfl (av 100000 rfl rfl (av 100001 rfl rfl Av.nil))) rfl rfl (ob_add rfl (.tmp rfl) (opd_int rfl)) (oc (an 0 rfl rfl rfl (an 2 rfl rfl rfl (av 100000 rfl rfl (av 100001 rfl rfl Av.nil)))) rfl rfl (ob_indexStr rfl Tryd.underlying9 (.tmp rfl) (.tmp rfl) e_x5) (oc (an 3 rfl rfl rfl (av 100000 rfl rfl (av 100001 rfl rfl Av.nil))) rfl rfl (ob_conv rfl _ Tryd.underlying5 Tryd.underlying3 (.tmp rfl)) (oc (an 4 rfl rfl rfl (av 100000 rfl rfl (av 100001 rfl rfl Av.nil))) rfl rfl (ob_shl rfl (.tmp rfl) (opd_int rfl) (by decide)) (oc (av 5 rfl rfl (av 100000 rfl rfl (av 100001 rfl rfl Av.nil))) rfl rfl (mv rfl rfl) (oc (av 7 rfl rfl (av 100000 rfl rfl (av 100001 rfl rfl Av.nil))) rfl rfl (mv rfl rfl) (oc (an 7 rfl rfl rfl (av 100000 rfl rfl (av 100001 rfl rfl Av.nil))) rfl rfl (ob_add rfl (.tmp rfl) (opd_int rfl)) (oc (an 6 rfl rfl rfl (an 8 rfl rfl rfl (av 100000 rfl rfl (av 100001 rfl rfl Av.nil)))) rfl rfl (ob_indexStr rfl Tryd.underlying9 (.tmp rfl) (.tmp rfl) e_x6) (oc (an 9 rfl rfl rfl (av 100000 rfl rfl (av 100001 rfl rfl Av.nil))) rfl rfl (ob_conv rfl _ Tryd.underlying5 Tryd.underlying3 (.tmp rfl)) (oc (an 10 rfl rfl rfl (av 100000 rfl rfl (av 100001 rfl rfl Av.nil))) rfl rfl (ob_shl rfl (.tmp rfl) (opd_int rfl) (by decide)) (oc (an 5 rfl rfl rfl (an 11 rfl rfl rfl (av 100000 rfl rfl (av 100001 rfl rfl Av.nil)))) rfl rfl ((ob_or rfl (.tmp rfl) (.tmp rfl)).nm e_x7) (oc (av 5 rfl rfl (av 100000 rfl rfl (av 100001 rfl rfl Av.nil))) rfl rfl (mv rfl rfl) (oc (av 7 rfl rfl (av 100000 rfl rfl (av 100001 rfl rfl Av.nil))) rfl rfl (mv rfl rfl) (oc (an 14 rfl rfl rfl (av 100000 rfl rfl (av 100001 rfl rfl Av.nil))) rfl rfl (ob_add rfl (.tmp rfl) (opd_int rfl)) (oc (an 13 rfl rfl rfl (an 15 rfl rfl rfl (av 100000 rfl rfl (av 100001 rfl rfl Av.nil)))) rfl rfl (ob_indexStr rfl Tryd.underlying9 (.tmp rfl) (.tmp rfl) e_x8) (oc (an 16 rfl rfl rfl (av 100000 rfl rfl (av 100001 rfl rfl Av.nil))) rfl rfl (ob_conv rfl _ Tryd.underlying5 Tryd.underlying3 (.tmp rfl)) (oc (an 17 rfl rfl rfl (av 100000 rfl rfl (av 100001 rfl rfl Av.nil))) rfl rfl (ob_shl rfl (.tmp rfl) (opd_int rfl) (by decide)) (oc (an 12 rfl rfl rfl (an 18 rfl rfl rfl (av 100000 rfl rfl (av 100001 rfl rfl Av.nil)))) rfl rfl (ob_or rfl (.tmp rfl) (.tmp rfl)) (oc (av 5 rfl rfl (av 100000 rfl rfl (av 100001 rfl rfl Av.nil))) rfl rfl (mv rfl rfl) (oc (av 7 rfl rfl (av 100000 rfl rfl (av 100001 rfl rfl Av.nil))) rfl rfl (mv rfl rfl) (oc (an 21 rfl rfl rfl (av 100000 rfl rfl (av 100001 rfl rfl Av.nil))) rfl rfl (ob_add rfl (.tmp rfl) (opd_int rfl)) (oc (an 20 rfl rfl rfl (an 22 rfl rfl rfl (av 100000 rfl rfl (av 100001 rfl rfl Av.nil)))) rfl rfl (ob_indexStr rfl Tryd.underlying9 (.tmp rfl) (.tmp rfl) e_x9) (oc (an 23 rfl rfl rfl (av 100000 rfl rfl (av 100001 rfl rfl Av.nil))) rfl rfl (ob_conv rfl _ Tryd.underlying5 Tryd.underlying3 (.tmp rfl)) opsS_nil))))))))))))))))))))))))) (out_old (t := 0) rfl rfl (out_old (t := 4) rfl rfl (out_old (t := 5) rfl rfl (out_old (t := 7) rfl rfl (out_new (i := 19) (by decide) rfl rfl (out_new (i := 24) (by decide) rfl rfl (out_old (t := 100000) rfl rfl (out_old (t := 100001) rfl rfl out_nil)))))))) fun _ _ s45 => ?_
   obtain ⟨x10, e_x10, h14⟩ := bind_some h13; clear h13; replace e_x10 := Option.some.inj e_x10
   refine qs s45 (.c1 rfl ((ob_or rfl (.tmp rfl) (.tmp rfl)).nm e_x10) (.c1 rfl (ob_assign rfl (.tmp rfl)) (.ce (u 0 rfl (u 4 rfl (u 5 rfl (u 7 rfl (u 8 rfl (u 100000 rfl (u 100001 rfl .nil)))))))))) fun _ _ s48 => wn hK12 ?_; clear s45
   obtain ⟨x11, e_x11, h15⟩ := bind_some h14; clear h14
   refine wp_seq_k fun K13 hK13 => wp_region_lit (qs s48 (.c1 rfl (mv rfl rfl) (.c1 rfl (mv rfl rfl) (.c1 rfl (mv rfl rfl) (.c1 rfl (ob_indexStr rfl Tryd.underlying9 (.tmp rfl) (.tmp rfl) e_x11) (.c1 rfl (ob_and rfl (.tmp rfl) (opd_int rfl)) (.c1 rfl (ob_conv rfl _ Tryd.underlying5 Tryd.underlying3 (.tmp rfl)) (.c1 rfl (ob_nilCheck rfl (.tmp rfl)) (.c1 rfl (ob_fieldAddr (off' := 1) rfl Tryd.underlying70 rfl sz3 (by decide) (.tmp rfl) rfl) .cz)))))))) fun _ _ s56 => ?_); clear s48
   refine seq_opx0 (B' := (fun _ : Unit => [BF b2 70 (ko_journal_Journal_0 (.pointer (some ⟨b00, 0, none⟩))) (⟨(), (IntKind.wrap .i64 (iand .u8 x11 (1 : Int))), [], []⟩ : journal_Journal), BF b00 68 (ko_disk_Disk_0_1 w0_0 w0_1) (⟨[], [], p1.fuse, p1.dead⟩ : disk_Disk), RowF w0_0 100 (karr 256 (kint .u8)) p1.firm, RowF w0_1 102 k_disk_write p1.loose])) s56 rfl rfl (ob_store (A := []) rfl tk3 (.tmp rfl) (.tmp rfl) rfl (lso_journal_Journal_0_area (⟨(), (0 : Int), [], []⟩ : journal_Journal) (IntKind.wrap .i64 (iand .u8 x11 (1 : Int)))) rfl) fun _ a57 w57 s57 => ?_; clear s56
   refine wn hK13 ?_
   have s58 := s57.sub (u 0 rfl (u 4 rfl (u 5 rfl (u 8 rfl (u 100000 rfl (u 100001 rfl .nil)))))); clear s57
   refine wp_seq_k fun K14 hK14 => wp_seq_k fun K15 hK15 => ?_
   obtain ⟨x12, e_x12, h16⟩ := bind_some h15; clear h15
   obtain ⟨x13, e_x13, h17⟩ := bind_some h16; clear h16
   obtain ⟨x14, e_x14, h18⟩ := bind_some h17; clear h17; replace e_x14 := Option.some.inj e_x14
   refine wp_region_lit (qs s58 (.c1 rfl (mv rfl rfl) (.c1 rfl (ob_nilCheck rfl (.tmp rfl)) (.c1 rfl (ob_fieldAddr (off' := 1) rfl Tryd.underlying70 rfl sz3 (by decide) (.tmp rfl) rfl) (.c1 rfl (ob_load rfl tk3 (.tmp rfl) (.head _) (lgo_journal_Journal_0_area (⟨(), (IntKind.wrap .i64 (iand .u8 x11 (1 : Int))), [], []⟩ : journal_Journal))) (.c1 rfl (mv rfl rfl) (.c1 rfl (ob_callD0 (args := [_, _]) rfl .direct hb33 (fun a w s => by exact c_journal_mark k _ _ _ e_x12 _ _ (s.env _ _ (show get _ 100000 = _ from rfl)) (s.env _ _ (show get _ 100001 = _ from rfl)) _ _ (s.arg (.tmp rfl)) (s.arg (.tmp rfl)))) (.c1 rfl (mv rfl rfl) (.c1 rfl (ob_sneq rfl (.tmp rfl) (.tmp rfl)) (.c1 rfl (mv rfl rfl) (.cg rfl rfl rfl rfl (fun hb => ob_move rfl (.tmp rfl)) (.cg rfl rfl rfl rfl (fun hb => ob_move rfl (.tmp rfl)) (.cg rfl rfl rfl rfl (fun hb => (Ob.uncond (t := 72) hb rfl ((ob_lendG (L := [_, _, _]) (toFront [_] (toFront [_] (toFront [_] (List.Perm.refl _)))) (.cons (t := 72) rfl (lendObj (K' := k_disk_Disk) (X' := p1) (.head _) rfl (upo_disk_Disk_0_1 rfl (.row (LetAll.row (.tail _ (.head _)))) (.row (LetAll.row (.tail _ (.tail _ (.head _))))))) .nil) (Flat.res1 (Flat.V (KFlat.int _))) (fun _ => ob_callD0 (args := [_]) rfl .direct hb34 (fun a w s => by exact c_journal_blocks k _ _ (ite_t hb e_x13) _ _ _ (s.arg (.tmp rfl)))))))) (.cg rfl rfl rfl rfl (fun hb => (Ob.uncond (t := 73) hb rfl (ob_mul rfl (.tmp rfl) (opd_int rfl)))) (.cg rfl rfl rfl rfl (fun hb => (Ob.uncond (t := 74) hb rfl ((Ob.uncond (t := 71) hb rfl (ob_gtr rfl (.tmp rfl) (.tmp rfl)))))) (.c1 rfl ((ob_or2 rfl (.tmp rfl) opd_bool (.tmp rfl)).nm e_x14) (.ce (u 4 rfl (u 8 rfl (u 76 rfl (u 100000 rfl (u 100001 rfl .nil))))))))))))))))))))) fun _ _ s74 => wn hK15 ?_); clear s58
   refine cond_split s74 (.tmp rfl) (fun hc3 => ?_) (fun hc3 => ?_)
   ·have h19 := ite_t hc3 h18; clear h18
    refine wp_seq_k fun K16 hK16 => wp_region_lit (qs s74 (.c1 rfl (ob_assign rfl opd_is) (.c1 rfl (ob_assign rfl (opd_int rfl)) (.ce (u 2 rfl (u 3 rfl (u 100000 rfl (u 100001 rfl .nil))))))) fun _ _ s77 => wn hK16 ?_); clear s74
    have s78 := St.drop (A := []) s77; clear s77
    refine wp_ret ?_
    have s79 := St.addNo (q := BF 0 70 (ko_journal_Journal_0 (.pointer (some ⟨b00, 0, none⟩))) (⟨(), (0 : Int), [], []⟩ : journal_Journal)) s78; clear s78
    obtain rfl := Option.some.inj h19
    exact leaveXD (D := []) ⟨0, w0_0, w0_1⟩ s79 rfl (.inl rfl) rfl (.cons (.tmp rfl) (.cons (.tmp rfl) .nil)) rfl
   ·have h20 := ite_f hc3 h18; clear h18
    refine wp_skip ?_
    refine then_normal (hK14 _ _ ?_)
    have s80 := s74.sub (u 4 rfl (u 8 rfl (u 100000 rfl (u 100001 rfl .nil)))); clear s74
    obtain ⟨x15, e_x15, h21⟩ := bind_some h20; clear h20
    refine wp_seq_k fun K17 hK17 => wp_region_lit (qs s80 (.c1 rfl (mv rfl rfl) (.c1 rfl (mv rfl rfl) (.c1 rfl (mv rfl rfl) .cz))) fun _ _ s83 => ?_); clear s80
    refine qx (B' := (fun _ : Unit => [BF b2 70 (ko_journal_Journal_0 (.pointer (some ⟨b00, 0, none⟩))) (⟨(), (IntKind.wrap .i64 (iand .u8 x11 (1 : Int))), [], []⟩ : journal_Journal), BF b00 68 (ko_disk_Disk_0_1 w0_0 w0_1) (⟨[], [], p1.fuse, p1.dead⟩ : disk_Disk), RowF w0_0 100 (karr 256 (kint .u8)) p1.firm, RowF w0_1 102 k_disk_write p1.loose])) s83 rfl (ob_callL0 (args := [_, _]) (L := [_, _, _, _]) rfl .direct hb35 (List.Perm.refl _) (fun a w s => by exact c_journal_Journal_read k _ _ _ _ e_x15 _ _ _ _ _ _ _ _ (ownL s) (disL s) (nodL s) (s.arg (.tmp rfl)) (s.arg (.tmp rfl))) (by exact fun _ => rfl)) fun _ _ _ s84 => ?_; clear s83
    refine qs s84 (.c1 rfl (ob_nilCheck rfl (.tmp rfl)) (.c1 rfl (ob_fieldAddr (off' := 2) rfl Tryd.underlying70 rfl sz9 (by decide) (.tmp rfl) rfl) .cz)) fun _ _ s86 => ?_; clear s84
    refine seq_opx0 (B' := (fun _ : Unit => [BF b2 70 (ko_journal_Journal_0 (.pointer (some ⟨b00, 0, none⟩))) (⟨(), (IntKind.wrap .i64 (iand .u8 x11 (1 : Int))), x15, []⟩ : journal_Journal), BF b00 68 (ko_disk_Disk_0_1 w0_0 w0_1) (⟨[], [], p1.fuse, p1.dead⟩ : disk_Disk), RowF w0_0 100 (karr 256 (kint .u8)) p1.firm, RowF w0_1 102 k_disk_write p1.loose])) s86 rfl rfl (ob_store (A := []) rfl tk9 (.tmp rfl) (.tmp rfl) rfl (lso_journal_Journal_0_bytes (⟨(), (IntKind.wrap .i64 (iand .u8 x11 (1 : Int))), [], []⟩ : journal_Journal) x15) rfl) fun _ a87 w87 s87 => ?_; clear s86
    refine wn hK17 ?_
    have s88 := s87.sub (u 4 rfl (u 100000 rfl (u 100001 rfl .nil))); clear s87
    obtain ⟨x16, e_x16, h22⟩ := bind_some h21; clear h21
    refine wp_seq_k fun K18 hK18 => wp_region_lit (qs s88 (.c1 rfl (mv rfl rfl) (.c1 rfl (ob_nilCheck rfl (.tmp rfl)) (.c1 rfl (ob_fieldAddr (off' := 2) rfl Tryd.underlying70 rfl sz9 (by decide) (.tmp rfl) rfl) (.c1 rfl (ob_load rfl tk9 (.tmp rfl) (.head _) (lgo_journal_Journal_0_bytes (⟨(), (IntKind.wrap .i64 (iand .u8 x11 (1 : Int))), x15, []⟩ : journal_Journal))) .cz)))) fun _ _ s92 => ?_); clear s88
    refine qx (B' := (fun v1 : Value => [RowF v1 9 kstr x16.1, BF b2 70 (ko_journal_Journal_0 (.pointer (some ⟨b00, 0, none⟩))) (⟨(), (IntKind.wrap .i64 (iand .u8 x11 (1 : Int))), x15, []⟩ : journal_Journal), BF b00 68 (ko_disk_Disk_0_1 w0_0 w0_1) (⟨[], [], p1.fuse, p1.dead⟩ : disk_Disk), RowF w0_0 100 (karr 256 (kint .u8)) p1.firm, RowF w0_1 102 k_disk_write p1.loose])) s92 rfl (ob_callL0 (args := [_]) (L := []) rfl .direct hb36 (List.Perm.refl _) (fun a w s => by exact c_journal_records k _ _ e_x16 _ _ _ (s.arg (.tmp rfl))) (by exact fun _ => rfl)) fun v1 _ _ s93 => ?_; clear s92
    refine qs s93 (.c1 rfl (mv rfl rfl) (.c1 rfl (ob_extract rfl (.tmp rfl) rfl) (.c1 rfl (ob_extract rfl (.tmp rfl) rfl) (.c1 rfl (ob_assign rfl (.tmp rfl)) (.c1 rfl (ob_assign rfl (.tmp rfl)) (.ce (u 4 rfl (u 9 rfl (u 10 rfl (u 100000 rfl (u 100001 rfl .nil))))))))))) fun _ _ s99 => wn hK18 ?_; clear s93
    refine wp_seq_k fun K19 hK19 => wp_seq_k fun K20 hK20 => ?_
    refine wp_region_lit (qs s99 (.c1 rfl (mv rfl rfl) (.c1 rfl (ob_not rfl (.tmp rfl)) (.ce (u 4 rfl (u 9 rfl (u 92 rfl (u 100000 rfl (u 100001 rfl .nil)))))))) fun _ _ s102 => wn hK20 ?_); clear s99
    refine cond_split s102 (.tmp rfl) (fun hc4 => ?_) (fun hc4 => ?_)
    ·have h23 := ite_t hc4 h22; clear h22
     refine wp_seq_k fun K21 hK21 => wp_region_lit (qs s102 (.c1 rfl (ob_assign rfl opd_is) (.c1 rfl (ob_assign rfl (opd_int rfl)) (.ce (u 2 rfl (u 3 rfl (u 100000 rfl (u 100001 rfl .nil))))))) fun _ _ s105 => wn hK21 ?_); clear s102
     have s106 := St.drop (A := []) s105; clear s105
     have s107 := St.drop (A := []) s106; clear s106
     refine wp_ret ?_
     have s108 := St.addNo (q := BF 0 70 (ko_journal_Journal_0 (.pointer (some ⟨b00, 0, none⟩))) (⟨(), (0 : Int), [], []⟩ : journal_Journal)) s107; clear s107
     obtain rfl := Option.some.inj h23
     exact leaveXD (D := []) ⟨0, w0_0, w0_1⟩ s108 rfl (.inl rfl) rfl (.cons (.tmp rfl) (.cons (.tmp rfl) .nil)) rfl
    ·have h24 := ite_f hc4 h22; clear h22
     refine wp_skip ?_
     refine then_normal (hK19 _ _ ?_)
     have s109 := s102.sub (u 4 rfl (u 9 rfl (u 100000 rfl (u 100001 rfl .nil)))); clear s102
     refine wp_seq_k fun K22 hK22 => wp_region_lit (qs s109 (.c1 rfl (mv rfl rfl) (.c1 rfl (mv rfl rfl) (.c1 rfl (ob_nilCheck rfl (.tmp rfl)) (.c1 rfl (ob_fieldAddr (off' := 3) rfl Tryd.underlying70 rfl sz30 (by decide) (.tmp rfl) rfl) .cz)))) fun _ _ s113 => ?_); clear s109
     have s114 := St.freezeAllM (A := []) s113 (ts := [9, 94]) (.cons rfl (.cons rfl .nil)); clear s113
     refine seq_opx0 (B' := (fun _ : Unit => [BF b2 70 (ko_journal_Journal_0 (.pointer (some ⟨b00, 0, none⟩))) (⟨(), (IntKind.wrap .i64 (iand .u8 x11 (1 : Int))), x15, x16.1⟩ : journal_Journal), BF b00 68 (ko_disk_Disk_0_1 w0_0 w0_1) (⟨[], [], p1.fuse, p1.dead⟩ : disk_Disk), RowF w0_0 100 (karr 256 (kint .u8)) p1.firm, RowF w0_1 102 k_disk_write p1.loose])) s114 rfl rfl (ob_store (A := []) rfl tk30 (.tmp rfl) (.tmp rfl) rfl (lso_journal_Journal_0_l (⟨(), (IntKind.wrap .i64 (iand .u8 x11 (1 : Int))), x15, []⟩ : journal_Journal) x16.1) rfl) fun _ a115 w115 s115 => ?_; clear s114
     refine wn hK22 ?_
     have s116 := s115.sub (u 4 rfl (u 100000 rfl (u 100001 rfl .nil))); clear s115
     refine wp_seq_k fun K23 hK23 => wp_region_lit (qs s116 (.c1 rfl (mv rfl rfl) (.c1 rfl (ob_assign rfl (.tmp rfl)) (.c1 rfl (ob_assign rfl (opd_int rfl)) (.ce (u 2 rfl (u 3 rfl (u 100000 rfl (u 100001 rfl .nil)))))))) fun _ _ s120 => wn hK23 ?_); clear s116
     refine wp_ret ?_
     have s121 := St.addYes (s120.perm (List.Perm.refl _)); clear s120
     obtain rfl := Option.some.inj h24
     exact leaveXD (D := []) ⟨b2, w0_0, w0_1⟩ s121 rfl (.inl rfl) rfl (.cons (.tmp rfl) (.cons (.tmp rfl) .nil)) rfl
theorem c_wire_Writer_Numbers (k : Nat) (p1 : wire_Writer) (p2 : (List Int)) (r : wire_Writer) (h0 : wire_Writer_Numbers k p1 p2 = some r) (ok : Ok) (w0 : World) (z0 : Value) (z1 : Value) (b00 : Nat) (w0_0 : Value) (l0 : ∀ q, q ∈ [BF b00 79 (ko_wire_Writer_0 w0_0) (⟨[]⟩ : wire_Writer), RowF w0_0 5 (kint .u8) p1.out] → q.holds ok w0) (d0 : ∀ c, c ∈ idsOf [BF b00 79 (ko_wire_Writer_0 w0_0) (⟨[]⟩ : wire_Writer), RowF w0_0 5 (kint .u8) p1.out] → ¬ ok c) (nd : (idsOf [BF b00 79 (ko_wire_Writer_0 w0_0) (⟨[]⟩ : wire_Writer), RowF w0_0 5 (kint .u8) p1.out]).Nodup) (u0 : (ptrB b00 0).holds ok w0 z0) (u1 : ((ksl (kint .u32)).V p2).holds ok w0 z1) :
 GivesX Tryd.prog 70 [z0, z1] ok w0 [BF b00 79 (ko_wire_Writer_0 w0_0) (⟨[]⟩ : wire_Writer), RowF w0_0 5 (kint .u8) p1.out] (fun g : Value => resFact []) (fun g : Value => [BF b00 79 (ko_wire_Writer_0 (g)) (⟨[]⟩ : wire_Writer), RowF (g) 5 (kint .u8) r.out]) := by
 unfold wire_Writer_Numbers at h0
 refine enterX (N := 48) Tryd.func70 rfl rfl (of_decide_eq_true rfl) (.cons u0 (.cons u1 .nil)) nd l0 d0 fun a1 s1 => ?_
 refine wp_seq_k fun K1 hK1 => wp_region_lit (qs s1 (.c1 rfl (mv rfl rfl) (.c1 rfl (ob_lens rfl Tryd.underlying130 (.tmp rfl)) (.c1 rfl (ob_move rfl (opd_int rfl)) (.ce (u 0 rfl (u 7 rfl (u 8 rfl (u 9 rfl .nil)))))))) fun _ _ s5 => wn hK1 ?_); clear s1
 refine wp_block ?_
 refine wp_loop_fuel (fun m (q : Int × (List Int)) => wire_Writer_Numbers.l1 k p2 m q.1 q.2) r (fun _ => rfl) (fun q a w => ∃ (v1 : Value), St ⟨48, w0, ok, (idsOf [BF b00 79 (ko_wire_Writer_0 w0_0) (⟨[]⟩ : wire_Writer), RowF w0_0 5 (kint .u8) p1.out])⟩ [BF b00 79 (ko_wire_Writer_0 v1) (⟨[]⟩ : wire_Writer), RowF v1 5 (kint .u8) q.2] [(0, (ptrB b00 0)), (7, ((ksl (kint .u32)).V p2)), (8, ((kint .i64).V (p2.length : Int))), (9, ((kint .i64).V q.1))] a w) ?_ k ((0 : Int), p1.out) _ _ h0 ⟨w0_0, (s5.sub (.cons rfl (.cons rfl (.cons rfl (.cons rfl .nil)))))⟩
 rintro n1 ⟨y1, y2⟩ a6 w6 h1 ⟨v1, s6⟩ K2 hK2
 replace h1 : wire_Writer_Numbers.l1 k p2 (n1 + 1) y1 y2 = some r := h1; rw [wire_Writer_Numbers.l1] at h1
 have h2 := h1; clear h1
 refine wp_seq_k fun K3 hK3 => wp_region_lit (qs s6 (.c1 rfl (ob_lss rfl (.tmp rfl) (.tmp rfl)) (.ce (u 0 rfl (u 7 rfl (u 8 rfl (u 9 rfl (u 10 rfl .nil))))))) fun _ _ s8 => wn hK3 ?_); clear s6
 refine wp_seq_k fun K4 hK4 => ?_
 refine cond_split s8 (.tmp rfl) (fun hc1 => ?_) (fun hc1 => ?_)
 ·have h3 := ite_t hc1 h2; clear h2
  refine wp_skip ?_
  refine then_normal (hK4 _ _ ?_)
  have s9 := s8.sub (u 0 rfl (u 7 rfl (u 8 rfl (u 9 rfl .nil)))); clear s8
  refine wp_seq_k fun K5 hK5 => ?_
  have hj1 : ∀ (y3 : (List Int)) (v3 : Value) (a : Act) (w : World), (wire_Writer_Numbers.j1 k y1 (wire_Writer_Numbers.l1 k p2 n1)) y3 = some r → St ⟨48, w0, ok, (idsOf [BF b00 79 (ko_wire_Writer_0 w0_0) (⟨[]⟩ : wire_Writer), RowF w0_0 5 (kint .u8) p1.out])⟩ [BF b00 79 (ko_wire_Writer_0 v3) (⟨[]⟩ : wire_Writer), RowF v3 5 (kint .u8) y3] [(0, (ptrB b00 0)), (7, ((ksl (kint .u32)).V p2)), (8, ((kint .i64).V (p2.length : Int))), (9, ((kint .i64).V y1))] a w → K5 a w := by
   intro y3 v3 a10 w10 h4 s10
   unfold wire_Writer_Numbers.j1 at h4
   refine hK5 _ _ ?_
   refine wp_region_lit (qs s10 (.c1 rfl (ob_add rfl (.tmp rfl) (opd_int rfl)) (.c1 rfl (mv rfl rfl) .cz)) fun _ _ s12 => ?_); clear s10
   refine wpList_nil ?_
   refine then_normal ?_
   exact hK2 ((iadd .i64 y1 (1 : Int)), y3) _ _ h4 ⟨v3, (s12.sub (.cons rfl (.cons rfl (.cons rfl (.cons rfl .nil)))))⟩
  refine wp_block ?_
  obtain ⟨x1, e_x1, h5⟩ := bind_some h3; clear h3
  refine wp_seq_k fun K6 hK6 => wp_region_lit (qs s9 (.c1 rfl (ob_indexAddrs rfl Tryd.underlying130 sz116 (.tmp rfl) (.tmp rfl) e_x1) (.c1 rfl (ob_loadr rfl tk116 (.tmp rfl)) (.c1 rfl (ob_assign rfl (.tmp rfl)) (.ce (u 0 rfl (u 5 rfl (u 7 rfl (u 8 rfl (u 9 rfl .nil))))))))) fun _ _ s16 => wn hK6 ?_); clear s9
  refine wp_seq_k fun K7 hK7 => wp_seq_k fun K8 hK8 => ?_
  refine wp_region_lit (qs s16 (.c1 rfl (ob_assign rfl (opd_int rfl)) (.ce (u 0 rfl (u 5 rfl (u 6 rfl (u 7 rfl (u 8 rfl (u 9 rfl .nil)))))))) fun _ _ s18 => wn hK8 ?_); clear s16
  have hj2 : ∀ (y4 : (List Int)) (v2 : Value) (a : Act) (w : World), (wire_Writer_Numbers.j2 k x1 y1 (wire_Writer_Numbers.l1 k p2 n1)) y4 = some r → St ⟨48, w0, ok, (idsOf [BF b00 79 (ko_wire_Writer_0 w0_0) (⟨[]⟩ : wire_Writer), RowF w0_0 5 (kint .u8) p1.out])⟩ [BF b00 79 (ko_wire_Writer_0 v2) (⟨[]⟩ : wire_Writer), RowF v2 5 (kint .u8) y4] [(0, (ptrB b00 0)), (5, ((kint .u32).V x1)), (7, ((ksl (kint .u32)).V p2)), (8, ((kint .i64).V (p2.length : Int))), (9, ((kint .i64).V y1))] a w → K7 a w := by
   intro y4 v2 a19 w19 h6 s19
   unfold wire_Writer_Numbers.j2 at h6
   refine hK7 _ _ ?_
   obtain ⟨g1, h7⟩ := guard_some h6; clear h6
   refine wp_region_lit (qs s19 (.c1 rfl (mv rfl rfl) (.c1 rfl (mv rfl rfl) (.c1 rfl (ob_nilCheck rfl (.tmp rfl)) (.c1 rfl (ob_fieldAddr (off' := 0) rfl Tryd.underlying79 rfl sz31 (by decide) (.tmp rfl) rfl) (.c1 rfl (ob_loadRowV rfl (tkr31 _) (.tmp rfl) (.head _) (lgo_wire_Writer_0_out (⟨[]⟩ : wire_Writer))) (.c1 rfl (mv rfl rfl) (.c1 rfl (ob_conv rfl _ Tryd.underlying116 Tryd.underlying5 (.tmp rfl)) (.c1 rfl (ob_andNot rfl (.tmp rfl) (opd_int rfl)) (.c1 rfl (ob_mkSlice (k := (kint .u8)) (xs := ([(iandn .u8 (IntKind.wrap .u8 x1) (128 : Int))] : (List Int))) rfl Tryd.underlying31 zz5 sz5 (Zr.int .u8) (by decide) (by decide) (.cons (.tmp rfl) rfl (LS.arr' (i := 0) (ys := ([(iandn .u8 (IntKind.wrap .u8 x1) (128 : Int))] : (List Int))) (by simp) (by rfl)) (.nil _))) .cz))))))))) fun _ _ s28 => ?_); clear s19
   refine qx (B' := (fun v3 : Value => [BF b00 79 (ko_wire_Writer_0 v2) (⟨[]⟩ : wire_Writer), RowF v3 5 (kint .u8) (y4 ++ ([(iandn .u8 (IntKind.wrap .u8 x1) (128 : Int))] : (List Int)))])) s28 rfl (ob_appendL2 (A := [_]) rfl Tryd.underlying31 ap5 (Zr.int .u8) (by decide) (.tmp rfl) (.tmp rfl) rfl g1) fun v3 _ _ s29 => ?_; clear s28
   refine qs s29 (.c1 rfl (ob_nilCheck rfl (.tmp rfl)) (.c1 rfl (ob_fieldAddr (off' := 0) rfl Tryd.underlying79 rfl sz31 (by decide) (.tmp rfl) rfl) .cz)) fun _ _ s31 => ?_; clear s29
   refine seq_opx0 (B' := (fun _ : Unit => [BF b00 79 (ko_wire_Writer_0 v3) (⟨[]⟩ : wire_Writer), RowF v3 5 (kint .u8) (y4 ++ ([(iandn .u8 (IntKind.wrap .u8 x1) (128 : Int))] : (List Int)))])) s31 rfl rfl (ob_storeRowV (A := []) rfl (tkr31 _) (.tmp rfl) (.tmp rfl) (.tail _ (.head _)) rfl (lsk_wire_Writer_0_to_0_at0 (⟨[]⟩ : wire_Writer)) rfl) fun _ a32 w32 s32 => ?_; clear s31
   refine wpList_nil ?_
   refine in_normal ?_
   refine then_normal ?_
   exact hj1 (y4 ++ ([(iandn .u8 (IntKind.wrap .u8 x1) (128 : Int))] : (List Int))) v3 _ _ h7 (s32.sub (.cons rfl (.cons rfl (.cons rfl (.cons rfl .nil)))))
  refine wp_block ?_
  refine wp_loop_fuel (fun m (q : Int × (List Int)) => wire_Writer_Numbers.l2 k x1 y1 (wire_Writer_Numbers.l1 k p2 n1) m q.1 q.2) r (fun _ => rfl) (fun q a w => ∃ (v4 : Value), St ⟨48, w0, ok, (idsOf [BF b00 79 (ko_wire_Writer_0 w0_0) (⟨[]⟩ : wire_Writer), RowF w0_0 5 (kint .u8) p1.out])⟩ [BF b00 79 (ko_wire_Writer_0 v4) (⟨[]⟩ : wire_Writer), RowF v4 5 (kint .u8) q.2] [(0, (ptrB b00 0)), (5, ((kint .u32).V x1)), (6, ((kint .i64).V q.1)), (7, ((ksl (kint .u32)).V p2)), (8, ((kint .i64).V (p2.length : Int))), (9, ((kint .i64).V y1))] a w) ?_ k ((28 : Int), y2) _ _ h5 ⟨v1, (s18.sub (.cons rfl (.cons rfl (.cons rfl (.cons rfl (.cons rfl (.cons rfl .nil)))))))⟩
  rintro n2 ⟨y5, y6⟩ a33 w33 h8 ⟨v4, s33⟩ K9 hK9
  replace h8 : wire_Writer_Numbers.l2 k x1 y1 (wire_Writer_Numbers.l1 k p2 n1) (n2 + 1) y5 y6 = some r := h8; rw [wire_Writer_Numbers.l2] at h8
  have h9 := h8; clear h8
  refine wp_seq_k fun K10 hK10 => wp_seq_k fun K11 hK11 => ?_
  refine wp_region_lit (qs s33 (.c1 rfl (mv rfl rfl) (.c1 rfl (ob_gtr rfl (.tmp rfl) (opd_int rfl)) (.ce (u 0 rfl (u 5 rfl (u 6 rfl (u 7 rfl (u 8 rfl (u 9 rfl (u 14 rfl .nil)))))))))) fun _ _ s36 => wn hK11 ?_); clear s33
  refine cond_split s36 (.tmp rfl) (fun hc2 => ?_) (fun hc2 => ?_)
  ·have h10 := ite_t hc2 h9; clear h9
   refine wp_skip ?_
   refine then_normal (hK10 _ _ ?_)
   have s37 := s36.sub (u 0 rfl (u 5 rfl (u 6 rfl (u 7 rfl (u 8 rfl (u 9 rfl .nil)))))); clear s36
   refine wp_seq_k fun K12 hK12 => ?_
   have hj3 : ∀ (y7 : (List Int)) (v5 : Value) (a : Act) (w : World), (wire_Writer_Numbers.j3 k y5 (wire_Writer_Numbers.l2 k x1 y1 (wire_Writer_Numbers.l1 k p2 n1) n2)) y7 = some r → St ⟨48, w0, ok, (idsOf [BF b00 79 (ko_wire_Writer_0 w0_0) (⟨[]⟩ : wire_Writer), RowF w0_0 5 (kint .u8) p1.out])⟩ [BF b00 79 (ko_wire_Writer_0 v5) (⟨[]⟩ : wire_Writer), RowF v5 5 (kint .u8) y7] [(0, (ptrB b00 0)), (5, ((kint .u32).V x1)), (6, ((kint .i64).V y5)), (7, ((ksl (kint .u32)).V p2)), (8, ((kint .i64).V (p2.length : Int))), (9, ((kint .i64).V y1))] a w → K12 a w := by
    intro y7 v5 a38 w38 h11 s38
    unfold wire_Writer_Numbers.j3 at h11
    refine hK12 _ _ ?_
    refine wp_region_lit (qs s38 (.c1 rfl (mv rfl rfl) (.c1 rfl (ob_sub rfl (.tmp rfl) (opd_int rfl)) (.c1 rfl (ob_assign rfl (.tmp rfl)) .cz))) fun _ _ s41 => ?_); clear s38
    refine wpList_nil ?_
    refine then_normal ?_
    exact hK9 ((isub .i64 y5 (7 : Int)), y7) _ _ h11 ⟨v5, (s41.sub (.cons rfl (.cons rfl (.cons rfl (.cons rfl (.cons rfl (.cons rfl .nil)))))))⟩
   refine wp_block ?_
   obtain ⟨g2, h12⟩ := guard_some h10; clear h10
   refine wp_seq_k fun K13 hK13 => wp_region_lit (qs s37 (.c1 rfl (mv rfl rfl) (.c1 rfl (mv rfl rfl) (.c1 rfl (ob_shr rfl (.tmp rfl) (.tmp rfl) g2) (.c1 rfl (ob_gtr rfl (.tmp rfl) (opd_int rfl)) (.ce (u 0 rfl (u 5 rfl (u 6 rfl (u 7 rfl (u 8 rfl (u 9 rfl (u 20 rfl .nil)))))))))))) fun _ _ s46 => wn hK13 ?_); clear s37
   refine cond_split s46 (.tmp rfl) (fun hc3 => ?_) (fun hc3 => ?_)
   ·have h13 := ite_t hc3 h12; clear h12
    obtain ⟨g3, h14⟩ := guard_some h13; clear h13
    obtain ⟨x2, e_x2, h15⟩ := bind_some h14; clear h14; replace e_x2 := Option.some.inj e_x2
    obtain ⟨g4, h16⟩ := guard_some h15; clear h15
    refine wp_goes (Fs := [(ptrB b00 0), (ptrB b00 0), (ptrB b00 0), (ptrB b00 0), (is v4), ((kint .u32).V x1), ((kint .i64).V y5), ((kint .u32).V (ishr .u32 x1 y5)), ((kint .u8).V (IntKind.wrap .u8 (ishr .u32 x1 y5))), ((kint .u8).V (ior .u8 (IntKind.wrap .u8 (ishr .u32 x1 y5)) (128 : Int))), ((ksl (kint .u8)).V x2), nofact]) (bits := [0, 0, 2, 6, 14, 0, 0, 96, 224, 480, 992, 2046, 4095, 8191, 16383]) (m := 12) (todo := 2048) mx s46 ?_; clear s46
    refine goes_turn (B' := (fun v6 : Value => [BF b00 79 (ko_wire_Writer_0 v4) (⟨[]⟩ : wire_Writer), RowF v6 5 (kint .u8) (y6 ++ x2)])) (Fs' := (fun v6 : Value => setAll ([(ptrB b00 0), (ptrB b00 0), (ptrB b00 0), (ptrB b00 0), (is v4), ((kint .u32).V x1), ((kint .i64).V y5), ((kint .u32).V (ishr .u32 x1 y5)), ((kint .u8).V (IntKind.wrap .u8 (ishr .u32 x1 y5))), ((kint .u8).V (ior .u8 (IntKind.wrap .u8 (ishr .u32 x1 y5)) (128 : Int))), ((ksl (kint .u8)).V x2), nofact]) [(11, (is v6))])) 11 2048 4094 0 (by kernel_rfl) rfl rfl rfl (oc (av 0 rfl rfl Av.nil) rfl rfl (mv rfl rfl) (oc (av 0 rfl rfl Av.nil) rfl rfl (mv rfl rfl) (oc (an 1 rfl rfl rfl Av.nil) rfl rfl (ob_nilCheck rfl (.tmp rfl)) (oc (an 2 rfl rfl rfl Av.nil) rfl rfl (ob_fieldAddr (off' := 0) rfl Tryd.underlying79 rfl sz31 (by decide) (.tmp rfl) rfl) (oc (an 3 rfl rfl rfl Av.nil) rfl rfl (ob_loadRowV rfl (tkr31 _) (.tmp rfl) (.head _) (lgo_wire_Writer_0_out (⟨[]⟩ : wire_Writer))) (oc (av 5 rfl rfl Av.nil) rfl rfl (mv rfl rfl) (oc (av 6 rfl rfl Av.nil) rfl rfl (mv rfl rfl) (oc (an 5 rfl rfl rfl (an 6 rfl rfl rfl Av.nil)) rfl rfl (ob_shr rfl (.tmp rfl) (.tmp rfl) g3) (oc (an 7 rfl rfl rfl Av.nil) rfl rfl (ob_conv rfl _ Tryd.underlying116 Tryd.underlying5 (.tmp rfl)) (oc (an 8 rfl rfl rfl Av.nil) rfl rfl (ob_or rfl (.tmp rfl) (opd_int rfl)) (oc (an 9 rfl rfl rfl Av.nil) rfl rfl ((ob_mkSlice (k := (kint .u8)) (xs := ([(ior .u8 (IntKind.wrap .u8 (ishr .u32 x1 y5)) (128 : Int))] : (List Int))) rfl Tryd.underlying31 zz5 sz5 (Zr.int .u8) (by decide) (by decide) (.cons (.tmp rfl) rfl (LS.arr' (i := 0) (ys := ([(ior .u8 (IntKind.wrap .u8 (ishr .u32 x1 y5)) (128 : Int))] : (List Int))) (by simp) (by rfl)) (.nil _))).nm e_x2) (opsS_skip (by rfl) opsS_nil)))))))))))) (.plain _ (an 4 rfl rfl rfl (an 10 rfl rfl rfl Av.nil)) rfl (fun _ => rfl) (fun R => ob_appendL2 (A := [_]) rfl Tryd.underlying31 ap5 (Zr.int .u8) (by decide) (.tmp rfl) (.tmp rfl) rfl g4)) (setAll_same (us := (fun v6 : Value => [(11, (is v6))])) fun _ => by kernel_rfl) fun v6 => ?_
    refine goes_last (by kernel_rfl) rfl (oc (av 0 rfl rfl Av.nil) rfl rfl (mv rfl rfl) (opsS_skip (by rfl) (opsS_skip (by rfl) (opsS_skip (by rfl) (opsS_skip (by rfl) (opsS_skip (by rfl) (opsS_skip (by rfl) (opsS_skip (by rfl) (opsS_skip (by rfl) (opsS_skip (by rfl) (opsS_skip (by rfl) (opsS_skip (by rfl) opsS_nil)))))))))))) (out_old (t := 0) rfl rfl (out_old (t := 5) rfl rfl (out_old (t := 6) rfl rfl (out_old (t := 7) rfl rfl (out_old (t := 8) rfl rfl (out_old (t := 9) rfl rfl (out_new (i := 0) (by decide) rfl rfl (out_new (i := 11) (by decide) rfl rfl out_nil)))))))) fun _ _ s47 => ?_
    refine qs s47 (.c1 rfl (ob_nilCheck rfl (.tmp rfl)) (.c1 rfl (ob_fieldAddr (off' := 0) rfl Tryd.underlying79 rfl sz31 (by decide) (.tmp rfl) rfl) .cz)) fun _ _ s49 => ?_; clear s47
    refine seq_opx0 (B' := (fun _ : Unit => [BF b00 79 (ko_wire_Writer_0 v6) (⟨[]⟩ : wire_Writer), RowF v6 5 (kint .u8) (y6 ++ x2)])) s49 rfl rfl (ob_storeRowV (A := []) rfl (tkr31 _) (.tmp rfl) (.tmp rfl) (.tail _ (.head _)) rfl (lsk_wire_Writer_0_to_0_at0 (⟨[]⟩ : wire_Writer)) rfl) fun _ a50 w50 s50 => ?_; clear s49
    refine wpList_nil ?_
    refine in_normal ?_
    refine then_normal ?_
    exact hj3 (y6 ++ x2) v6 _ _ h16 (s50.sub (.cons rfl (.cons rfl (.cons rfl (.cons rfl (.cons rfl (.cons rfl .nil)))))))
   ·have h17 := ite_f hc3 h12; clear h12
    refine wp_skip ?_
    refine in_normal ?_
    refine then_normal ?_
    exact hj3 y6 v4 _ _ h17 (s46.sub (.cons rfl (.cons rfl (.cons rfl (.cons rfl (.cons rfl (.cons rfl .nil)))))))
  ·have h18 := ite_f hc2 h9; clear h9
   refine wp_exit ?_
   refine (then_exit (then_exit (in_here ?_)))
   refine then_normal ?_
   exact hj2 y6 v4 _ _ h18 (s36.sub (.cons rfl (.cons rfl (.cons rfl (.cons rfl (.cons rfl .nil))))))
 ·have h19 := ite_f hc1 h2; clear h2
  refine wp_exit ?_
  refine (then_exit (then_exit (in_here ?_)))
  obtain rfl := Option.some.inj h19
  exact leaveXD (D := []) v1 s8 rfl (.inr rfl) rfl .nil rfl
theorem c_wire_Writer_Texts (k : Nat) (p1 : wire_Writer) (p2 : (List (List Int))) (r : wire_Writer) (h0 : wire_Writer_Texts k p1 p2 = some r) (ok : Ok) (w0 : World) (z0 : Value) (z1 : Value) (b00 : Nat) (w0_0 : Value) (l0 : ∀ q, q ∈ [BF b00 79 (ko_wire_Writer_0 w0_0) (⟨[]⟩ : wire_Writer), RowF w0_0 5 (kint .u8) p1.out] → q.holds ok w0) (d0 : ∀ c, c ∈ idsOf [BF b00 79 (ko_wire_Writer_0 w0_0) (⟨[]⟩ : wire_Writer), RowF w0_0 5 (kint .u8) p1.out] → ¬ ok c) (nd : (idsOf [BF b00 79 (ko_wire_Writer_0 w0_0) (⟨[]⟩ : wire_Writer), RowF w0_0 5 (kint .u8) p1.out]).Nodup) (u0 : (ptrB b00 0).holds ok w0 z0) (u1 : ((ksl kstr).V p2).holds ok w0 z1) :
 GivesX Tryd.prog 39 [z0, z1] ok w0 [BF b00 79 (ko_wire_Writer_0 w0_0) (⟨[]⟩ : wire_Writer), RowF w0_0 5 (kint .u8) p1.out] (fun g : Value => resFact []) (fun g : Value => [BF b00 79 (ko_wire_Writer_0 (g)) (⟨[]⟩ : wire_Writer), RowF (g) 5 (kint .u8) r.out]) := by
 unfold wire_Writer_Texts at h0
 refine enterX (N := 28) Tryd.func39 rfl rfl (of_decide_eq_true rfl) (.cons u0 (.cons u1 .nil)) nd l0 d0 fun a1 s1 => ?_
 refine wp_seq_k fun K1 hK1 => wp_region_lit (qs s1 (.c1 rfl (mv rfl rfl) (.c1 rfl (ob_lens rfl Tryd.underlying30 (.tmp rfl)) (.c1 rfl (ob_move rfl (opd_int rfl)) (.ce (u 0 rfl (u 6 rfl (u 7 rfl (u 8 rfl .nil)))))))) fun _ _ s5 => wn hK1 ?_); clear s1
 refine wp_block ?_
 refine wp_loop_fuel (fun m (q : Int × (List Int)) => wire_Writer_Texts.l1 k p2 m q.1 q.2) r (fun _ => rfl) (fun q a w => ∃ (v1 : Value), St ⟨28, w0, ok, (idsOf [BF b00 79 (ko_wire_Writer_0 w0_0) (⟨[]⟩ : wire_Writer), RowF w0_0 5 (kint .u8) p1.out])⟩ [BF b00 79 (ko_wire_Writer_0 v1) (⟨[]⟩ : wire_Writer), RowF v1 5 (kint .u8) q.2] [(0, (ptrB b00 0)), (6, ((ksl kstr).V p2)), (7, ((kint .i64).V (p2.length : Int))), (8, ((kint .i64).V q.1))] a w) ?_ k ((0 : Int), p1.out) _ _ h0 ⟨w0_0, (s5.sub (.cons rfl (.cons rfl (.cons rfl (.cons rfl .nil)))))⟩
 rintro n1 ⟨y1, y2⟩ a6 w6 h1 ⟨v1, s6⟩ K2 hK2
 replace h1 : wire_Writer_Texts.l1 k p2 (n1 + 1) y1 y2 = some r := h1; rw [wire_Writer_Texts.l1] at h1
 have h2 := h1; clear h1
 refine wp_seq_k fun K3 hK3 => wp_region_lit (qs s6 (.c1 rfl (ob_lss rfl (.tmp rfl) (.tmp rfl)) (.ce (u 0 rfl (u 6 rfl (u 7 rfl (u 8 rfl (u 9 rfl .nil))))))) fun _ _ s8 => wn hK3 ?_); clear s6
 refine wp_seq_k fun K4 hK4 => ?_
 refine cond_split s8 (.tmp rfl) (fun hc1 => ?_) (fun hc1 => ?_)
 ·have h3 := ite_t hc1 h2; clear h2
  refine wp_skip ?_
  refine then_normal (hK4 _ _ ?_)
  have s9 := s8.sub (u 0 rfl (u 6 rfl (u 7 rfl (u 8 rfl .nil)))); clear s8
  refine wp_seq_k fun K5 hK5 => wp_block ?_
  obtain ⟨x1, e_x1, h4⟩ := bind_some h3; clear h3
  refine wp_seq_k fun K6 hK6 => wp_region_lit (qs s9 (.c1 rfl (ob_indexAddrs rfl Tryd.underlying30 sz9 (.tmp rfl) (.tmp rfl) e_x1) (.c1 rfl (ob_loadr rfl tk9 (.tmp rfl)) (.c1 rfl (ob_assign rfl (.tmp rfl)) (.ce (u 0 rfl (u 5 rfl (u 6 rfl (u 7 rfl (u 8 rfl .nil))))))))) fun _ _ s13 => wn hK6 ?_); clear s9
  obtain ⟨x2, e_x2, h5⟩ := bind_some h4; clear h4
  refine wp_seq_k fun K7 hK7 => wp_region_lit (qs s13 (.c1 rfl (mv rfl rfl) (.c1 rfl (mv rfl rfl) (.c1 rfl (ob_lenStr rfl Tryd.underlying9 (.tmp rfl)) (.c1 rfl (ob_conv rfl _ Tryd.underlying3 Tryd.underlying116 (.tmp rfl)) (.c1 rfl (ob_mkSlice (k := (kint .u32)) (xs := ([(IntKind.wrap .u32 (x1.length : Int))] : (List Int))) rfl Tryd.underlying130 zz116 sz116 (Zr.int .u32) (by decide) (by decide) (.cons (.tmp rfl) rfl (LS.arr' (i := 0) (ys := ([(IntKind.wrap .u32 (x1.length : Int))] : (List Int))) (by simp) (by rfl)) (.nil _))) .cz))))) fun _ _ s18 => ?_); clear s13
  refine qx (B' := (fun v2 : Value => [BF b00 79 (ko_wire_Writer_0 v2) (⟨[]⟩ : wire_Writer), RowF v2 5 (kint .u8) x2.out])) s18 rfl (ob_callL0 (args := [_, _]) (L := [_, _]) rfl .direct hb70 (List.Perm.refl _) (fun a w s => by exact c_wire_Writer_Numbers k _ _ _ e_x2 _ _ _ _ _ _ (ownL s) (disL s) (nodL s) (s.arg (.tmp rfl)) (s.arg (.tmp rfl))) (by exact fun _ => rfl)) fun v2 _ _ s19 => ?_; clear s18
  refine wn hK7 ?_
  have s20 := s19.sub (u 0 rfl (u 5 rfl (u 6 rfl (u 7 rfl (u 8 rfl .nil))))); clear s19
  obtain ⟨g1, h6⟩ := guard_some h5; clear h5
  refine wp_region_lit (qs s20 (.c1 rfl (mv rfl rfl) (.c1 rfl (mv rfl rfl) (.c1 rfl (ob_nilCheck rfl (.tmp rfl)) (.c1 rfl (ob_fieldAddr (off' := 0) rfl Tryd.underlying79 rfl sz31 (by decide) (.tmp rfl) rfl) (.c1 rfl (ob_loadRowV rfl (tkr31 _) (.tmp rfl) (.head _) (lgo_wire_Writer_0_out (⟨[]⟩ : wire_Writer))) (.c1 rfl (mv rfl rfl) .cz)))))) fun _ _ s26 => ?_); clear s20
  refine qx (B' := (fun v3 : Value => [BF b00 79 (ko_wire_Writer_0 v2) (⟨[]⟩ : wire_Writer), RowF v3 5 (kint .u8) (x2.out ++ x1)])) s26 rfl (ob_appendStr (A := [_]) rfl Tryd.underlying31 Tryd.underlying9 ap5 by5 (.tmp rfl) (.tmp rfl) rfl g1) fun v3 _ _ s27 => ?_; clear s26
  refine qs s27 (.c1 rfl (ob_nilCheck rfl (.tmp rfl)) (.c1 rfl (ob_fieldAddr (off' := 0) rfl Tryd.underlying79 rfl sz31 (by decide) (.tmp rfl) rfl) .cz)) fun _ _ s29 => ?_; clear s27
  refine seq_opx0 (B' := (fun _ : Unit => [BF b00 79 (ko_wire_Writer_0 v3) (⟨[]⟩ : wire_Writer), RowF v3 5 (kint .u8) (x2.out ++ x1)])) s29 rfl rfl (ob_storeRowV (A := []) rfl (tkr31 _) (.tmp rfl) (.tmp rfl) (.tail _ (.head _)) rfl (lsk_wire_Writer_0_to_0_at0 (⟨[]⟩ : wire_Writer)) rfl) fun _ a30 w30 s30 => ?_; clear s29
  refine wpList_nil ?_
  refine in_normal ?_
  refine then_normal (hK5 _ _ ?_)
  have s31 := s30.sub (u 0 rfl (u 6 rfl (u 7 rfl (u 8 rfl .nil)))); clear s30
  refine wp_region_lit (qs s31 (.c1 rfl (ob_add rfl (.tmp rfl) (opd_int rfl)) (.c1 rfl (mv rfl rfl) .cz)) fun _ _ s33 => ?_); clear s31
  refine wpList_nil ?_
  refine then_normal ?_
  exact hK2 ((iadd .i64 y1 (1 : Int)), (x2.out ++ x1)) _ _ h6 ⟨v3, (s33.sub (.cons rfl (.cons rfl (.cons rfl (.cons rfl .nil)))))⟩
 ·have h7 := ite_f hc1 h2; clear h2
  refine wp_exit ?_
  refine (then_exit (then_exit (in_here ?_)))
  obtain rfl := Option.some.inj h7
  exact leaveXD (D := []) v1 s8 rfl (.inr rfl) rfl .nil rfl
theorem c_wire_Writer_String (k : Nat) (p1 : wire_Writer) (r : (List Int)) (h0 : wire_Writer_String k p1 = some r) (ok : Ok) (w0 : World) (z0 : Value) (u0 : (ptrTo k_wire_Writer p1).holds ok w0 z0) :
 Gives Tryd.prog 40 [z0] ok w0 (resFact [kstr.V r]) := by
 unfold wire_Writer_String at h0
 refine enter (N := 8) Tryd.func40 rfl rfl (of_decide_eq_true rfl) (.cons u0 .nil) fun a1 s1 => ?_
 refine wp_seq_k fun K1 hK1 => wp_region_lit (qs s1 (.c1 rfl (ob_assign rfl (opd_str (by rfl) (by decide))) (.ce (u 0 rfl .nil))) fun _ _ s3 => wn hK1 ?_); clear s1
 refine wp_seq_k fun K2 hK2 => wp_region_lit (qs s3 (.c1 rfl (mv rfl rfl) (.c1 rfl (ob_nilCheckr rfl (.tmp rfl)) (.c1 rfl (ob_fieldAddrr rfl Tryd.underlying79 rfl sz31 (by decide) (.tmp rfl) (lg_wire_Writer_out p1)) (.c1 rfl (ob_loadr rfl tk31 (.tmp rfl)) (.c1 rfl (ob_bytesToStr rfl Tryd.underlying31 Tryd.underlying9 Tryd.underlying5 (.tmp rfl)) (.c1 rfl (ob_assign rfl (.tmp rfl)) (.ce (u 2 rfl .nil)))))))) fun _ _ s10 => wn hK2 ?_); clear s3
 refine wp_ret ?_
 obtain rfl := Option.some.inj h0
 exact leave s10 (.inl rfl) rfl (.cons (.tmp rfl) .nil)
theorem c_journal_Journal_Append_1 (k : Nat) (p1 : (List Int)) (r : Bool) (h0 : journal_Journal_Append_1 k p1 = some r) (ok : Ok) (w0 : World) (z0 : Value) (u0 : (kstr.V p1).holds ok w0 z0) :
 Gives Tryd.prog 42 [z0] ok w0 (resFact [kbool.V r]) := by
 unfold journal_Journal_Append_1 at h0
 refine enter (N := 6) Tryd.func42 rfl rfl (of_decide_eq_true rfl) (.cons u0 .nil) fun a1 s1 => ?_
 refine wp_seq_k fun K1 hK1 => wp_region_lit (qs s1 (.c1 rfl (ob_assign rfl opd_bool) (.ce (u 0 rfl .nil))) fun _ _ s3 => wn hK1 ?_); clear s1
 refine wp_seq_k fun K2 hK2 => wp_region_lit (qs s3 (.c1 rfl (mv rfl rfl) (.c1 rfl (ob_lenStr rfl Tryd.underlying9 (.tmp rfl)) (.c1 rfl (ob_gtr rfl (.tmp rfl) (opd_int rfl)) (.c1 rfl (ob_assign rfl (.tmp rfl)) (.ce (u 2 rfl .nil)))))) fun _ _ s8 => wn hK2 ?_); clear s3
 refine wp_ret ?_
 obtain rfl := Option.some.inj h0
 exact leave s8 (.inl rfl) rfl (.cons (.tmp rfl) .nil)
theorem c_slices_IndexFunc_string_string_journal_Journal_Append_1 (k : Nat) (p1 : (List (List Int))) (r : Int) (h0 : slices_IndexFunc_string_string_journal_Journal_Append_1 k p1 = some r) (ok : Ok) (w0 : World) (z0 : Value) (z1 : Value) (u0 : ((ksl kstr).V p1).holds ok w0 z0) (u1 : (is (.func (.func 42) #[] #[])).holds ok w0 z1) :
 Gives Tryd.prog 71 [z0, z1] ok w0 (resFact [(kint .i64).V r]) := by
 unfold slices_IndexFunc_string_string_journal_Journal_Append_1 at h0
 refine enter (N := 19) Tryd.func71 rfl rfl (of_decide_eq_true rfl) (.cons u0 (.cons u1 .nil)) fun a1 s1 => ?_
 refine wp_seq_k fun K1 hK1 => wp_region_lit (qs s1 (.c1 rfl (ob_assign rfl (opd_int rfl)) (.ce (u 0 rfl (u 1 rfl .nil)))) fun _ _ s3 => wn hK1 ?_); clear s1
 refine wp_seq_k fun K2 hK2 => wp_seq_k fun K3 hK3 => ?_
 refine wp_region_lit (qs s3 (.c1 rfl (mv rfl rfl) (.c1 rfl (ob_lens rfl Tryd.underlying30 (.tmp rfl)) (.c1 rfl (ob_move rfl (opd_int rfl)) (.ce (u 0 rfl (u 1 rfl (u 7 rfl (u 8 rfl .nil)))))))) fun _ _ s7 => wn hK3 ?_); clear s3
 have hj1 : ∀ (a : Act) (w : World), (slices_IndexFunc_string_string_journal_Journal_Append_1.j1 k) = some r → St ⟨19, w0, ok, []⟩ [] [] a w → K2 a w := by
  intro a8 w8 h1 s8
  unfold slices_IndexFunc_string_string_journal_Journal_Append_1.j1 at h1
  refine hK2 _ _ ?_
  refine wp_seq_k fun K4 hK4 => wp_region_lit (qs s8 (.c1 rfl (ob_assign rfl (opd_int rfl)) (.ce (u 4 rfl .nil))) fun _ _ s10 => wn hK4 ?_); clear s8
  refine wp_ret ?_
  obtain rfl := Option.some.inj h1
  exact leave s10 (.inl rfl) rfl (.cons (.tmp rfl) .nil)
 refine wp_block ?_
 refine wp_loop_fuel (fun m (q : Int) => slices_IndexFunc_string_string_journal_Journal_Append_1.l1 k p1 m q) r (fun _ => rfl) (fun q a w => St ⟨19, w0, ok, []⟩ [] [(0, ((ksl kstr).V p1)), (1, (is (.func (.func 42) #[] #[]))), (7, ((kint .i64).V (p1.length : Int))), (8, ((kint .i64).V q))] a w) ?_ k (0 : Int) _ _ h0 (s7.sub (.cons rfl (.cons rfl (.cons rfl (.cons rfl .nil)))))
 rintro n1 y1 a11 w11 h2 s11 K5 hK5
 replace h2 : slices_IndexFunc_string_string_journal_Journal_Append_1.l1 k p1 (n1 + 1) y1 = some r := h2; rw [slices_IndexFunc_string_string_journal_Journal_Append_1.l1] at h2
 have h3 := h2; clear h2
 refine wp_seq_k fun K6 hK6 => wp_region_lit (qs s11 (.c1 rfl (ob_lss rfl (.tmp rfl) (.tmp rfl)) (.ce (u 0 rfl (u 1 rfl (u 7 rfl (u 8 rfl (u 9 rfl .nil))))))) fun _ _ s13 => wn hK6 ?_); clear s11
 refine wp_seq_k fun K7 hK7 => ?_
 refine cond_split s13 (.tmp rfl) (fun hc1 => ?_) (fun hc1 => ?_)
 ·have h4 := ite_t hc1 h3; clear h3
  refine wp_skip ?_
  refine then_normal (hK7 _ _ ?_)
  have s14 := s13.sub (u 0 rfl (u 1 rfl (u 7 rfl (u 8 rfl .nil)))); clear s13
  refine wp_seq_k fun K8 hK8 => wp_block ?_
  refine wp_seq_k fun K9 hK9 => wp_region_lit (qs s14 (.c1 rfl (mv rfl rfl) (.c1 rfl (ob_assign rfl (.tmp rfl)) (.ce (u 0 rfl (u 1 rfl (u 5 rfl (u 7 rfl (u 8 rfl .nil)))))))) fun _ _ s17 => wn hK9 ?_); clear s14
  obtain ⟨x1, e_x1, h5⟩ := bind_some h4; clear h4
  obtain ⟨x2, e_x2, h6⟩ := bind_some h5; clear h5
  refine wp_seq_k fun K10 hK10 => wp_region_lit (qs s17 (.c1 rfl (mv rfl rfl) (.c1 rfl (mv rfl rfl) (.c1 rfl (mv rfl rfl) (.c1 rfl (ob_indexAddrs rfl Tryd.underlying30 sz9 (.tmp rfl) (.tmp rfl) e_x1) (.c1 rfl (ob_loadr rfl tk9 (.tmp rfl)) (.c1 rfl (ob_callD0 (args := [_]) rfl (.fn (.tmp rfl)) hb42 (fun a w s => by exact c_journal_Journal_Append_1 k _ _ e_x2 _ _ _ (s.arg (.tmp rfl)))) (.ce (u 0 rfl (u 1 rfl (u 5 rfl (u 7 rfl (u 8 rfl (u 16 rfl .nil))))))))))))) fun _ _ s24 => wn hK10 ?_); clear s17
  refine cond_split s24 (.tmp rfl) (fun hc2 => ?_) (fun hc2 => ?_)
  ·have h7 := ite_t hc2 h6; clear h6
   refine wp_seq_k fun K11 hK11 => wp_region_lit (qs s24 (.c1 rfl (mv rfl rfl) (.c1 rfl (ob_assign rfl (.tmp rfl)) (.ce (u 4 rfl .nil)))) fun _ _ s27 => wn hK11 ?_); clear s24
   refine wp_ret ?_
   obtain rfl := Option.some.inj h7
   exact leave s27 (.inl rfl) rfl (.cons (.tmp rfl) .nil)
  ·have h8 := ite_f hc2 h6; clear h6
   refine wp_skip ?_
   refine in_normal ?_
   refine then_normal (hK8 _ _ ?_)
   have s28 := s24.sub (u 0 rfl (u 1 rfl (u 7 rfl (u 8 rfl .nil)))); clear s24
   refine wp_region_lit (qs s28 (.c1 rfl (ob_add rfl (.tmp rfl) (opd_int rfl)) (.c1 rfl (mv rfl rfl) .cz)) fun _ _ s30 => ?_); clear s28
   refine wpList_nil ?_
   refine then_normal ?_
   exact hK5 (iadd .i64 y1 (1 : Int)) _ _ h8 (s30.sub (.cons rfl (.cons rfl (.cons rfl (.cons rfl .nil)))))
 ·have h9 := ite_f hc1 h3; clear h3
  refine wp_exit ?_
  refine (then_exit (then_exit (in_here ?_)))
  refine then_normal ?_
  exact hj1 _ _ h9 (s13.sub .nil)
theorem c_slices_ContainsFunc_string_string_journal_Journal_Append_1 (k : Nat) (p1 : (List (List Int))) (r : Bool) (h0 : slices_ContainsFunc_string_string_journal_Journal_Append_1 k p1 = some r) (ok : Ok) (w0 : World) (z0 : Value) (z1 : Value) (u0 : ((ksl kstr).V p1).holds ok w0 z0) (u1 : (is (.func (.func 42) #[] #[])).holds ok w0 z1) :
 Gives Tryd.prog 41 [z0, z1] ok w0 (resFact [kbool.V r]) := by
 unfold slices_ContainsFunc_string_string_journal_Journal_Append_1 at h0
 refine enter (N := 9) Tryd.func41 rfl rfl (of_decide_eq_true rfl) (.cons u0 (.cons u1 .nil)) fun a1 s1 => ?_
 refine wp_seq_k fun K1 hK1 => wp_region_lit (qs s1 (.c1 rfl (ob_assign rfl opd_bool) (.ce (u 0 rfl (u 1 rfl .nil)))) fun _ _ s3 => wn hK1 ?_); clear s1
 obtain ⟨x1, e_x1, h1⟩ := bind_some h0; clear h0
 refine wp_seq_k fun K2 hK2 => wp_region_lit (qs s3 (.c1 rfl (mv rfl rfl) (.c1 rfl (mv rfl rfl) (.c1 rfl (ob_callD0 (args := [_, _]) rfl .direct hb71 (fun a w s => by exact c_slices_IndexFunc_string_string_journal_Journal_Append_1 k _ _ e_x1 _ _ _ _ (s.arg (.tmp rfl)) (s.arg (.tmp rfl)))) (.c1 rfl (ob_geq rfl (.tmp rfl) (opd_int rfl)) (.c1 rfl (ob_assign rfl (.tmp rfl)) (.ce (u 4 rfl .nil))))))) fun _ _ s9 => wn hK2 ?_); clear s3
 refine wp_ret ?_
 obtain rfl := Option.some.inj h1
 exact leave s9 (.inl rfl) rfl (.cons (.tmp rfl) .nil)
theorem c_journal_Journal_size (k : Nat) (p1 : journal_Journal) (p2 : disk_Disk) (r : Int) (h0 : journal_Journal_size k p1 p2 = some r) (ok : Ok) (w0 : World) (z0 : Value) (b00 : Nat) (b01 : Nat) (w1_0 : Value) (w1_1 : Value) (l0 : ∀ q, q ∈ [BF b00 70 (ko_journal_Journal_0 (.pointer (some ⟨b01, 0, none⟩))) (⟨(), p1.area, p1.bytes, p1.l⟩ : journal_Journal), BF b01 68 (ko_disk_Disk_0_1 w1_0 w1_1) (⟨[], [], p2.fuse, p2.dead⟩ : disk_Disk), RowF w1_0 100 (karr 256 (kint .u8)) p2.firm, RowF w1_1 102 k_disk_write p2.loose] → q.holds ok w0) (d0 : ∀ c, c ∈ idsOf [BF b00 70 (ko_journal_Journal_0 (.pointer (some ⟨b01, 0, none⟩))) (⟨(), p1.area, p1.bytes, p1.l⟩ : journal_Journal), BF b01 68 (ko_disk_Disk_0_1 w1_0 w1_1) (⟨[], [], p2.fuse, p2.dead⟩ : disk_Disk), RowF w1_0 100 (karr 256 (kint .u8)) p2.firm, RowF w1_1 102 k_disk_write p2.loose] → ¬ ok c) (nd : (idsOf [BF b00 70 (ko_journal_Journal_0 (.pointer (some ⟨b01, 0, none⟩))) (⟨(), p1.area, p1.bytes, p1.l⟩ : journal_Journal), BF b01 68 (ko_disk_Disk_0_1 w1_0 w1_1) (⟨[], [], p2.fuse, p2.dead⟩ : disk_Disk), RowF w1_0 100 (karr 256 (kint .u8)) p2.firm, RowF w1_1 102 k_disk_write p2.loose]).Nodup) (u0 : (ptrB b00 0).holds ok w0 z0) :
 GivesX Tryd.prog 55 [z0] ok w0 [BF b00 70 (ko_journal_Journal_0 (.pointer (some ⟨b01, 0, none⟩))) (⟨(), p1.area, p1.bytes, p1.l⟩ : journal_Journal), BF b01 68 (ko_disk_Disk_0_1 w1_0 w1_1) (⟨[], [], p2.fuse, p2.dead⟩ : disk_Disk), RowF w1_0 100 (karr 256 (kint .u8)) p2.firm, RowF w1_1 102 k_disk_write p2.loose] (fun g : Unit => resFact [(kint .i64).V r]) (fun g : Unit => [BF b00 70 (ko_journal_Journal_0 (.pointer (some ⟨b01, 0, none⟩))) (⟨(), p1.area, p1.bytes, p1.l⟩ : journal_Journal), BF b01 68 (ko_disk_Disk_0_1 w1_0 w1_1) (⟨[], [], p2.fuse, p2.dead⟩ : disk_Disk), RowF w1_0 100 (karr 256 (kint .u8)) p2.firm, RowF w1_1 102 k_disk_write p2.loose]) := by
 unfold journal_Journal_size at h0
 refine enterX (N := 9) Tryd.func55 rfl rfl (of_decide_eq_true rfl) (.cons u0 .nil) nd l0 d0 fun a1 s1 => ?_
 refine wp_seq_k fun K1 hK1 => wp_region_lit (qs s1 (.c1 rfl (ob_assign rfl (opd_int rfl)) (.ce (u 0 rfl .nil))) fun _ _ s3 => wn hK1 ?_); clear s1
 obtain ⟨x1, e_x1, h1⟩ := bind_some h0; clear h0
 refine wp_seq_k fun K2 hK2 => wp_region_lit (qs s3 (.c1 rfl (mv rfl rfl) (.c1 rfl (ob_nilCheck rfl (.tmp rfl)) (.c1 rfl (ob_fieldAddr (off' := 0) rfl Tryd.underlying70 rfl sz24 (by decide) (.tmp rfl) rfl) (.c1 rfl (ob_loadRowV rfl (tkr24 _) (.tmp rfl) (.head _) (lgo_journal_Journal_0_d (⟨(), p1.area, p1.bytes, p1.l⟩ : journal_Journal))) (.c1 rfl ((ob_lendG (L := [_, _, _]) (toFront [_] (toFront [_] (toFront [_] (List.Perm.refl _)))) (.cons (t := 6) rfl (lendObj (K' := k_disk_Disk) (X' := p2) (.head _) rfl (upo_disk_Disk_0_1 rfl (.row (LetAll.row (.tail _ (.head _)))) (.row (LetAll.row (.tail _ (.tail _ (.head _))))))) .nil) (Flat.res1 (Flat.V (KFlat.int _))) (fun _ => ob_callD0 (args := [_]) rfl .direct hb34 (fun a w s => by exact c_journal_blocks k _ _ e_x1 _ _ _ (s.arg (.tmp rfl)))))) (.c1 rfl (ob_mul rfl (.tmp rfl) (opd_int rfl)) (.c1 rfl (ob_assign rfl (.tmp rfl)) (.ce (u 2 rfl .nil))))))))) fun _ _ s11 => wn hK2 ?_); clear s3
 refine wp_ret ?_
 obtain rfl := Option.some.inj h1
 exact leaveXD (D := []) () s11 rfl (.inl rfl) rfl (.cons (.tmp rfl) .nil) rfl
theorem c_journal_Journal_Room (k : Nat) (p1 : journal_Journal) (p2 : disk_Disk) (r : Int) (h0 : journal_Journal_Room k p1 p2 = some r) (ok : Ok) (w0 : World) (z0 : Value) (b00 : Nat) (b01 : Nat) (w1_0 : Value) (w1_1 : Value) (l0 : ∀ q, q ∈ [BF b00 70 (ko_journal_Journal_0 (.pointer (some ⟨b01, 0, none⟩))) (⟨(), p1.area, p1.bytes, p1.l⟩ : journal_Journal), BF b01 68 (ko_disk_Disk_0_1 w1_0 w1_1) (⟨[], [], p2.fuse, p2.dead⟩ : disk_Disk), RowF w1_0 100 (karr 256 (kint .u8)) p2.firm, RowF w1_1 102 k_disk_write p2.loose] → q.holds ok w0) (d0 : ∀ c, c ∈ idsOf [BF b00 70 (ko_journal_Journal_0 (.pointer (some ⟨b01, 0, none⟩))) (⟨(), p1.area, p1.bytes, p1.l⟩ : journal_Journal), BF b01 68 (ko_disk_Disk_0_1 w1_0 w1_1) (⟨[], [], p2.fuse, p2.dead⟩ : disk_Disk), RowF w1_0 100 (karr 256 (kint .u8)) p2.firm, RowF w1_1 102 k_disk_write p2.loose] → ¬ ok c) (nd : (idsOf [BF b00 70 (ko_journal_Journal_0 (.pointer (some ⟨b01, 0, none⟩))) (⟨(), p1.area, p1.bytes, p1.l⟩ : journal_Journal), BF b01 68 (ko_disk_Disk_0_1 w1_0 w1_1) (⟨[], [], p2.fuse, p2.dead⟩ : disk_Disk), RowF w1_0 100 (karr 256 (kint .u8)) p2.firm, RowF w1_1 102 k_disk_write p2.loose]).Nodup) (u0 : (ptrB b00 0).holds ok w0 z0) :
 GivesX Tryd.prog 20 [z0] ok w0 [BF b00 70 (ko_journal_Journal_0 (.pointer (some ⟨b01, 0, none⟩))) (⟨(), p1.area, p1.bytes, p1.l⟩ : journal_Journal), BF b01 68 (ko_disk_Disk_0_1 w1_0 w1_1) (⟨[], [], p2.fuse, p2.dead⟩ : disk_Disk), RowF w1_0 100 (karr 256 (kint .u8)) p2.firm, RowF w1_1 102 k_disk_write p2.loose] (fun g : Unit => resFact [(kint .i64).V r]) (fun g : Unit => [BF b00 70 (ko_journal_Journal_0 (.pointer (some ⟨b01, 0, none⟩))) (⟨(), p1.area, p1.bytes, p1.l⟩ : journal_Journal), BF b01 68 (ko_disk_Disk_0_1 w1_0 w1_1) (⟨[], [], p2.fuse, p2.dead⟩ : disk_Disk), RowF w1_0 100 (karr 256 (kint .u8)) p2.firm, RowF w1_1 102 k_disk_write p2.loose]) := by
 unfold journal_Journal_Room at h0
 refine enterX (N := 13) Tryd.func20 rfl rfl (of_decide_eq_true rfl) (.cons u0 .nil) nd l0 d0 fun a1 s1 => ?_
 refine wp_seq_k fun K1 hK1 => wp_region_lit (qs s1 (.c1 rfl (ob_assign rfl (opd_int rfl)) (.ce (u 0 rfl .nil))) fun _ _ s3 => wn hK1 ?_); clear s1
 refine wp_seq_k fun K2 hK2 => wp_seq_k fun K3 hK3 => ?_
 refine wp_region_lit (qs s3 (.c1 rfl (mv rfl rfl) (.c1 rfl (ob_ptrNil (p := some _) rfl pt26 (.tmp rfl) opd_is) (.ce (u 0 rfl (u 4 rfl .nil))))) fun _ _ s6 => wn hK3 ?_); clear s3
 refine cond_f s6 (.tmp rfl) ?_
 refine wp_skip ?_
 refine then_normal (hK2 _ _ ?_)
 have s7 := s6.sub (u 0 rfl .nil); clear s6
 refine wp_seq_k fun K4 hK4 => ?_
 obtain ⟨x1, e_x1, h1⟩ := bind_some h0; clear h0
 refine wp_goes (Fs := [(ptrB b00 0), nofact, (ptrB b00 0), (ptrB b00 0), (ptrB b00 2), (kstr.V p1.bytes), ((kint .i64).V (p1.bytes.length : Int))]) (bits := [0, 1, 0, 4, 12, 28, 60, 127, 255]) (m := 7) (todo := 2) mx s7 ?_; clear s7
 refine goes_turn (B' := (fun _ : Unit => [BF b00 70 (ko_journal_Journal_0 (.pointer (some ⟨b01, 0, none⟩))) (⟨(), p1.area, p1.bytes, p1.l⟩ : journal_Journal), BF b01 68 (ko_disk_Disk_0_1 w1_0 w1_1) (⟨[], [], p2.fuse, p2.dead⟩ : disk_Disk), RowF w1_0 100 (karr 256 (kint .u8)) p2.firm, RowF w1_1 102 k_disk_write p2.loose])) (Fs' := (fun _ : Unit => setAll ([(ptrB b00 0), nofact, (ptrB b00 0), (ptrB b00 0), (ptrB b00 2), (kstr.V p1.bytes), ((kint .i64).V (p1.bytes.length : Int))]) [(1, ((kint .i64).V x1))])) 1 2 3 0 (by kernel_rfl) rfl rfl rfl (oc (av 0 rfl rfl Av.nil) rfl rfl (mv rfl rfl) (opsS_skip (by rfl) (oc (av 0 rfl rfl Av.nil) rfl rfl (mv rfl rfl) (oc (an 2 rfl rfl rfl Av.nil) rfl rfl (ob_nilCheck rfl (.tmp rfl)) (oc (an 3 rfl rfl rfl Av.nil) rfl rfl (ob_fieldAddr (off' := 2) rfl Tryd.underlying70 rfl sz9 (by decide) (.tmp rfl) rfl) (oc (an 4 rfl rfl rfl Av.nil) rfl rfl (ob_load rfl tk9 (.tmp rfl) (.head _) (lgo_journal_Journal_0_bytes (⟨(), p1.area, p1.bytes, p1.l⟩ : journal_Journal))) (oc (an 5 rfl rfl rfl Av.nil) rfl rfl (ob_lenStr rfl Tryd.underlying9 (.tmp rfl)) opsS_nil))))))) (.plain _ (an 0 rfl rfl rfl Av.nil) rfl (fun _ => rfl) (fun R => ob_callL0 (args := [_]) (L := [_, _, _, _]) rfl .direct hb55 (List.Perm.refl _) (fun a w s => by exact c_journal_Journal_size k _ _ _ e_x1 _ _ _ _ _ _ _ (ownL s) (disL s) (nodL s) (s.arg (.tmp rfl))) (by exact fun _ => rfl))) (setAll_same (us := (fun _ : Unit => [(1, ((kint .i64).V x1))])) fun _ => by kernel_rfl) fun _ => ?_
 refine goes_last (by kernel_rfl) rfl (opsS_skip (by rfl) (opsS_skip (by rfl) (oc (av 0 rfl rfl Av.nil) rfl rfl (mv rfl rfl) (oc (an 2 rfl rfl rfl Av.nil) rfl rfl (ob_nilCheck rfl (.tmp rfl)) (oc (an 3 rfl rfl rfl Av.nil) rfl rfl (ob_fieldAddr (off' := 2) rfl Tryd.underlying70 rfl sz9 (by decide) (.tmp rfl) rfl) (oc (an 4 rfl rfl rfl Av.nil) rfl rfl (ob_load rfl tk9 (.tmp rfl) (.head _) (lgo_journal_Journal_0_bytes (⟨(), p1.area, p1.bytes, p1.l⟩ : journal_Journal))) (oc (an 5 rfl rfl rfl Av.nil) rfl rfl (ob_lenStr rfl Tryd.underlying9 (.tmp rfl)) opsS_nil))))))) (out_new (i := 1) (by decide) rfl rfl (out_new (i := 6) (by decide) rfl rfl out_nil)) fun _ _ s8 => ?_
 refine qs s8 (.c1 rfl (ob_sub rfl (.tmp rfl) (.tmp rfl)) (.c1 rfl (ob_assign rfl (.tmp rfl)) (.ce (u 2 rfl .nil)))) fun _ _ s11 => wn hK4 ?_; clear s8
 refine wp_ret ?_
 obtain rfl := Option.some.inj h1
 exact leaveXD (D := []) () s11 rfl (.inl rfl) rfl (.cons (.tmp rfl) .nil) rfl
theorem c_journal_Journal_commit_1 (k : Nat) (p1 : Int) (p2 : (List Int)) (r : (List Int)) (h0 : journal_Journal_commit_1 k p1 p2 = some r) (ok : Ok) (w0 : World) (z0 : Value) (z1 : Value) (u0 : ((kint .i64).V p1).holds ok w0 z0) (u1 : (ptrTo kstr p2).holds ok w0 z1) :
 Gives Tryd.prog 72 [z0, z1] ok w0 (resFact [kstr.V r]) := by
 unfold journal_Journal_commit_1 at h0
 refine enter (N := 15) Tryd.func72 rfl rfl (of_decide_eq_true rfl) (.cons u0 (.cons u1 .nil)) fun a1 s1 => ?_
 refine wp_seq_k fun K1 hK1 => wp_region_lit (qs s1 (.c1 rfl (ob_assign rfl (opd_str (by rfl) (by decide))) (.ce (u 0 rfl (u 1 rfl .nil)))) fun _ _ s3 => wn hK1 ?_); clear s1
 obtain ⟨x1, e_x1, h1⟩ := bind_some h0; clear h0; replace e_x1 := Option.some.inj e_x1
 obtain ⟨x2, e_x2, h2⟩ := bind_some h1; clear h1
 obtain ⟨x3, e_x3, h3⟩ := bind_some h2; clear h2
 refine wp_seq_k fun K2 hK2 => wp_region_lit (qs s3 (.c1 rfl (ob_loadr rfl tk9 (.tmp rfl)) (.c1 rfl (mv rfl rfl) (.c1 rfl (ob_mul rfl (.tmp rfl) (opd_int rfl)) (.c1 rfl (mv rfl rfl) (.c1 rfl (ob_add rfl (.tmp rfl) (opd_int rfl)) (.c1 rfl (ob_mul rfl (.tmp rfl) (opd_int rfl)) (.c1 rfl (ob_loadr rfl tk9 (.tmp rfl)) (.c1 rfl (ob_lenStr rfl Tryd.underlying9 (.tmp rfl)) (.c1 rfl ((ob_min rfl (.tmp rfl) (.tmp rfl)).nm e_x1) (.c1 rfl (ob_cutStr rfl Tryd.underlying9 (.tmp rfl) (.some (.tmp rfl)) (.some (.tmp rfl)) e_x2) (.c1 rfl (ob_callD0 (args := [_, _]) rfl .direct hb32 (fun a w s => by exact c_journal_filled k _ _ _ e_x3 _ _ _ _ (s.arg (.tmp rfl)) (s.arg (opd_int rfl)))) (.c1 rfl (ob_assign rfl (.tmp rfl)) (.ce (u 3 rfl .nil)))))))))))))) fun _ _ s16 => wn hK2 ?_); clear s3
 refine wp_ret ?_
 obtain rfl := Option.some.inj h3
 exact leave s16 (.inl rfl) rfl (.cons (.tmp rfl) .nil)
theorem c_disk_Disk_burn (k : Nat) (p1 : disk_Disk) (r : (Bool × disk_Disk)) (h0 : disk_Disk_burn k p1 = some r) (ok : Ok) (w0 : World) (z0 : Value) (b00 : Nat) (w0_0 : Value) (w0_1 : Value) (l0 : ∀ q, q ∈ [BF b00 68 (ko_disk_Disk_0_1 w0_0 w0_1) (⟨[], [], p1.fuse, p1.dead⟩ : disk_Disk), RowF w0_0 100 (karr 256 (kint .u8)) p1.firm, RowF w0_1 102 k_disk_write p1.loose] → q.holds ok w0) (d0 : ∀ c, c ∈ idsOf [BF b00 68 (ko_disk_Disk_0_1 w0_0 w0_1) (⟨[], [], p1.fuse, p1.dead⟩ : disk_Disk), RowF w0_0 100 (karr 256 (kint .u8)) p1.firm, RowF w0_1 102 k_disk_write p1.loose] → ¬ ok c) (nd : (idsOf [BF b00 68 (ko_disk_Disk_0_1 w0_0 w0_1) (⟨[], [], p1.fuse, p1.dead⟩ : disk_Disk), RowF w0_0 100 (karr 256 (kint .u8)) p1.firm, RowF w0_1 102 k_disk_write p1.loose]).Nodup) (u0 : (ptrB b00 0).holds ok w0 z0) :
 GivesX Tryd.prog 76 [z0] ok w0 [BF b00 68 (ko_disk_Disk_0_1 w0_0 w0_1) (⟨[], [], p1.fuse, p1.dead⟩ : disk_Disk), RowF w0_0 100 (karr 256 (kint .u8)) p1.firm, RowF w0_1 102 k_disk_write p1.loose] (fun g : Value × Value => resFact [kbool.V r.1]) (fun g : Value × Value => [BF b00 68 (ko_disk_Disk_0_1 (g.1) (g.2)) (⟨[], [], r.2.fuse, r.2.dead⟩ : disk_Disk), RowF (g.1) 100 (karr 256 (kint .u8)) r.2.firm, RowF (g.2) 102 k_disk_write r.2.loose]) := by
 unfold disk_Disk_burn at h0
 refine enterX (N := 30) Tryd.func76 rfl rfl (of_decide_eq_true rfl) (.cons u0 .nil) nd l0 d0 fun a1 s1 => ?_
 refine wp_seq_k fun K1 hK1 => wp_region_lit (qs s1 (.c1 rfl (ob_assign rfl opd_bool) (.ce (u 0 rfl .nil))) fun _ _ s3 => wn hK1 ?_); clear s1
 refine wp_seq_k fun K2 hK2 => ?_
 have hj1 : ∀ (y1 : Int) (y2 : Bool) (a : Act) (w : World), (disk_Disk_burn.j1 k p1) y1 y2 = some r → St ⟨30, w0, ok, (idsOf [BF b00 68 (ko_disk_Disk_0_1 w0_0 w0_1) (⟨[], [], p1.fuse, p1.dead⟩ : disk_Disk), RowF w0_0 100 (karr 256 (kint .u8)) p1.firm, RowF w0_1 102 k_disk_write p1.loose])⟩ [BF b00 68 (ko_disk_Disk_0_1 w0_0 w0_1) (⟨[], [], y1, y2⟩ : disk_Disk), RowF w0_0 100 (karr 256 (kint .u8)) p1.firm, RowF w0_1 102 k_disk_write p1.loose] [(0, (ptrB b00 0))] a w → K2 a w := by
  intro y1 y2 a4 w4 h1 s4
  unfold disk_Disk_burn.j1 at h1
  refine hK2 _ _ ?_
  refine wp_seq_k fun K3 hK3 => wp_region_lit (qs s4 (.c1 rfl (mv rfl rfl) (.c1 rfl (ob_nilCheck rfl (.tmp rfl)) (.c1 rfl (ob_fieldAddr (off' := 3) rfl Tryd.underlying68 rfl sz4 (by decide) (.tmp rfl) rfl) (.c1 rfl (ob_load rfl tk4 (.tmp rfl) (.head _) (lgo_disk_Disk_0_1_dead (⟨[], [], y1, y2⟩ : disk_Disk))) (.c1 rfl (ob_not rfl (.tmp rfl)) (.c1 rfl (ob_assign rfl (.tmp rfl)) (.ce (u 2 rfl .nil)))))))) fun _ _ s11 => wn hK3 ?_); clear s4
  refine wp_ret ?_
  obtain rfl := Option.some.inj h1
  exact leaveXD (D := []) ⟨w0_0, w0_1⟩ s11 rfl (.inl rfl) rfl (.cons (.tmp rfl) .nil) rfl
 refine wp_block ?_
 refine wp_seq_k fun K4 hK4 => wp_region_lit (qs s3 (.c1 rfl (mv rfl rfl) (.c1 rfl (ob_nilCheck rfl (.tmp rfl)) (.c1 rfl (ob_fieldAddr (off' := 2) rfl Tryd.underlying68 rfl sz3 (by decide) (.tmp rfl) rfl) (.c1 rfl (ob_load rfl tk3 (.tmp rfl) (.head _) (lgo_disk_Disk_0_1_fuse (⟨[], [], p1.fuse, p1.dead⟩ : disk_Disk))) (.c1 rfl (ob_eql rfl (.tmp rfl) (opd_int rfl)) (.c1 rfl (ob_assign rfl (.tmp rfl)) (.ce (u 0 rfl (u 3 rfl .nil))))))))) fun _ _ s18 => wn hK4 ?_); clear s3
 refine cond_split s18 (.tmp rfl) (fun hc1 => ?_) (fun hc1 => ?_)
 ·have h2 := ite_t hc1 h0; clear h0
  refine wp_region_lit (qs s18 (.c1 rfl (mv rfl rfl) (.c1 rfl (ob_nilCheck rfl (.tmp rfl)) (.c1 rfl (ob_fieldAddr (off' := 3) rfl Tryd.underlying68 rfl sz4 (by decide) (.tmp rfl) rfl) .cz))) fun _ _ s21 => ?_); clear s18
  refine seq_opx0 (B' := (fun _ : Unit => [BF b00 68 (ko_disk_Disk_0_1 w0_0 w0_1) (⟨[], [], p1.fuse, true⟩ : disk_Disk), RowF w0_0 100 (karr 256 (kint .u8)) p1.firm, RowF w0_1 102 k_disk_write p1.loose])) s21 rfl rfl (ob_store (A := []) rfl tk4 (.tmp rfl) opd_bool rfl (lso_disk_Disk_0_1_dead (⟨[], [], p1.fuse, p1.dead⟩ : disk_Disk) true) rfl) fun _ a22 w22 s22 => ?_; clear s21
  refine wpList_nil ?_
  refine in_normal ?_
  refine then_normal ?_
  exact hj1 p1.fuse true _ _ h2 (s22.sub (.cons rfl .nil))
 ·have h3 := ite_f hc1 h0; clear h0
  refine wp_seq_k fun K5 hK5 => wp_region_lit (qs s18 (.c1 rfl (mv rfl rfl) (.c1 rfl (ob_nilCheck rfl (.tmp rfl)) (.c1 rfl (ob_fieldAddr (off' := 2) rfl Tryd.underlying68 rfl sz3 (by decide) (.tmp rfl) rfl) (.c1 rfl (ob_load rfl tk3 (.tmp rfl) (.head _) (lgo_disk_Disk_0_1_fuse (⟨[], [], p1.fuse, p1.dead⟩ : disk_Disk))) (.c1 rfl (ob_gtr rfl (.tmp rfl) (opd_int rfl)) (.c1 rfl (ob_assign rfl (.tmp rfl)) (.ce (u 0 rfl (u 12 rfl .nil))))))))) fun _ _ s29 => wn hK5 ?_); clear s18
  refine cond_split s29 (.tmp rfl) (fun hc2 => ?_) (fun hc2 => ?_)
  ·have h4 := ite_t hc2 h3; clear h3
   refine wp_region_lit (qs s29 (.c1 rfl (mv rfl rfl) (.c1 rfl (ob_nilCheck rfl (.tmp rfl)) (.c1 rfl (ob_fieldAddr (off' := 2) rfl Tryd.underlying68 rfl sz3 (by decide) (.tmp rfl) rfl) (.c1 rfl (ob_load rfl tk3 (.tmp rfl) (.head _) (lgo_disk_Disk_0_1_fuse (⟨[], [], p1.fuse, p1.dead⟩ : disk_Disk))) (.c1 rfl (ob_sub rfl (.tmp rfl) (opd_int rfl)) (.c1 rfl (ob_nilCheck rfl (.tmp rfl)) (.c1 rfl (ob_fieldAddr (off' := 2) rfl Tryd.underlying68 rfl sz3 (by decide) (.tmp rfl) rfl) .cz))))))) fun _ _ s36 => ?_); clear s29
   refine seq_opx0 (B' := (fun _ : Unit => [BF b00 68 (ko_disk_Disk_0_1 w0_0 w0_1) (⟨[], [], (isub .i64 p1.fuse (1 : Int)), p1.dead⟩ : disk_Disk), RowF w0_0 100 (karr 256 (kint .u8)) p1.firm, RowF w0_1 102 k_disk_write p1.loose])) s36 rfl rfl (ob_store (A := []) rfl tk3 (.tmp rfl) (.tmp rfl) rfl (lso_disk_Disk_0_1_fuse (⟨[], [], p1.fuse, p1.dead⟩ : disk_Disk) (isub .i64 p1.fuse (1 : Int))) rfl) fun _ a37 w37 s37 => ?_; clear s36
   refine wpList_nil ?_
   refine in_normal ?_
   refine then_normal ?_
   exact hj1 (isub .i64 p1.fuse (1 : Int)) p1.dead _ _ h4 (s37.sub (.cons rfl .nil))
  ·have h5 := ite_f hc2 h3; clear h3
   refine wp_skip ?_
   refine in_normal ?_
   refine then_normal ?_
   exact hj1 p1.fuse p1.dead _ _ h5 (s29.sub (.cons rfl .nil))
theorem c_disk_Disk_Write (k : Nat) (p1 : disk_Disk) (p2 : Int) (p3 : (List Int)) (r : (Int × disk_Disk)) (h0 : disk_Disk_Write k p1 p2 p3 = some r) (ok : Ok) (w0 : World) (z0 : Value) (z1 : Value) (z2 : Value) (b00 : Nat) (w0_0 : Value) (w0_1 : Value) (l0 : ∀ q, q ∈ [BF b00 68 (ko_disk_Disk_0_1 w0_0 w0_1) (⟨[], [], p1.fuse, p1.dead⟩ : disk_Disk), RowF w0_0 100 (karr 256 (kint .u8)) p1.firm, RowF w0_1 102 k_disk_write p1.loose] → q.holds ok w0) (d0 : ∀ c, c ∈ idsOf [BF b00 68 (ko_disk_Disk_0_1 w0_0 w0_1) (⟨[], [], p1.fuse, p1.dead⟩ : disk_Disk), RowF w0_0 100 (karr 256 (kint .u8)) p1.firm, RowF w0_1 102 k_disk_write p1.loose] → ¬ ok c) (nd : (idsOf [BF b00 68 (ko_disk_Disk_0_1 w0_0 w0_1) (⟨[], [], p1.fuse, p1.dead⟩ : disk_Disk), RowF w0_0 100 (karr 256 (kint .u8)) p1.firm, RowF w0_1 102 k_disk_write p1.loose]).Nodup) (u0 : (ptrB b00 0).holds ok w0 z0) (u1 : ((kint .i64).V p2).holds ok w0 z1) (u2 : (kstr.V p3).holds ok w0 z2) :
 GivesX Tryd.prog 49 [z0, z1, z2] ok w0 [BF b00 68 (ko_disk_Disk_0_1 w0_0 w0_1) (⟨[], [], p1.fuse, p1.dead⟩ : disk_Disk), RowF w0_0 100 (karr 256 (kint .u8)) p1.firm, RowF w0_1 102 k_disk_write p1.loose] (fun g : Value × Value => resFact [(kint .i64).V r.1]) (fun g : Value × Value => [BF b00 68 (ko_disk_Disk_0_1 (g.1) (g.2)) (⟨[], [], r.2.fuse, r.2.dead⟩ : disk_Disk), RowF (g.1) 100 (karr 256 (kint .u8)) r.2.firm, RowF (g.2) 102 k_disk_write r.2.loose]) := by
 unfold disk_Disk_Write at h0
 refine enterX (N := 42) Tryd.func49 rfl rfl (of_decide_eq_true rfl) (.cons u0 (.cons u1 (.cons u2 .nil))) nd l0 d0 fun a1 s1 => ?_
 refine wp_seq_k fun K1 hK1 => wp_region_lit (qs s1 (.c1 rfl (ob_assign rfl (opd_int rfl)) (.ce (u 0 rfl (u 1 rfl (u 2 rfl .nil))))) fun _ _ s3 => wn hK1 ?_); clear s1
 refine wp_seq_k fun K2 hK2 => wp_block ?_
 obtain ⟨x1, e_x1, h1⟩ := bind_some h0; clear h0
 refine wp_seq_k fun K3 hK3 => wp_region_lit (qs s3 (.c1 rfl (mv rfl rfl) (.c1 rfl (mv rfl rfl) (.c1 rfl ((ob_lendG (L := [_, _, _]) (List.Perm.refl _) (.cons (t := 9) rfl (lendObj (K' := k_disk_Disk) (X' := p1) (.head _) rfl (upo_disk_Disk_0_1 rfl (.row (LetAll.row (.tail _ (.head _)))) (.row (LetAll.row (.tail _ (.tail _ (.head _))))))) .nil) (Flat.res1 (Flat.V KFlat.bool)) (fun _ => ob_callD0 (args := [_, _]) rfl .direct hb60 (fun a w s => by exact c_disk_Disk_has k _ _ _ e_x1 _ _ _ _ (s.arg (.tmp rfl)) (s.arg (.tmp rfl)))))) (.c1 rfl (ob_not rfl (.tmp rfl)) (.c1 rfl (mv rfl rfl) (.cg rfl rfl rfl rfl (fun hb => ob_move rfl (.tmp rfl)) (.cg rfl rfl rfl rfl (fun hb => (Ob.uncond (t := 14) hb rfl (ob_lenStr rfl Tryd.underlying9 (.tmp rfl)))) (.cg rfl rfl rfl rfl (fun hb => (Ob.uncond (t := 15) hb rfl (ob_neq rfl (.tmp rfl) (opd_int rfl)))) (.c1 rfl (ob_or2 rfl (.tmp rfl) opd_bool (.tmp rfl)) (.c1 rfl (ob_assign rfl (.tmp rfl)) (.ce (u 0 rfl (u 1 rfl (u 2 rfl (u 8 rfl .nil))))))))))))))) fun _ _ s14 => wn hK3 ?_); clear s3
 refine cond_split s14 (.tmp rfl) (fun hc1 => ?_) (fun hc1 => ?_)
 ·have h2 := ite_t hc1 h1; clear h1
  refine wp_seq_k fun K4 hK4 => wp_region_lit (qs s14 (.c1 rfl (ob_assign rfl (opd_int rfl)) (.ce (u 6 rfl .nil))) fun _ _ s16 => wn hK4 ?_); clear s14
  refine wp_ret ?_
  obtain rfl := Option.some.inj h2
  exact leaveXD (D := []) ⟨w0_0, w0_1⟩ s16 rfl (.inl rfl) rfl (.cons (.tmp rfl) .nil) rfl
 ·have h3 := ite_f hc1 h1; clear h1
  refine wp_seq_k fun K5 hK5 => wp_region_lit (qs s14 (.c1 rfl (mv rfl rfl) (.c1 rfl (ob_nilCheck rfl (.tmp rfl)) (.c1 rfl (ob_fieldAddr (off' := 3) rfl Tryd.underlying68 rfl sz4 (by decide) (.tmp rfl) rfl) (.c1 rfl (ob_load rfl tk4 (.tmp rfl) (.head _) (lgo_disk_Disk_0_1_dead (⟨[], [], p1.fuse, p1.dead⟩ : disk_Disk))) (.c1 rfl (ob_assign rfl (.tmp rfl)) (.ce (u 0 rfl (u 1 rfl (u 2 rfl (u 18 rfl .nil)))))))))) fun _ _ s22 => wn hK5 ?_); clear s14
  refine cond_split s22 (.tmp rfl) (fun hc2 => ?_) (fun hc2 => ?_)
  ·have h4 := ite_t hc2 h3; clear h3
   refine wp_seq_k fun K6 hK6 => wp_region_lit (qs s22 (.c1 rfl (ob_assign rfl (opd_int rfl)) (.ce (u 6 rfl .nil))) fun _ _ s24 => wn hK6 ?_); clear s22
   refine wp_ret ?_
   obtain rfl := Option.some.inj h4
   exact leaveXD (D := []) ⟨w0_0, w0_1⟩ s24 rfl (.inl rfl) rfl (.cons (.tmp rfl) .nil) rfl
  ·have h5 := ite_f hc2 h3; clear h3
   refine wp_skip ?_
   refine in_normal ?_
   refine then_normal (hK2 _ _ ?_)
   have s25 := s22.sub (u 0 rfl (u 1 rfl (u 2 rfl .nil))); clear s22
   refine wp_seq_k fun K7 hK7 => wp_region_lit (qs s25 (.c1 rfl (mv rfl rfl) (.c1 rfl (ob_mkStruct (K := k_disk_write) (X0 := (⟨(0 : Int), (List.replicate 256 (0 : Int))⟩ : disk_write)) rfl Tryd.underlying102 zz102 rfl pl102 (Zr.iso (f := t_disk_write) (x := (⟨(0 : Int), (List.replicate 256 (0 : Int))⟩ : disk_write)) (Zr.pair (Zr.int .i64) (Zr.pair (Zr.arr 256 (Zr.int .u8)) Zr.nil))) (.cons (.tmp rfl) rfl (ls_disk_write_at_ (⟨(0 : Int), (List.replicate 256 (0 : Int))⟩ : disk_write) p2) (.nil _))) .cz)) fun _ _ s27 => ?_); clear s25
   refine qx (B' := (fun b1 : Nat => [BF b1 102 k_disk_write (⟨(0 : Int), (List.replicate 256 (0 : Int))⟩ : disk_write), BF b00 68 (ko_disk_Disk_0_1 w0_0 w0_1) (⟨[], [], p1.fuse, p1.dead⟩ : disk_Disk), RowF w0_0 100 (karr 256 (kint .u8)) p1.firm, RowF w0_1 102 k_disk_write p1.loose])) s27 rfl (ob_new (k := k_disk_write) rfl zz102 (Zr.iso (f := t_disk_write) (x := (⟨(0 : Int), (List.replicate 256 (0 : Int))⟩ : disk_write)) (Zr.pair (Zr.int .i64) (Zr.pair (Zr.arr 256 (Zr.int .u8)) Zr.nil)))) fun b1 _ _ s28 => ?_; clear s27
   refine seq_opx0 (B' := (fun _ : Unit => [BF b1 102 k_disk_write (⟨p2, (List.replicate 256 (0 : Int))⟩ : disk_write), BF b00 68 (ko_disk_Disk_0_1 w0_0 w0_1) (⟨[], [], p1.fuse, p1.dead⟩ : disk_Disk), RowF w0_0 100 (karr 256 (kint .u8)) p1.firm, RowF w0_1 102 k_disk_write p1.loose])) s28 rfl rfl (ob_store (A := []) rfl tk102 (.tmp rfl) (.tmp rfl) rfl (LS.refl _ _ _) rfl) fun _ a29 w29 s29 => ?_; clear s28
   refine wn hK7 ?_
   have s30 := s29.sub (u 0 rfl (u 2 rfl (u 7 rfl .nil))); clear s29
   obtain ⟨g1, h6⟩ := guard_some h5; clear h5
   obtain ⟨x2, e_x2, h7⟩ := bind_some h6; clear h6; replace e_x2 := Option.some.inj e_x2
   refine wp_seq_k fun K8 hK8 => wp_region_lit (qs s30 (.c1 rfl (ob_fieldAddr (off' := 1) rfl Tryd.underlying102 rfl sz100 (by decide) (.tmp rfl) rfl) (.c1 rfl (ob_sliceArr rfl Tryd.underlying100 sz5 (.tmp rfl) .none .none (show (0 : Int) ≤ (0 : Int) ∧ (0 : Int) ≤ (256 : Int) ∧ (256 : Int) ≤ ((256 : Nat) : Int) by decide)) (.c1 rfl (mv rfl rfl) .cz))) fun _ _ s33 => ?_); clear s30
   refine qx (B' := (fun _ : Unit => [BF b1 102 k_disk_write x2, BF b00 68 (ko_disk_Disk_0_1 w0_0 w0_1) (⟨[], [], p1.fuse, p1.dead⟩ : disk_Disk), RowF w0_0 100 (karr 256 (kint .u8)) p1.firm, RowF w0_1 102 k_disk_write p1.loose])) s33 rfl (ob_copyB (A := []) rfl Tryd.underlying31 sz5 rfl (.tmp rfl) (srcStr (.tmp rfl)) rfl rfl (sl_fit (show (0 : Int) ≤ (0 : Int) ∧ (0 : Int) ≤ (256 : Int) ∧ (256 : Int) ≤ ((256 : Nat) : Int) by decide)) g1 (lg_disk_write_data (⟨p2, (List.replicate 256 (0 : Int))⟩ : disk_write)) (LS.to (ls_disk_write_data (⟨p2, (List.replicate 256 (0 : Int))⟩ : disk_write) (((⟨p2, (List.replicate 256 (0 : Int))⟩ : disk_write).data).take (0 : Int).toNat ++ p3 ++ ((⟨p2, (List.replicate 256 (0 : Int))⟩ : disk_write).data).drop ((0 : Int).toNat + p3.length))) e_x2) rfl (by decide)) fun _ _ _ s34 => ?_; clear s33
   refine wn hK8 ?_
   have s35 := s34.sub (u 0 rfl (u 7 rfl .nil)); clear s34
   refine wp_seq_k fun K9 hK9 => ?_
   obtain ⟨g2, h8⟩ := guard_some h7; clear h7
   refine wp_goes (Fs := [(ptrB b00 0), (ptrB b00 0), (ptrB b00 0), (ptrB b00 1), (is w0_1), (k_disk_write.V x2), ((ksl k_disk_write).V ([x2] : (List disk_write))), nofact]) (bits := [0, 0, 2, 6, 14, 0, 32, 126, 255, 511, 1023]) (m := 8) (todo := 128) mx s35 ?_; clear s35
   refine goes_turn (B' := (fun v1 : Value => [BF b1 102 k_disk_write x2, BF b00 68 (ko_disk_Disk_0_1 w0_0 w0_1) (⟨[], [], p1.fuse, p1.dead⟩ : disk_Disk), RowF w0_0 100 (karr 256 (kint .u8)) p1.firm, RowF v1 102 k_disk_write (p1.loose ++ ([x2] : (List disk_write)))])) (Fs' := (fun v1 : Value => setAll ([(ptrB b00 0), (ptrB b00 0), (ptrB b00 0), (ptrB b00 1), (is w0_1), (k_disk_write.V x2), ((ksl k_disk_write).V ([x2] : (List disk_write))), nofact]) [(7, (is v1))])) 7 128 254 0 (by kernel_rfl) rfl rfl rfl (oc (av 0 rfl rfl Av.nil) rfl rfl (mv rfl rfl) (oc (av 0 rfl rfl Av.nil) rfl rfl (mv rfl rfl) (oc (an 1 rfl rfl rfl Av.nil) rfl rfl (ob_nilCheck rfl (.tmp rfl)) (oc (an 2 rfl rfl rfl Av.nil) rfl rfl (ob_fieldAddr (off' := 1) rfl Tryd.underlying68 rfl sz66 (by decide) (.tmp rfl) rfl) (oc (an 3 rfl rfl rfl Av.nil) rfl rfl (ob_loadRowV rfl (tkr66 _) (.tmp rfl) (.tail _ (.head _)) (lgo_disk_Disk_0_1_loose (⟨[], [], p1.fuse, p1.dead⟩ : disk_Disk))) (oc (av 7 rfl rfl Av.nil) rfl rfl (ob_load rfl tk102 (.tmp rfl) (.head _) (LG.refl _ _)) (oc (an 5 rfl rfl rfl Av.nil) rfl rfl (ob_mkSlice (k := k_disk_write) (xs := ([x2] : (List disk_write))) rfl Tryd.underlying66 zz102 sz102 (Zr.iso (f := t_disk_write) (x := (⟨(0 : Int), (List.replicate 256 (0 : Int))⟩ : disk_write)) (Zr.pair (Zr.int .i64) (Zr.pair (Zr.arr 256 (Zr.int .u8)) Zr.nil))) (by decide) (by decide) (.cons (.tmp rfl) rfl (LS.arr' (i := 0) (ys := ([x2] : (List disk_write))) (by simp) (by rfl)) (.nil _))) (opsS_skip (by rfl) opsS_nil)))))))) (.plain _ (an 4 rfl rfl rfl (an 6 rfl rfl rfl Av.nil)) rfl (fun _ => rfl) (fun R => ob_appendL2 (A := [_, _, _]) rfl Tryd.underlying66 ap102 (Zr.iso (f := t_disk_write) (x := (⟨(0 : Int), (List.replicate 256 (0 : Int))⟩ : disk_write)) (Zr.pair (Zr.int .i64) (Zr.pair (Zr.arr 256 (Zr.int .u8)) Zr.nil))) (by decide) (.tmp rfl) (.tmp rfl) rfl g2)) (setAll_same (us := (fun v1 : Value => [(7, (is v1))])) fun _ => by kernel_rfl) fun v1 => ?_
   refine goes_last (by kernel_rfl) rfl (oc (av 0 rfl rfl Av.nil) rfl rfl (mv rfl rfl) (opsS_skip (by rfl) (opsS_skip (by rfl) (opsS_skip (by rfl) (opsS_skip (by rfl) (opsS_skip (by rfl) (opsS_skip (by rfl) (opsS_skip (by rfl) opsS_nil)))))))) (out_old (t := 0) rfl rfl (out_new (i := 0) (by decide) rfl rfl (out_new (i := 7) (by decide) rfl rfl out_nil))) fun _ _ s36 => ?_
   refine qs s36 (.c1 rfl (ob_nilCheck rfl (.tmp rfl)) (.c1 rfl (ob_fieldAddr (off' := 1) rfl Tryd.underlying68 rfl sz66 (by decide) (.tmp rfl) rfl) .cz)) fun _ _ s38 => ?_; clear s36
   refine seq_opx0 (B' := (fun _ : Unit => [BF b1 102 k_disk_write x2, BF b00 68 (ko_disk_Disk_0_1 w0_0 v1) (⟨[], [], p1.fuse, p1.dead⟩ : disk_Disk), RowF w0_0 100 (karr 256 (kint .u8)) p1.firm, RowF v1 102 k_disk_write (p1.loose ++ ([x2] : (List disk_write)))])) s38 rfl rfl (ob_storeRowV (A := [_]) rfl (tkr66 _) (.tmp rfl) (.tmp rfl) (.tail _ (.tail _ (.tail _ (.head _)))) rfl (lsk_disk_Disk_0_1_to_0_1_at1 (⟨[], [], p1.fuse, p1.dead⟩ : disk_Disk)) rfl) fun _ a39 w39 s39 => ?_; clear s38
   refine wn hK9 ?_
   have s40 := s39.sub (u 0 rfl .nil); clear s39
   have s41 := St.drop (A := []) s40; clear s40
   refine wp_seq_k fun K10 hK10 => wp_seq_k fun K11 hK11 => ?_
   obtain ⟨x3, e_x3, h9⟩ := bind_some h8; clear h8
   refine wp_region_lit (qs s41 (.c1 rfl (mv rfl rfl) .cz) fun _ _ s42 => ?_); clear s41
   refine qx (B' := (fun gg : Value × Value => [BF b00 68 (ko_disk_Disk_0_1 gg.1 gg.2) (⟨[], [], x3.2.fuse, x3.2.dead⟩ : disk_Disk), RowF gg.1 100 (karr 256 (kint .u8)) x3.2.firm, RowF gg.2 102 k_disk_write x3.2.loose])) s42 rfl (ob_callL0 (args := [_]) (L := [_, _, _]) rfl .direct hb76 (List.Perm.refl _) (fun a w s => by exact c_disk_Disk_burn k _ _ e_x3 _ _ _ _ _ _ (ownL s) (disL s) (nodL s) (s.arg (.tmp rfl))) (by exact fun _ => rfl)) fun gg43 _ _ s43 => ?_; clear s42
   obtain ⟨v2, v3⟩ := gg43
   refine qs s43 (.c1 rfl (ob_not rfl (.tmp rfl)) (.ce (u 41 rfl .nil))) fun _ _ s45 => wn hK11 ?_; clear s43
   refine cond_split s45 (.tmp rfl) (fun hc3 => ?_) (fun hc3 => ?_)
   ·have h10 := ite_t hc3 h9; clear h9
    refine wp_seq_k fun K12 hK12 => wp_region_lit (qs s45 (.c1 rfl (ob_assign rfl (opd_int rfl)) (.ce (u 6 rfl .nil))) fun _ _ s47 => wn hK12 ?_); clear s45
    refine wp_ret ?_
    obtain rfl := Option.some.inj h10
    exact leaveXD (D := []) ⟨v2, v3⟩ s47 rfl (.inl rfl) rfl (.cons (.tmp rfl) .nil) rfl
   ·have h11 := ite_f hc3 h9; clear h9
    refine wp_skip ?_
    refine then_normal (hK10 _ _ ?_)
    have s48 := s45.sub .nil; clear s45
    refine wp_seq_k fun K13 hK13 => wp_region_lit (qs s48 (.c1 rfl (ob_assign rfl (opd_int rfl)) (.ce (u 6 rfl .nil))) fun _ _ s50 => wn hK13 ?_); clear s48
    refine wp_ret ?_
    obtain rfl := Option.some.inj h11
    exact leaveXD (D := []) ⟨v2, v3⟩ s50 rfl (.inl rfl) rfl (.cons (.tmp rfl) .nil) rfl
theorem c_disk_Disk_Sync_1 (k : Nat) (p1 : Int) (r : Int) (h0 : disk_Disk_Sync_1 k p1 = some r) (ok : Ok) (w0 : World) (z0 : Value) (u0 : ((kint .i64).V p1).holds ok w0 z0) :
 Gives Tryd.prog 77 [z0] ok w0 (resFact [(kint .i64).V r]) := by
 unfold disk_Disk_Sync_1 at h0
 refine enter (N := 3) Tryd.func77 rfl rfl (of_decide_eq_true rfl) (.cons u0 .nil) fun a1 s1 => ?_
 refine wp_seq_k fun K1 hK1 => wp_region_lit (qs s1 (.c1 rfl (ob_assign rfl (opd_int rfl)) (.ce .nil)) fun _ _ s3 => wn hK1 ?_); clear s1
 refine wp_seq_k fun K2 hK2 => wp_region_lit (qs s3 (.c1 rfl (ob_assign rfl (opd_int rfl)) (.ce (u 2 rfl .nil))) fun _ _ s5 => wn hK2 ?_); clear s3
 refine wp_ret ?_
 obtain rfl := Option.some.inj h0
 exact leave s5 (.inl rfl) rfl (.cons (.tmp rfl) .nil)
theorem c_disk_Disk_settle_disk_Disk_Sync_1 (k : Nat) (p1 : disk_Disk) (r : disk_Disk) (h0 : disk_Disk_settle_disk_Disk_Sync_1 k p1 = some r) (ok : Ok) (w0 : World) (z0 : Value) (z1 : Value) (b00 : Nat) (w0_0 : Value) (w0_1 : Value) (l0 : ∀ q, q ∈ [BF b00 68 (ko_disk_Disk_0_1 w0_0 w0_1) (⟨[], [], p1.fuse, p1.dead⟩ : disk_Disk), RowF w0_0 100 (karr 256 (kint .u8)) p1.firm, RowF w0_1 102 k_disk_write p1.loose] → q.holds ok w0) (d0 : ∀ c, c ∈ idsOf [BF b00 68 (ko_disk_Disk_0_1 w0_0 w0_1) (⟨[], [], p1.fuse, p1.dead⟩ : disk_Disk), RowF w0_0 100 (karr 256 (kint .u8)) p1.firm, RowF w0_1 102 k_disk_write p1.loose] → ¬ ok c) (nd : (idsOf [BF b00 68 (ko_disk_Disk_0_1 w0_0 w0_1) (⟨[], [], p1.fuse, p1.dead⟩ : disk_Disk), RowF w0_0 100 (karr 256 (kint .u8)) p1.firm, RowF w0_1 102 k_disk_write p1.loose]).Nodup) (u0 : (ptrB b00 0).holds ok w0 z0) (u1 : (is (.func (.func 77) #[] #[])).holds ok w0 z1) :
 GivesX Tryd.prog 37 [z0, z1] ok w0 [BF b00 68 (ko_disk_Disk_0_1 w0_0 w0_1) (⟨[], [], p1.fuse, p1.dead⟩ : disk_Disk), RowF w0_0 100 (karr 256 (kint .u8)) p1.firm, RowF w0_1 102 k_disk_write p1.loose] (fun g : Value × Value => resFact []) (fun g : Value × Value => [BF b00 68 (ko_disk_Disk_0_1 (g.1) (g.2)) (⟨[], [], r.fuse, r.dead⟩ : disk_Disk), RowF (g.1) 100 (karr 256 (kint .u8)) r.firm, RowF (g.2) 102 k_disk_write r.loose]) := by
 unfold disk_Disk_settle_disk_Disk_Sync_1 at h0
 refine enterX (N := 38) Tryd.func37 rfl rfl (of_decide_eq_true rfl) (.cons u0 (.cons u1 .nil)) nd l0 d0 fun a1 s1 => ?_
 refine wp_seq_k fun K1 hK1 => wp_seq_k fun K2 hK2 => ?_
 refine wp_region_lit (qs s1 (.c1 rfl (mv rfl rfl) (.c1 rfl (ob_nilCheck rfl (.tmp rfl)) (.c1 rfl (ob_fieldAddr (off' := 1) rfl Tryd.underlying68 rfl sz66 (by decide) (.tmp rfl) rfl) (.c1 rfl (ob_loadRowV rfl (tkr66 _) (.tmp rfl) (.head _) (lgo_disk_Disk_0_1_loose (⟨[], [], p1.fuse, p1.dead⟩ : disk_Disk))) (.c1 rfl (ob_lenRow rfl Tryd.underlying66 (.tmp rfl) (.tail _ (.tail _ (.head _)))) (.c1 rfl (ob_move rfl (opd_int rfl)) (.ce (u 0 rfl (u 1 rfl (u 10 rfl (u 11 rfl (u 12 rfl .nil)))))))))))) fun _ _ s8 => wn hK2 ?_); clear s1
 have hj1 : ∀ (y1 : (List (List Int))) (a : Act) (w : World), (disk_Disk_settle_disk_Disk_Sync_1.j1 k p1) y1 = some r → St ⟨38, w0, ok, (idsOf [BF b00 68 (ko_disk_Disk_0_1 w0_0 w0_1) (⟨[], [], p1.fuse, p1.dead⟩ : disk_Disk), RowF w0_0 100 (karr 256 (kint .u8)) p1.firm, RowF w0_1 102 k_disk_write p1.loose])⟩ [BF b00 68 (ko_disk_Disk_0_1 w0_0 w0_1) (⟨[], [], p1.fuse, p1.dead⟩ : disk_Disk), RowF w0_0 100 (karr 256 (kint .u8)) y1, RowF w0_1 102 k_disk_write p1.loose] [(0, (ptrB b00 0))] a w → K1 a w := by
  intro y1 a9 w9 h1 s9
  unfold disk_Disk_settle_disk_Disk_Sync_1.j1 at h1
  refine hK1 _ _ ?_
  refine wp_region_lit (qs s9 (.c1 rfl (mv rfl rfl) (.c1 rfl (ob_nilCheck rfl (.tmp rfl)) (.c1 rfl (ob_fieldAddr (off' := 1) rfl Tryd.underlying68 rfl sz66 (by decide) (.tmp rfl) rfl) .cz))) fun _ _ s12 => ?_); clear s9
  have s13 := St.adopt s12 (G := RowF (nilRow 7) 102 k_disk_write []) rfl (rowNilN _ _ _ _ _); clear s12
  refine seq_opx0 (B' := (fun _ : Unit => [RowF (nilRow 7) 102 k_disk_write ([] : (List disk_write)), BF b00 68 (ko_disk_Disk_0_1 w0_0 (nilRow 7)) (⟨[], [], p1.fuse, p1.dead⟩ : disk_Disk), RowF w0_0 100 (karr 256 (kint .u8)) y1, RowF w0_1 102 k_disk_write p1.loose])) s13 rfl rfl (ob_storeRowV (A := [_]) rfl (tkr66 _) (.tmp rfl) opd_is (.head _) rfl (lsk_disk_Disk_0_1_to_0_1_at1 (⟨[], [], p1.fuse, p1.dead⟩ : disk_Disk)) rfl) fun _ a14 w14 s14 => ?_; clear s13
  refine wpList_nil ?_
  have s15 := s14.perm (toFront [_] (toFront [_] (toFront [] (List.Perm.refl _)))); clear s14
  obtain rfl := Option.some.inj h1
  exact leaveXD (D := [_]) ⟨w0_0, (nilRow 7)⟩ s15 rfl (.inr rfl) rfl .nil rfl
 refine wp_block ?_
 have s16 := s8.perm (toFront [] (toFront [_] (toFront [] (List.Perm.refl _)))); clear s8
 refine wp_loop_fuel (fun m (q : Int × (List (List Int))) => disk_Disk_settle_disk_Disk_Sync_1.l1 k p1 m q.1 q.2) r (fun _ => rfl) (fun q a w => St ⟨38, w0, ok, (idsOf [BF b00 68 (ko_disk_Disk_0_1 w0_0 w0_1) (⟨[], [], p1.fuse, p1.dead⟩ : disk_Disk), RowF w0_0 100 (karr 256 (kint .u8)) p1.firm, RowF w0_1 102 k_disk_write p1.loose])⟩ [BF b00 68 (ko_disk_Disk_0_1 w0_0 w0_1) (⟨[], [], p1.fuse, p1.dead⟩ : disk_Disk), RowF w0_1 102 k_disk_write p1.loose, RowF w0_0 100 (karr 256 (kint .u8)) q.2] [(0, (ptrB b00 0)), (1, (is (.func (.func 77) #[] #[]))), (10, (is w0_1)), (11, ((kint .i64).V (p1.loose.length : Int))), (12, ((kint .i64).V q.1))] a w) ?_ k ((0 : Int), p1.firm) _ _ h0 (s16.sub (.cons rfl (.cons rfl (.cons rfl (.cons rfl (.cons rfl .nil))))))
 rintro n1 ⟨y2, y3⟩ a17 w17 h2 s17 K3 hK3
 replace h2 : disk_Disk_settle_disk_Disk_Sync_1.l1 k p1 (n1 + 1) y2 y3 = some r := h2; rw [disk_Disk_settle_disk_Disk_Sync_1.l1] at h2
 have h3 := h2; clear h2
 refine wp_seq_k fun K4 hK4 => wp_region_lit (qs s17 (.c1 rfl (ob_lss rfl (.tmp rfl) (.tmp rfl)) (.ce (u 0 rfl (u 1 rfl (u 10 rfl (u 11 rfl (u 12 rfl (u 13 rfl .nil)))))))) fun _ _ s19 => wn hK4 ?_); clear s17
 refine wp_seq_k fun K5 hK5 => ?_
 refine cond_split s19 (.tmp rfl) (fun hc1 => ?_) (fun hc1 => ?_)
 ·have h4 := ite_t hc1 h3; clear h3
  refine wp_skip ?_
  refine then_normal (hK5 _ _ ?_)
  have s20 := s19.sub (u 0 rfl (u 1 rfl (u 10 rfl (u 11 rfl (u 12 rfl .nil))))); clear s19
  refine wp_seq_k fun K6 hK6 => wp_block ?_
  obtain ⟨g1, h5⟩ := guard_some h4; clear h4
  obtain ⟨x1, e_x1, h6⟩ := bind_some h5; clear h5
  refine wp_seq_k fun K7 hK7 => wp_region_lit (qs s20 (.c1 rfl (mv rfl rfl) (.c1 rfl (ob_rowAt rfl Tryd.underlying66 sz102 (.tmp rfl) (.tail _ (.head _)) (.tmp rfl) g1) (.c1 rfl (ob_rowLoad rfl tk102 (.tmp rfl) (.tail _ (.head _)) (LG.arrA e_x1)) .cz))) fun _ _ s23 => ?_); clear s20
  refine qx (B' := (fun b1 : Nat => [BF b1 102 k_disk_write (⟨(0 : Int), (List.replicate 256 (0 : Int))⟩ : disk_write), BF b00 68 (ko_disk_Disk_0_1 w0_0 w0_1) (⟨[], [], p1.fuse, p1.dead⟩ : disk_Disk), RowF w0_1 102 k_disk_write p1.loose, RowF w0_0 100 (karr 256 (kint .u8)) y3])) s23 rfl (ob_new (k := k_disk_write) rfl zz102 (Zr.iso (f := t_disk_write) (x := (⟨(0 : Int), (List.replicate 256 (0 : Int))⟩ : disk_write)) (Zr.pair (Zr.int .i64) (Zr.pair (Zr.arr 256 (Zr.int .u8)) Zr.nil)))) fun b1 _ _ s24 => ?_; clear s23
  refine qs s24 (.c1 rfl (ob_assign rfl (.tmp rfl)) .cz) fun _ _ s25 => ?_; clear s24
  refine seq_opx0 (B' := (fun _ : Unit => [BF b1 102 k_disk_write x1, BF b00 68 (ko_disk_Disk_0_1 w0_0 w0_1) (⟨[], [], p1.fuse, p1.dead⟩ : disk_Disk), RowF w0_1 102 k_disk_write p1.loose, RowF w0_0 100 (karr 256 (kint .u8)) y3])) s25 rfl rfl (ob_store (A := []) rfl tk102 (.tmp rfl) (.tmp rfl) rfl (LS.refl _ _ _) rfl) fun _ a26 w26 s26 => ?_; clear s25
  refine wn hK7 ?_
  have s27 := s26.sub (u 0 rfl (u 1 rfl (u 4 rfl (u 5 rfl (u 10 rfl (u 11 rfl (u 12 rfl .nil))))))); clear s26
  obtain ⟨x2, e_x2, h7⟩ := bind_some h6; clear h6
  refine wp_seq_k fun K8 hK8 => wp_region_lit (qs s27 (.c1 rfl (mv rfl rfl) (.c1 rfl (mv rfl rfl) (.c1 rfl (ob_callD0 (args := [_]) rfl (.fn (.tmp rfl)) hb77 (fun a w s => by exact c_disk_Disk_Sync_1 k _ _ e_x2 _ _ _ (s.arg (.tmp rfl)))) (.c1 rfl (ob_mul rfl (.tmp rfl) (opd_int rfl)) (.c1 rfl (ob_assign rfl (.tmp rfl)) (.ce (u 0 rfl (u 1 rfl (u 5 rfl (u 6 rfl (u 10 rfl (u 11 rfl (u 12 rfl .nil))))))))))))) fun _ _ s33 => wn hK8 ?_); clear s27
  obtain ⟨g2, h8⟩ := guard_some h7; clear h7
  obtain ⟨g3, h9⟩ := guard_some h8; clear h8
  obtain ⟨g4, h10⟩ := guard_some h9; clear h9
  refine wp_goes (Fs := [(ptrB b00 0), (ptrB b00 0), (ptrB b00 0), (is w0_0), (ptrB b1 0), ((kint .i64).V x1.at_), (ptrR w0_0 (x1.at_.toNat * 256)), ((kint .i64).V (imul .i64 x2 (64 : Int))), (slR w0_0 (soff 256 (x1.at_.toNat * 256) (0 : Int).toNat 1) ((imul .i64 x2 (64 : Int)).toNat - (0 : Int).toNat) (256 - (0 : Int).toNat)), (ptrB b1 1), ((kint .i64).V (imul .i64 x2 (64 : Int))), (is (.slice (some ⟨b1, soff 256 1 (0 : Int).toNat 1, none⟩) ((imul .i64 x2 (64 : Int)).toNat - (0 : Int).toNat) (256 - (0 : Int).toNat)))]) (bits := [0, 1, 3, 7, 0, 16, 63, 0, 255, 0, 0, 1536, 4095]) (m := 12) (todo := 0) mx s33 ?_; clear s33
  refine goes_last (by kernel_rfl) rfl (oc (av 0 rfl rfl Av.nil) rfl rfl (mv rfl rfl) (oc (an 0 rfl rfl rfl Av.nil) rfl rfl (ob_nilCheck rfl (.tmp rfl)) (oc (an 1 rfl rfl rfl Av.nil) rfl rfl (ob_fieldAddr (off' := 0) rfl Tryd.underlying68 rfl sz65 (by decide) (.tmp rfl) rfl) (oc (an 2 rfl rfl rfl Av.nil) rfl rfl (ob_loadRowV rfl (tkr65 _) (.tmp rfl) (.tail _ (.head _)) (lgo_disk_Disk_0_1_firm (⟨[], [], p1.fuse, p1.dead⟩ : disk_Disk))) (oc (av 5 rfl rfl Av.nil) rfl rfl (ob_fieldAddr (off' := 0) rfl Tryd.underlying102 rfl sz3 (by decide) (.tmp rfl) rfl) (oc (an 4 rfl rfl rfl Av.nil) rfl rfl (ob_load rfl tk3 (.tmp rfl) (.head _) (lg_disk_write_at_ x1)) (oc (an 3 rfl rfl rfl (an 5 rfl rfl rfl Av.nil)) rfl rfl (ob_rowAt rfl Tryd.underlying65 sz100 (.tmp rfl) (.tail _ (.tail _ (.tail _ (.head _)))) (.tmp rfl) g2) (oc (av 6 rfl rfl Av.nil) rfl rfl (mv rfl rfl) (oc (an 6 rfl rfl rfl (an 7 rfl rfl rfl Av.nil)) rfl rfl (ob_sliceRow rfl Tryd.underlying100 sz5 (.tmp rfl) .none (.some (.tmp rfl)) g3) (oc (av 5 rfl rfl Av.nil) rfl rfl (ob_fieldAddr (off' := 1) rfl Tryd.underlying102 rfl sz100 (by decide) (.tmp rfl) rfl) (oc (av 6 rfl rfl Av.nil) rfl rfl (mv rfl rfl) (oc (an 9 rfl rfl rfl (an 10 rfl rfl rfl Av.nil)) rfl rfl (ob_sliceArr rfl Tryd.underlying100 sz5 (.tmp rfl) .none (.some (.tmp rfl)) g4) opsS_nil)))))))))))) (out_old (t := 0) rfl rfl (out_old (t := 1) rfl rfl (out_old (t := 10) rfl rfl (out_old (t := 11) rfl rfl (out_old (t := 12) rfl rfl (out_new (i := 8) (by decide) rfl rfl (out_new (i := 11) (by decide) rfl rfl out_nil))))))) fun _ _ s34 => ?_
  obtain ⟨x3, e_x3, h11⟩ := bind_some h10; clear h10
  obtain ⟨g5, h12⟩ := guard_some h11; clear h11
  obtain ⟨x4, e_x4, h13⟩ := bind_some h12; clear h12
  obtain ⟨x5, e_x5, h14⟩ := bind_some h13; clear h13
  refine qx (B' := (fun _ : Unit => [BF b1 102 k_disk_write x1, BF b00 68 (ko_disk_Disk_0_1 w0_0 w0_1) (⟨[], [], p1.fuse, p1.dead⟩ : disk_Disk), RowF w0_1 102 k_disk_write p1.loose, RowF w0_0 100 (karr 256 (kint .u8)) x5])) s34 rfl ((ob_lendX (L := [_, _, _]) (List.Perm.refl _) (.cons (t := 32) rfl (lendSlB (.head _) (lg_disk_write_data x1) e_x3 rfl (cut_len e_x3) (cut_cap e_x3 g4 (by decide))) .nil) (fun _ => (Flat.V (KFlat.int _))) (fun _ => (.cons (FlatO.row (KFlat.arr (KFlat.int _))) FlatL.nil)) (fun _ _ => ob_copyR (A := []) rfl Tryd.underlying31 sz5 rfl (.tmp rfl) (srcSl rfl (.tmp rfl)) rfl rfl (sl_fit g3) g5 (LG.arrA e_x4) (LS.arrS e_x5) rfl (by decide)))) fun _ _ _ s35 => ?_; clear s34
  refine wpList_nil ?_
  refine in_normal ?_
  refine then_normal (hK6 _ _ ?_)
  have s36 := s35.sub (u 0 rfl (u 1 rfl (u 10 rfl (u 11 rfl (u 12 rfl .nil))))); clear s35
  have s37 := St.drop (A := []) s36; clear s36
  refine wp_region_lit (qs s37 (.c1 rfl (ob_add rfl (.tmp rfl) (opd_int rfl)) (.c1 rfl (mv rfl rfl) .cz)) fun _ _ s39 => ?_); clear s37
  refine wpList_nil ?_
  refine then_normal ?_
  exact hK3 ((iadd .i64 y2 (1 : Int)), x5) _ _ h14 (s39.sub (.cons rfl (.cons rfl (.cons rfl (.cons rfl (.cons rfl .nil))))))
 ·have h15 := ite_f hc1 h3; clear h3
  refine wp_exit ?_
  refine (then_exit (then_exit (in_here ?_)))
  refine then_normal ?_
  have s40 := s19.perm (toFront [] (toFront [_] (toFront [] (List.Perm.refl _)))); clear s19
  exact hj1 y3 _ _ h15 (s40.sub (.cons rfl .nil))
theorem c_disk_Disk_Sync (k : Nat) (p1 : disk_Disk) (r : (Int × disk_Disk)) (h0 : disk_Disk_Sync k p1 = some r) (ok : Ok) (w0 : World) (z0 : Value) (b00 : Nat) (w0_0 : Value) (w0_1 : Value) (l0 : ∀ q, q ∈ [BF b00 68 (ko_disk_Disk_0_1 w0_0 w0_1) (⟨[], [], p1.fuse, p1.dead⟩ : disk_Disk), RowF w0_0 100 (karr 256 (kint .u8)) p1.firm, RowF w0_1 102 k_disk_write p1.loose] → q.holds ok w0) (d0 : ∀ c, c ∈ idsOf [BF b00 68 (ko_disk_Disk_0_1 w0_0 w0_1) (⟨[], [], p1.fuse, p1.dead⟩ : disk_Disk), RowF w0_0 100 (karr 256 (kint .u8)) p1.firm, RowF w0_1 102 k_disk_write p1.loose] → ¬ ok c) (nd : (idsOf [BF b00 68 (ko_disk_Disk_0_1 w0_0 w0_1) (⟨[], [], p1.fuse, p1.dead⟩ : disk_Disk), RowF w0_0 100 (karr 256 (kint .u8)) p1.firm, RowF w0_1 102 k_disk_write p1.loose]).Nodup) (u0 : (ptrB b00 0).holds ok w0 z0) :
 GivesX Tryd.prog 50 [z0] ok w0 [BF b00 68 (ko_disk_Disk_0_1 w0_0 w0_1) (⟨[], [], p1.fuse, p1.dead⟩ : disk_Disk), RowF w0_0 100 (karr 256 (kint .u8)) p1.firm, RowF w0_1 102 k_disk_write p1.loose] (fun g : Value × Value => resFact [(kint .i64).V r.1]) (fun g : Value × Value => [BF b00 68 (ko_disk_Disk_0_1 (g.1) (g.2)) (⟨[], [], r.2.fuse, r.2.dead⟩ : disk_Disk), RowF (g.1) 100 (karr 256 (kint .u8)) r.2.firm, RowF (g.2) 102 k_disk_write r.2.loose]) := by
 unfold disk_Disk_Sync at h0
 refine enterX (N := 18) Tryd.func50 rfl rfl (of_decide_eq_true rfl) (.cons u0 .nil) nd l0 d0 fun a1 s1 => ?_
 refine wp_seq_k fun K1 hK1 => wp_region_lit (qs s1 (.c1 rfl (ob_assign rfl (opd_int rfl)) (.ce (u 0 rfl .nil))) fun _ _ s3 => wn hK1 ?_); clear s1
 refine wp_seq_k fun K2 hK2 => wp_seq_k fun K3 hK3 => ?_
 obtain ⟨x1, e_x1, h1⟩ := bind_some h0; clear h0
 refine wp_region_lit (qs s3 (.c1 rfl (mv rfl rfl) (.c1 rfl (ob_ptrNil (p := some _) rfl pt24 (.tmp rfl) opd_is) (.c1 rfl (mv rfl rfl) (.cg rfl rfl rfl rfl (fun hb => ob_move rfl (.tmp rfl)) (.cg rfl rfl rfl rfl (fun hb => (Ob.uncond (t := 6) hb rfl (ob_nilCheck rfl (.tmp rfl)))) (.cg rfl rfl rfl rfl (fun hb => (Ob.uncond (t := 7) hb rfl (ob_fieldAddr (off' := 3) rfl Tryd.underlying68 rfl sz4 (by decide) (.tmp rfl) rfl))) (.cg rfl rfl rfl rfl (fun hb => (Ob.uncond (t := 8) hb rfl (ob_load rfl tk4 (.tmp rfl) (.head _) (lgo_disk_Disk_0_1_dead (⟨[], [], p1.fuse, p1.dead⟩ : disk_Disk))))) (.c1 rfl (ob_or2 rfl (.tmp rfl) opd_bool (.tmp rfl)) (.c1 rfl (mv rfl rfl) (.cg rfl rfl rfl rfl (fun hb => ob_move rfl (.tmp rfl)) .cz)))))))))) fun _ _ s13 => ?_); clear s3
 refine seq_opxg (B1 := (fun gg : Value × Value => [BF b00 68 (ko_disk_Disk_0_1 gg.1 gg.2) (⟨[], [], x1.2.fuse, x1.2.dead⟩ : disk_Disk), RowF gg.1 100 (karr 256 (kint .u8)) x1.2.firm, RowF gg.2 102 k_disk_write x1.2.loose])) s13 rfl rfl rfl rfl (of_decide_eq_true rfl) (fun hb => (ObX.uncond (t := 12) hb rfl (ob_callL0 (args := [_]) (L := [_, _, _]) rfl .direct hb76 (List.Perm.refl _) (fun a w s => by exact c_disk_Disk_burn k _ _ (ite_t hb e_x1) _ _ _ _ _ _ (ownL s) (disL s) (nodL s) (s.arg (.tmp rfl))) (by exact fun _ => rfl)))) (fun hb0 => by obtain rfl := Option.some.inj (ite_f hb0 e_x1); exact ⟨⟨w0_0, w0_1⟩, rfl⟩) fun gg14 a14 w14 s14 => ?_; clear s13
 obtain ⟨v1, v2⟩ := gg14
 refine qs s14 (.cg rfl rfl rfl rfl (fun hb => (Ob.uncond (t := 13) hb rfl (ob_not rfl (.tmp rfl)))) (.c1 rfl (ob_or2 rfl (.tmp rfl) opd_bool (.tmp rfl)) (.ce (u 0 rfl (u 15 rfl .nil))))) fun _ _ s17 => wn hK3 ?_; clear s14
 refine cond_split s17 (.tmp rfl) (fun hc1 => ?_) (fun hc1 => ?_)
 ·have h2 := ite_t hc1 h1; clear h1
  refine wp_seq_k fun K4 hK4 => wp_region_lit (qs s17 (.c1 rfl (ob_assign rfl (opd_int rfl)) (.ce (u 2 rfl .nil))) fun _ _ s19 => wn hK4 ?_); clear s17
  refine wp_ret ?_
  obtain rfl := Option.some.inj h2
  exact leaveXD (D := []) ⟨v1, v2⟩ s19 rfl (.inl rfl) rfl (.cons (.tmp rfl) .nil) rfl
 ·have h3 := ite_f hc1 h1; clear h1
  refine wp_skip ?_
  refine then_normal (hK2 _ _ ?_)
  have s20 := s17.sub (u 0 rfl .nil); clear s17
  obtain ⟨x2, e_x2, h4⟩ := bind_some h3; clear h3
  refine wp_seq_k fun K5 hK5 => wp_region_lit (qs s20 (.c1 rfl (mv rfl rfl) .cz) fun _ _ s21 => ?_); clear s20
  refine qx (B' := (fun gg : Value × Value => [BF b00 68 (ko_disk_Disk_0_1 gg.1 gg.2) (⟨[], [], x2.fuse, x2.dead⟩ : disk_Disk), RowF gg.1 100 (karr 256 (kint .u8)) x2.firm, RowF gg.2 102 k_disk_write x2.loose])) s21 rfl (ob_callL0 (args := [_, _]) (L := [_, _, _]) rfl .direct hb37 (List.Perm.refl _) (fun a w s => by exact c_disk_Disk_settle_disk_Disk_Sync_1 k _ _ e_x2 _ _ _ _ _ _ _ (ownL s) (disL s) (nodL s) (s.arg (.tmp rfl)) (s.arg .func)) (by exact fun _ => rfl)) fun gg22 _ _ s22 => ?_; clear s21
  obtain ⟨v3, v4⟩ := gg22
  refine wn hK5 ?_
  have s23 := s22.sub .nil; clear s22
  refine wp_seq_k fun K6 hK6 => wp_region_lit (qs s23 (.c1 rfl (ob_assign rfl (opd_int rfl)) (.ce (u 2 rfl .nil))) fun _ _ s25 => wn hK6 ?_); clear s23
  refine wp_ret ?_
  obtain rfl := Option.some.inj h4
  exact leaveXD (D := []) ⟨v3, v4⟩ s25 rfl (.inl rfl) rfl (.cons (.tmp rfl) .nil) rfl
theorem c_journal_Journal_commit (k : Nat) (p1 : journal_Journal) (p2 : Int) (p3 : Int) (p4 : (List Int)) (p5 : disk_Disk) (r : (Int × journal_Journal × disk_Disk)) (h0 : journal_Journal_commit k p1 p2 p3 p4 p5 = some r) (ok : Ok) (w0 : World) (gl0 : (ptrTo (karr 8 (kint .u32)) G_digest_first).holds ok w0 (.pointer (some ⟨0, 0, none⟩))) (gl1 : (ptrTo (karr 64 (kint .u32)) G_digest_rounds).holds ok w0 (.pointer (some ⟨1, 0, none⟩))) (z0 : Value) (z1 : Value) (z2 : Value) (z3 : Value) (b00 : Nat) (b01 : Nat) (w1_0 : Value) (w1_1 : Value) (l0 : ∀ q, q ∈ [BF b00 70 (ko_journal_Journal_0 (.pointer (some ⟨b01, 0, none⟩))) (⟨(), p1.area, p1.bytes, p1.l⟩ : journal_Journal), BF b01 68 (ko_disk_Disk_0_1 w1_0 w1_1) (⟨[], [], p5.fuse, p5.dead⟩ : disk_Disk), RowF w1_0 100 (karr 256 (kint .u8)) p5.firm, RowF w1_1 102 k_disk_write p5.loose] → q.holds ok w0) (d0 : ∀ c, c ∈ idsOf [BF b00 70 (ko_journal_Journal_0 (.pointer (some ⟨b01, 0, none⟩))) (⟨(), p1.area, p1.bytes, p1.l⟩ : journal_Journal), BF b01 68 (ko_disk_Disk_0_1 w1_0 w1_1) (⟨[], [], p5.fuse, p5.dead⟩ : disk_Disk), RowF w1_0 100 (karr 256 (kint .u8)) p5.firm, RowF w1_1 102 k_disk_write p5.loose] → ¬ ok c) (nd : (idsOf [BF b00 70 (ko_journal_Journal_0 (.pointer (some ⟨b01, 0, none⟩))) (⟨(), p1.area, p1.bytes, p1.l⟩ : journal_Journal), BF b01 68 (ko_disk_Disk_0_1 w1_0 w1_1) (⟨[], [], p5.fuse, p5.dead⟩ : disk_Disk), RowF w1_0 100 (karr 256 (kint .u8)) p5.firm, RowF w1_1 102 k_disk_write p5.loose]).Nodup) (u0 : (ptrB b00 0).holds ok w0 z0) (u1 : ((kint .i64).V p2).holds ok w0 z1) (u2 : ((kint .i64).V p3).holds ok w0 z2) (u3 : (kstr.V p4).holds ok w0 z3) :
 GivesX Tryd.prog 43 [z0, z1, z2, z3] ok w0 [BF b00 70 (ko_journal_Journal_0 (.pointer (some ⟨b01, 0, none⟩))) (⟨(), p1.area, p1.bytes, p1.l⟩ : journal_Journal), BF b01 68 (ko_disk_Disk_0_1 w1_0 w1_1) (⟨[], [], p5.fuse, p5.dead⟩ : disk_Disk), RowF w1_0 100 (karr 256 (kint .u8)) p5.firm, RowF w1_1 102 k_disk_write p5.loose] (fun g : Value × Value => resFact [(kint .i64).V r.1]) (fun g : Value × Value => [BF b00 70 (ko_journal_Journal_0 (.pointer (some ⟨b01, 0, none⟩))) (⟨(), r.2.1.area, r.2.1.bytes, r.2.1.l⟩ : journal_Journal), BF b01 68 (ko_disk_Disk_0_1 (g.1) (g.2)) (⟨[], [], r.2.2.fuse, r.2.2.dead⟩ : disk_Disk), RowF (g.1) 100 (karr 256 (kint .u8)) r.2.2.firm, RowF (g.2) 102 k_disk_write r.2.2.loose]) := by
 unfold journal_Journal_commit at h0
 refine enterX (N := 66) Tryd.func43 rfl rfl (of_decide_eq_true rfl) (.cons u0 (.cons u1 (.cons u2 (.cons u3 .nil)))) nd l0 d0 fun a1 s1 => ?_
 have s2 := s1.keepKnown 100000 gl0 (okInX (L := [BF b00 70 (ko_journal_Journal_0 (.pointer (some ⟨b01, 0, none⟩))) (⟨(), p1.area, p1.bytes, p1.l⟩ : journal_Journal), BF b01 68 (ko_disk_Disk_0_1 w1_0 w1_1) (⟨[], [], p5.fuse, p5.dead⟩ : disk_Disk), RowF w1_0 100 (karr 256 (kint .u8)) p5.firm, RowF w1_1 102 k_disk_write p5.loose]) d0); clear s1
 have s3 := s2.keepKnown 100001 gl1 (okInX (L := [BF b00 70 (ko_journal_Journal_0 (.pointer (some ⟨b01, 0, none⟩))) (⟨(), p1.area, p1.bytes, p1.l⟩ : journal_Journal), BF b01 68 (ko_disk_Disk_0_1 w1_0 w1_1) (⟨[], [], p5.fuse, p5.dead⟩ : disk_Disk), RowF w1_0 100 (karr 256 (kint .u8)) p5.firm, RowF w1_1 102 k_disk_write p5.loose]) d0); clear s2
 refine wp_seq_k fun K1 hK1 => wp_region_lit ?_
 refine qx (B' := (fun b1 : Nat => [BF b1 9 kstr p4, BF b00 70 (ko_journal_Journal_0 (.pointer (some ⟨b01, 0, none⟩))) (⟨(), p1.area, p1.bytes, p1.l⟩ : journal_Journal), BF b01 68 (ko_disk_Disk_0_1 w1_0 w1_1) (⟨[], [], p5.fuse, p5.dead⟩ : disk_Disk), RowF w1_0 100 (karr 256 (kint .u8)) p5.firm, RowF w1_1 102 k_disk_write p5.loose])) s3 rfl (ob_box rfl (.tmp rfl)) fun b1 _ _ s4 => ?_; clear s3
 refine qs s4 (.c1 rfl (ob_assign rfl (opd_int rfl)) (.ce (u 0 rfl (u 1 rfl (u 2 rfl (u 7 rfl (u 100000 rfl (u 100001 rfl .nil)))))))) fun _ _ s6 => wn hK1 ?_; clear s4
 refine wp_scope_straight ?_
 refine wp_seq_k fun K2 hK2 => wp_region_lit (qs s6 (.c1 rfl (ob_makeFn (xs := []) (ys := [_]) rfl .nil (.cons (.tmp rfl) .nil)) (.c1 rfl (ob_assign rfl (.tmp rfl)) (.ce (u 0 rfl (u 1 rfl (u 2 rfl (u 7 rfl (u 9 rfl (u 100000 rfl (u 100001 rfl .nil)))))))))) fun _ _ s9 => wn hK2 ?_); clear s6
 refine wp_seq_k fun K3 hK3 => wp_region_lit (qs s9 (.c1 rfl (ob_assign rfl (opd_int rfl)) (.ce (u 0 rfl (u 1 rfl (u 2 rfl (u 7 rfl (u 9 rfl (u 10 rfl (u 100000 rfl (u 100001 rfl .nil)))))))))) fun _ _ s11 => wn hK3 ?_); clear s9
 refine wp_seq_k fun K4 hK4 => ?_
 refine wp_label ?_
 refine then_normal (hK4 _ _ ?_)
 have s12 := s11.sub (u 0 rfl (u 1 rfl (u 2 rfl (u 7 rfl (u 9 rfl (u 10 rfl (u 100000 rfl (u 100001 rfl .nil)))))))); clear s11
 refine wp_seq_k fun K5 hK5 => wp_seq_k fun K6 hK6 => ?_
 refine wp_region_lit (qs s12 (.c1 rfl (ob_move rfl (opd_int rfl)) (.ce (u 0 rfl (u 1 rfl (u 2 rfl (u 7 rfl (u 9 rfl (u 10 rfl (u 13 rfl (u 100000 rfl (u 100001 rfl .nil))))))))))) fun _ _ s14 => wn hK6 ?_); clear s12
 have hj1 : ∀ (y1 : Int) (y2 : Int) (y3 : Bool) (y4 : (List (List Int))) (y5 : (List disk_write)) (v1 : Value) (v2 : Value) (a : Act) (w : World), (journal_Journal_commit.j1 k p1) y1 y2 y3 y4 y5 = some r → St ⟨66, w0, ok, (idsOf [BF b00 70 (ko_journal_Journal_0 (.pointer (some ⟨b01, 0, none⟩))) (⟨(), p1.area, p1.bytes, p1.l⟩ : journal_Journal), BF b01 68 (ko_disk_Disk_0_1 w1_0 w1_1) (⟨[], [], p5.fuse, p5.dead⟩ : disk_Disk), RowF w1_0 100 (karr 256 (kint .u8)) p5.firm, RowF w1_1 102 k_disk_write p5.loose])⟩ [BF b00 70 (ko_journal_Journal_0 (.pointer (some ⟨b01, 0, none⟩))) (⟨(), p1.area, p1.bytes, p1.l⟩ : journal_Journal), BF b01 68 (ko_disk_Disk_0_1 v1 v2) (⟨[], [], y2, y3⟩ : disk_Disk), RowF v1 100 (karr 256 (kint .u8)) y4, RowF v2 102 k_disk_write y5] [(10, ((kint .i64).V y1)), (100000, (known (.pointer (some ⟨0, 0, none⟩)) (ptrTo (karr 8 (kint .u32)) G_digest_first))), (100001, (known (.pointer (some ⟨1, 0, none⟩)) (ptrTo (karr 64 (kint .u32)) G_digest_rounds)))] a w → K5 a w := by
  intro y1 y2 y3 y4 y5 v1 v2 a15 w15 h1 s15
  unfold journal_Journal_commit.j1 at h1
  refine hK5 _ _ ?_
  refine wp_seq_k fun K7 hK7 => wp_region_lit (qs s15 (.c1 rfl (mv rfl rfl) (.c1 rfl (ob_assign rfl (.tmp rfl)) (.ce (u 8 rfl (u 100000 rfl (u 100001 rfl .nil)))))) fun _ _ s18 => wn hK7 ?_); clear s15
  refine wp_ret ?_
  obtain rfl := Option.some.inj h1
  exact leaveXD (D := []) ⟨v1, v2⟩ s18 rfl (.inl rfl) rfl (.cons (.tmp rfl) .nil) rfl
 refine wp_block ?_
 have s19 := s14.perm (toFront [_] (toFront [] (toFront [] (toFront [] (toFront [] (List.Perm.refl _)))))); clear s14
 refine wp_loop_fuel (fun m (q : Int × Int × Int × Bool × (List (List Int)) × (List disk_write)) => journal_Journal_commit.l1 k p4 p1 p2 p3 m q.1 q.2.1 q.2.2.1 q.2.2.2.1 q.2.2.2.2.1 q.2.2.2.2.2) r (fun _ => rfl) (fun q a w => ∃ (v3 : Value) (v4 : Value), St ⟨66, w0, ok, (idsOf [BF b00 70 (ko_journal_Journal_0 (.pointer (some ⟨b01, 0, none⟩))) (⟨(), p1.area, p1.bytes, p1.l⟩ : journal_Journal), BF b01 68 (ko_disk_Disk_0_1 w1_0 w1_1) (⟨[], [], p5.fuse, p5.dead⟩ : disk_Disk), RowF w1_0 100 (karr 256 (kint .u8)) p5.firm, RowF w1_1 102 k_disk_write p5.loose])⟩ [BF b00 70 (ko_journal_Journal_0 (.pointer (some ⟨b01, 0, none⟩))) (⟨(), p1.area, p1.bytes, p1.l⟩ : journal_Journal), BF b1 9 kstr p4, BF b01 68 (ko_disk_Disk_0_1 v3 v4) (⟨[], [], q.2.2.1, q.2.2.2.1⟩ : disk_Disk), RowF v3 100 (karr 256 (kint .u8)) q.2.2.2.2.1, RowF v4 102 k_disk_write q.2.2.2.2.2] [(0, (ptrB b00 0)), (1, ((kint .i64).V p2)), (2, ((kint .i64).V p3)), (7, (ptrB b1 0)), (9, (cloF 72 [] [(ptrB b1 0)])), (10, ((kint .i64).V q.1)), (13, ((kint .i64).V q.2.1)), (100000, (known (.pointer (some ⟨0, 0, none⟩)) (ptrTo (karr 8 (kint .u32)) G_digest_first))), (100001, (known (.pointer (some ⟨1, 0, none⟩)) (ptrTo (karr 64 (kint .u32)) G_digest_rounds)))] a w) ?_ k ((7 : Int), (0 : Int), p5.fuse, p5.dead, p5.firm, p5.loose) _ _ h0 ⟨w1_0, w1_1, (s19.sub (.cons rfl (.cons rfl (.cons rfl (.cons rfl (.cons rfl (.cons rfl (.cons rfl (.cons rfl (.cons rfl .nil))))))))))⟩
 rintro n1 ⟨y6, y7, y8, y9, y10, y11⟩ a20 w20 h2 ⟨v3, v4, s20⟩ K8 hK8
 replace h2 : journal_Journal_commit.l1 k p4 p1 p2 p3 (n1 + 1) y6 y7 y8 y9 y10 y11 = some r := h2; rw [journal_Journal_commit.l1] at h2
 have h3 := h2; clear h2
 refine wp_seq_k fun K9 hK9 => wp_region_lit (qs s20 (.c1 rfl (ob_lss rfl (.tmp rfl) (opd_int rfl)) (.ce (u 0 rfl (u 1 rfl (u 2 rfl (u 7 rfl (u 9 rfl (u 10 rfl (u 13 rfl (u 14 rfl (u 100000 rfl (u 100001 rfl .nil)))))))))))) fun _ _ s22 => wn hK9 ?_); clear s20
 refine wp_seq_k fun K10 hK10 => ?_
 refine cond_split s22 (.tmp rfl) (fun hc1 => ?_) (fun hc1 => ?_)
 ·have h4 := ite_t hc1 h3; clear h3
  refine wp_skip ?_
  refine then_normal (hK10 _ _ ?_)
  have s23 := s22.sub (u 0 rfl (u 1 rfl (u 2 rfl (u 7 rfl (u 9 rfl (u 10 rfl (u 13 rfl (u 100000 rfl (u 100001 rfl .nil))))))))); clear s22
  refine wp_seq_k fun K11 hK11 => ?_
  have hj2 : ∀ (y12 : Int) (y13 : Bool) (y14 : (List (List Int))) (y15 : (List disk_write)) (v11 : Value) (v12 : Value) (a : Act) (w : World), (journal_Journal_commit.j2 k y7 (journal_Journal_commit.l1 k p4 p1 p2 p3 n1)) y12 y13 y14 y15 = some r → St ⟨66, w0, ok, (idsOf [BF b00 70 (ko_journal_Journal_0 (.pointer (some ⟨b01, 0, none⟩))) (⟨(), p1.area, p1.bytes, p1.l⟩ : journal_Journal), BF b01 68 (ko_disk_Disk_0_1 w1_0 w1_1) (⟨[], [], p5.fuse, p5.dead⟩ : disk_Disk), RowF w1_0 100 (karr 256 (kint .u8)) p5.firm, RowF w1_1 102 k_disk_write p5.loose])⟩ [BF b00 70 (ko_journal_Journal_0 (.pointer (some ⟨b01, 0, none⟩))) (⟨(), p1.area, p1.bytes, p1.l⟩ : journal_Journal), BF b1 9 kstr p4, BF b01 68 (ko_disk_Disk_0_1 v11 v12) (⟨[], [], y12, y13⟩ : disk_Disk), RowF v11 100 (karr 256 (kint .u8)) y14, RowF v12 102 k_disk_write y15] [(0, (ptrB b00 0)), (1, ((kint .i64).V p2)), (2, ((kint .i64).V p3)), (7, (ptrB b1 0)), (9, (cloF 72 [] [(ptrB b1 0)])), (10, ((kint .i64).V (0 : Int))), (13, ((kint .i64).V y7)), (100000, (known (.pointer (some ⟨0, 0, none⟩)) (ptrTo (karr 8 (kint .u32)) G_digest_first))), (100001, (known (.pointer (some ⟨1, 0, none⟩)) (ptrTo (karr 64 (kint .u32)) G_digest_rounds)))] a w → K11 a w := by
   intro y12 y13 y14 y15 v11 v12 a24 w24 h5 s24
   unfold journal_Journal_commit.j2 at h5
   refine hK11 _ _ ?_
   refine wp_region_lit (qs s24 (.c1 rfl (ob_add rfl (.tmp rfl) (opd_int rfl)) (.c1 rfl (mv rfl rfl) .cz)) fun _ _ s26 => ?_); clear s24
   refine wpList_nil ?_
   refine then_normal ?_
   exact hK8 ((0 : Int), (iadd .i64 y7 (1 : Int)), y12, y13, y14, y15) _ _ h5 ⟨v11, v12, (s26.sub (.cons rfl (.cons rfl (.cons rfl (.cons rfl (.cons rfl (.cons rfl (.cons rfl (.cons rfl (.cons rfl .nil))))))))))⟩
  refine wp_block ?_
  refine wp_seq_k fun K12 hK12 => wp_seq_k fun K13 hK13 => ?_
  refine wp_region_lit (qs s23 (.c1 rfl (mv rfl rfl) (.c1 rfl (ob_quo rfl (.tmp rfl) (opd_int rfl) (by decide)) (.c1 rfl (ob_assign rfl (.tmp rfl)) (.ce (u 0 rfl (u 1 rfl (u 2 rfl (u 7 rfl (u 9 rfl (u 10 rfl (u 11 rfl (u 13 rfl (u 100000 rfl (u 100001 rfl .nil)))))))))))))) fun _ _ s30 => wn hK13 ?_); clear s23
  have hj3 : ∀ (y16 : Int) (y17 : Bool) (y18 : (List (List Int))) (y19 : (List disk_write)) (v5 : Value) (v6 : Value) (a : Act) (w : World), (journal_Journal_commit.j3 k p2 p4 p1 y6 y7 (journal_Journal_commit.l1 k p4 p1 p2 p3 n1)) y16 y17 y18 y19 = some r → St ⟨66, w0, ok, (idsOf [BF b00 70 (ko_journal_Journal_0 (.pointer (some ⟨b01, 0, none⟩))) (⟨(), p1.area, p1.bytes, p1.l⟩ : journal_Journal), BF b01 68 (ko_disk_Disk_0_1 w1_0 w1_1) (⟨[], [], p5.fuse, p5.dead⟩ : disk_Disk), RowF w1_0 100 (karr 256 (kint .u8)) p5.firm, RowF w1_1 102 k_disk_write p5.loose])⟩ [BF b00 70 (ko_journal_Journal_0 (.pointer (some ⟨b01, 0, none⟩))) (⟨(), p1.area, p1.bytes, p1.l⟩ : journal_Journal), BF b1 9 kstr p4, BF b01 68 (ko_disk_Disk_0_1 v5 v6) (⟨[], [], y16, y17⟩ : disk_Disk), RowF v5 100 (karr 256 (kint .u8)) y18, RowF v6 102 k_disk_write y19] [(0, (ptrB b00 0)), (1, ((kint .i64).V p2)), (2, ((kint .i64).V p3)), (7, (ptrB b1 0)), (9, (cloF 72 [] [(ptrB b1 0)])), (10, ((kint .i64).V y6)), (13, ((kint .i64).V y7)), (100000, (known (.pointer (some ⟨0, 0, none⟩)) (ptrTo (karr 8 (kint .u32)) G_digest_first))), (100001, (known (.pointer (some ⟨1, 0, none⟩)) (ptrTo (karr 64 (kint .u32)) G_digest_rounds)))] a w → K12 a w := by
   intro y16 y17 y18 y19 v5 v6 a31 w31 h6 s31
   unfold journal_Journal_commit.j3 at h6
   refine hK12 _ _ ?_
   refine wp_seq_k fun K14 hK14 => wp_seq_k fun K15 hK15 => ?_
   obtain ⟨x1, e_x1, h7⟩ := bind_some h6; clear h6
   obtain ⟨x2, e_x2, h8⟩ := bind_some h7; clear h7
   obtain ⟨x3, e_x3, h9⟩ := bind_some h8; clear h8
   refine wp_goes (Fs := [(ptrB b00 0), (ptrB b00 0), (ptrB b00 0), (ptrB b01 0), nofact, nofact, nofact, nofact, nofact, nofact, nofact, nofact, nofact, nofact, nofact, nofact]) (bits := [0, 1, 3, 7, 15, 31, 63, 127, 255, 511, 1023, 127, 127, 4223, 14463, 30847, 65535, 131071, 262143, 524287, 1048575, 2097151, 4194303, 8388607, 16777215, 33554431, 67108863]) (m := 16) (todo := 16) mx s31 ?_; clear s31
   refine goes_turn (B' := (fun gg : Value × Value => [BF b01 68 (ko_disk_Disk_0_1 gg.1 gg.2) (⟨[], [], x1.2.fuse, x1.2.dead⟩ : disk_Disk), RowF gg.1 100 (karr 256 (kint .u8)) x1.2.firm, RowF gg.2 102 k_disk_write x1.2.loose, BF b00 70 (ko_journal_Journal_0 (.pointer (some ⟨b01, 0, none⟩))) (⟨(), p1.area, p1.bytes, p1.l⟩ : journal_Journal), BF b1 9 kstr p4])) (Fs' := (fun gg : Value × Value => setAll ([(ptrB b00 0), (ptrB b00 0), (ptrB b00 0), (ptrB b01 0), nofact, nofact, nofact, nofact, nofact, nofact, nofact, nofact, nofact, nofact, nofact, nofact]) [(4, ((kint .i64).V x1.1)), (5, (kbool.V (x1.1 != (0 : Int)))), (6, (kbool.V (x1.1 != (0 : Int)))), (7, (Fact.when ((x1.1 != (0 : Int)) == false) (ptrB b00 0))), (8, (Fact.when ((x1.1 != (0 : Int)) == false) (ptrB b00 0))), (9, (Fact.when ((x1.1 != (0 : Int)) == false) (ptrB b00 0))), (10, (Fact.when ((x1.1 != (0 : Int)) == false) (ptrB b01 0))), (11, (Fact.when ((x1.1 != (0 : Int)) == false) ((kint .i64).V p2))), (12, (Fact.when ((x1.1 != (0 : Int)) == false) (kstr.V p4))), (13, (Fact.when ((x1.1 != (0 : Int)) == false) ((kint .i64).V (p4.length : Int)))), (14, (Fact.when ((x1.1 != (0 : Int)) == false) (kstr.V x2))), (15, (Fact.when ((x1.1 != (0 : Int)) == false) (kstr.V x3)))])) 4 65520 31 0 (by kernel_rfl) rfl rfl rfl (oc (av 0 rfl rfl (av 100000 rfl rfl (av 100001 rfl rfl Av.nil))) rfl rfl (mv rfl rfl) (oc (an 0 rfl rfl rfl (av 100000 rfl rfl (av 100001 rfl rfl Av.nil))) rfl rfl (ob_nilCheck rfl (.tmp rfl)) (oc (an 1 rfl rfl rfl (av 100000 rfl rfl (av 100001 rfl rfl Av.nil))) rfl rfl (ob_fieldAddr (off' := 0) rfl Tryd.underlying70 rfl sz24 (by decide) (.tmp rfl) rfl) (oc (an 2 rfl rfl rfl (av 100000 rfl rfl (av 100001 rfl rfl Av.nil))) rfl rfl (ob_loadRowV rfl (tkr24 _) (.tmp rfl) (.head _) (lgo_journal_Journal_0_d (⟨(), p1.area, p1.bytes, p1.l⟩ : journal_Journal))) (opsS_skip (by rfl) (opsS_skip (by rfl) (opsS_skip (by rfl) (opsS_skip (by rfl) (opsS_skip (by rfl) (opsS_skip (by rfl) (opsS_skip (by rfl) (opsS_skip (by rfl) (opsS_skip (by rfl) (opsS_skip (by rfl) (opsS_skip (by rfl) (opsS_skip (by rfl) opsS_nil)))))))))))))))) (.plain _ (an 3 rfl rfl rfl (av 100000 rfl rfl (av 100001 rfl rfl Av.nil))) rfl (fun _ => rfl) (fun R => ob_callL0 (args := [_]) (L := [_, _, _]) rfl .direct hb50 (toFront [_, _] (toFront [_, _] (toFront [_, _] (List.Perm.refl _)))) (fun a w s => by exact c_disk_Disk_Sync k _ _ e_x1 _ _ _ _ _ _ (ownL s) (disL s) (nodL s) (s.arg (.tmp rfl))) (by exact fun _ => rfl))) (setAll_same (us := (fun gg : Value × Value => [(4, ((kint .i64).V x1.1)), (5, (kbool.V (x1.1 != (0 : Int)))), (6, (kbool.V (x1.1 != (0 : Int)))), (7, (Fact.when ((x1.1 != (0 : Int)) == false) (ptrB b00 0))), (8, (Fact.when ((x1.1 != (0 : Int)) == false) (ptrB b00 0))), (9, (Fact.when ((x1.1 != (0 : Int)) == false) (ptrB b00 0))), (10, (Fact.when ((x1.1 != (0 : Int)) == false) (ptrB b01 0))), (11, (Fact.when ((x1.1 != (0 : Int)) == false) ((kint .i64).V p2))), (12, (Fact.when ((x1.1 != (0 : Int)) == false) (kstr.V p4))), (13, (Fact.when ((x1.1 != (0 : Int)) == false) ((kint .i64).V (p4.length : Int)))), (14, (Fact.when ((x1.1 != (0 : Int)) == false) (kstr.V x2))), (15, (Fact.when ((x1.1 != (0 : Int)) == false) (kstr.V x3)))])) fun _ => by kernel_rfl) fun gg33 => ?_
   obtain ⟨v7, v8⟩ := gg33
   refine goes_last (by kernel_rfl) rfl (opsS_skip (by rfl) (opsS_skip (by rfl) (opsS_skip (by rfl) (opsS_skip (by rfl) (opsS_skip (by rfl) (oc (an 4 rfl rfl rfl (av 100000 rfl rfl (av 100001 rfl rfl Av.nil))) rfl rfl (ob_neq rfl (.tmp rfl) (opd_int rfl)) (oc (an 5 rfl rfl rfl (av 100000 rfl rfl (av 100001 rfl rfl Av.nil))) rfl rfl (mv rfl rfl) (opsS_cons (.guarded _ (av 0 rfl rfl (an 6 rfl rfl rfl (av 100000 rfl rfl (av 100001 rfl rfl Av.nil)))) rfl rfl rfl rfl (fun hb => ob_move rfl (.tmp rfl))) (opsS_cons (.guarded _ (an 6 rfl rfl rfl (an 7 rfl rfl rfl (av 100000 rfl rfl (av 100001 rfl rfl Av.nil)))) rfl rfl rfl rfl (fun hb => (Ob.uncond (t := 44) hb rfl (ob_nilCheck rfl (.tmp rfl))))) (opsS_cons (.guarded _ (an 6 rfl rfl rfl (an 8 rfl rfl rfl (av 100000 rfl rfl (av 100001 rfl rfl Av.nil)))) rfl rfl rfl rfl (fun hb => (Ob.uncond (t := 45) hb rfl (ob_fieldAddr (off' := 0) rfl Tryd.underlying70 rfl sz24 (by decide) (.tmp rfl) rfl)))) (opsS_cons (.guarded _ (an 6 rfl rfl rfl (an 9 rfl rfl rfl (av 100000 rfl rfl (av 100001 rfl rfl Av.nil)))) rfl rfl rfl rfl (fun hb => (Ob.uncond (t := 46) hb rfl (ob_loadRowV rfl (tkr24 _) (.tmp rfl) (.tail _ (.tail _ (.tail _ (.head _)))) (lgo_journal_Journal_0_d (⟨(), p1.area, p1.bytes, p1.l⟩ : journal_Journal)))))) (opsS_cons (.guarded _ (av 1 rfl rfl (an 6 rfl rfl rfl (av 100000 rfl rfl (av 100001 rfl rfl Av.nil)))) rfl rfl rfl rfl (fun hb => ob_move rfl (.tmp rfl))) (opsS_cons (.guarded _ (av 7 rfl rfl (an 6 rfl rfl rfl (av 100000 rfl rfl (av 100001 rfl rfl Av.nil)))) rfl rfl rfl rfl (fun hb => ob_load rfl tk9 (.tmp rfl) (.tail _ (.tail _ (.tail _ (.tail _ (.head _))))) (LG.refl _ _))) (opsS_cons (.guarded _ (an 6 rfl rfl rfl (an 12 rfl rfl rfl (av 100000 rfl rfl (av 100001 rfl rfl Av.nil)))) rfl rfl rfl rfl (fun hb => (Ob.uncond (t := 49) hb rfl (ob_lenStr rfl Tryd.underlying9 (.tmp rfl))))) (opsS_cons (.guarded _ (an 6 rfl rfl rfl (an 11 rfl rfl rfl (an 13 rfl rfl rfl (av 100000 rfl rfl (av 100001 rfl rfl Av.nil))))) rfl rfl rfl rfl (fun hb => (Ob.uncond (t := 50) hb rfl ((Ob.uncond (t := 48) hb rfl (ob_callD0 (args := [_, _]) rfl .direct hb33 (fun a w s => by exact c_journal_mark k _ _ _ (ite_t hb e_x2) _ _ (s.env _ _ (show get _ 100000 = _ from rfl)) (s.env _ _ (show get _ 100001 = _ from rfl)) _ _ (s.arg (.tmp rfl)) (s.arg (.tmp rfl))))))))) (opsS_cons (.guarded _ (an 6 rfl rfl rfl (an 14 rfl rfl rfl (av 100000 rfl rfl (av 100001 rfl rfl Av.nil)))) rfl rfl rfl rfl (fun hb => (Ob.uncond (t := 51) hb rfl (ob_callD0 (args := [_, _]) rfl .direct hb32 (fun a w s => by exact c_journal_filled k _ _ _ (ite_t hb e_x3) _ _ _ _ (s.arg (.tmp rfl)) (s.arg (opd_int rfl))))))) opsS_nil)))))))))))))))) (out_old (t := 0) rfl rfl (out_old (t := 1) rfl rfl (out_old (t := 2) rfl rfl (out_old (t := 7) rfl rfl (out_old (t := 9) rfl rfl (out_old (t := 10) rfl rfl (out_old (t := 13) rfl rfl (out_new (i := 6) (by decide) rfl rfl (out_new (i := 10) (by decide) rfl rfl (out_new (i := 15) (by decide) rfl rfl (out_old (t := 100000) rfl rfl (out_old (t := 100001) rfl rfl out_nil)))))))))))) fun _ _ s32 => ?_
   obtain ⟨x4, e_x4, h10⟩ := bind_some h9; clear h9
   refine seq_opxg (B1 := (fun gg : Value × Value => [BF b01 68 (ko_disk_Disk_0_1 gg.1 gg.2) (⟨[], [], x4.2.fuse, x4.2.dead⟩ : disk_Disk), RowF gg.1 100 (karr 256 (kint .u8)) x4.2.firm, RowF gg.2 102 k_disk_write x4.2.loose, BF b00 70 (ko_journal_Journal_0 (.pointer (some ⟨b01, 0, none⟩))) (⟨(), p1.area, p1.bytes, p1.l⟩ : journal_Journal), BF b1 9 kstr p4])) s32 rfl rfl rfl rfl (of_decide_eq_true rfl) (fun hb => (ObX.uncond (t := 52) hb rfl ((ObX.uncond (t := 47) hb rfl (ob_callL0 (args := [_, _, _]) (L := [_, _, _]) rfl .direct hb49 (List.Perm.refl _) (fun a w s => by exact c_disk_Disk_Write k _ _ _ _ (ite_t hb e_x4) _ _ _ _ _ _ _ _ (ownL s) (disL s) (nodL s) (s.arg (.tmp rfl)) (s.arg (opd_int rfl)) (s.arg (.tmp rfl))) (by exact fun _ => rfl)))))) (fun hb0 => by obtain rfl := Option.some.inj (ite_f hb0 e_x4); exact ⟨⟨v7, v8⟩, rfl⟩) fun gg34 a34 w34 s34 => ?_; clear s32
   obtain ⟨v9, v10⟩ := gg34
   obtain ⟨x5, e_x5, h11⟩ := bind_some h10; clear h10
   refine qs s34 (.cg rfl rfl rfl rfl (fun hb => (Ob.uncond (t := 53) hb rfl (ob_neq rfl (.tmp rfl) (opd_int rfl)))) (.c1 rfl (ob_or2 rfl (.tmp rfl) opd_bool (.tmp rfl)) (.c1 rfl (mv rfl rfl) (.cg rfl rfl rfl rfl (fun hb => ob_move rfl (.tmp rfl)) (.cg rfl rfl rfl rfl (fun hb => (Ob.uncond (t := 57) hb rfl (ob_nilCheck rfl (.tmp rfl)))) (.cg rfl rfl rfl rfl (fun hb => (Ob.uncond (t := 58) hb rfl (ob_fieldAddr (off' := 0) rfl Tryd.underlying70 rfl sz24 (by decide) (.tmp rfl) rfl))) (.cg rfl rfl rfl rfl (fun hb => (Ob.uncond (t := 59) hb rfl (ob_loadRowV rfl (tkr24 _) (.tmp rfl) (.tail _ (.tail _ (.tail _ (.head _)))) (lgo_journal_Journal_0_d (⟨(), p1.area, p1.bytes, p1.l⟩ : journal_Journal))))) .cz))))))) fun _ _ s41 => ?_; clear s34
   refine seq_opxg (B1 := (fun gg : Value × Value => [BF b01 68 (ko_disk_Disk_0_1 gg.1 gg.2) (⟨[], [], x5.2.fuse, x5.2.dead⟩ : disk_Disk), RowF gg.1 100 (karr 256 (kint .u8)) x5.2.firm, RowF gg.2 102 k_disk_write x5.2.loose, BF b00 70 (ko_journal_Journal_0 (.pointer (some ⟨b01, 0, none⟩))) (⟨(), p1.area, p1.bytes, p1.l⟩ : journal_Journal), BF b1 9 kstr p4])) s41 rfl rfl rfl rfl (of_decide_eq_true rfl) (fun hb => (ObX.uncond (t := 60) hb rfl (ob_callL0 (args := [_]) (L := [_, _, _]) rfl .direct hb50 (List.Perm.refl _) (fun a w s => by exact c_disk_Disk_Sync k _ _ (ite_t hb e_x5) _ _ _ _ _ _ (ownL s) (disL s) (nodL s) (s.arg (.tmp rfl))) (by exact fun _ => rfl)))) (fun hb0 => by obtain rfl := Option.some.inj (ite_f hb0 e_x5); exact ⟨⟨v9, v10⟩, rfl⟩) fun gg42 a42 w42 s42 => ?_; clear s41
   obtain ⟨v11, v12⟩ := gg42
   obtain ⟨x6, e_x6, h12⟩ := bind_some h11; clear h11; replace e_x6 := Option.some.inj e_x6
   refine qs s42 (.cg rfl rfl rfl rfl (fun hb => (Ob.uncond (t := 61) hb rfl (ob_neq rfl (.tmp rfl) (opd_int rfl)))) (.c1 rfl ((ob_or2 rfl (.tmp rfl) opd_bool (.tmp rfl)).nm e_x6) (.ce (u 0 rfl (u 1 rfl (u 2 rfl (u 7 rfl (u 9 rfl (u 10 rfl (u 13 rfl (u 63 rfl (u 100000 rfl (u 100001 rfl .nil))))))))))))) fun _ _ s45 => wn hK15 ?_; clear s42
   refine cond_split s45 (.tmp rfl) (fun hc2 => ?_) (fun hc2 => ?_)
   ·have h13 := ite_t hc2 h12; clear h12
    refine wp_exit ?_
    refine (then_exit (in_other (by decide) (then_exit (then_exit (in_here ?_)))))
    refine then_normal ?_
    have s46 := St.drop (A := [_, _, _, _]) s45; clear s45
    have s47 := s46.perm (toFront [_, _, _] (toFront [] (toFront [] (toFront [] (List.Perm.refl _))))); clear s46
    exact hj1 y6 x5.2.fuse x5.2.dead x5.2.firm x5.2.loose v11 v12 _ _ h13 (s47.sub (.cons rfl (.cons rfl (.cons rfl .nil))))
   ·have h14 := ite_f hc2 h12; clear h12
    refine wp_skip ?_
    refine then_normal (hK14 _ _ ?_)
    have s48 := s45.sub (u 0 rfl (u 1 rfl (u 2 rfl (u 7 rfl (u 9 rfl (u 13 rfl (u 100000 rfl (u 100001 rfl .nil)))))))); clear s45
    refine wp_region_lit (qs s48 (.c1 rfl (ob_assign rfl (opd_int rfl)) .cz) fun _ _ s49 => ?_); clear s48
    refine wpList_nil ?_
    refine in_normal ?_
    refine then_normal ?_
    have s50 := s49.perm (toFront [_, _, _] (toFront [_, _, _] (toFront [] (toFront [] (toFront [] (List.Perm.refl _)))))); clear s49
    exact hj2 x5.2.fuse x5.2.dead x5.2.firm x5.2.loose v11 v12 _ _ h14 (s50.sub (.cons rfl (.cons rfl (.cons rfl (.cons rfl (.cons rfl (.cons rfl (.cons rfl (.cons rfl (.cons rfl .nil))))))))))
  refine wp_block ?_
  refine wp_loop_fuel (fun m (q : Int × Int × Bool × (List (List Int)) × (List disk_write)) => journal_Journal_commit.l2 k p4 p1 p2 y6 y7 (journal_Journal_commit.l1 k p4 p1 p2 p3 n1) m q.1 q.2.1 q.2.2.1 q.2.2.2.1 q.2.2.2.2) r (fun _ => rfl) (fun q a w => ∃ (v13 : Value) (v14 : Value), St ⟨66, w0, ok, (idsOf [BF b00 70 (ko_journal_Journal_0 (.pointer (some ⟨b01, 0, none⟩))) (⟨(), p1.area, p1.bytes, p1.l⟩ : journal_Journal), BF b01 68 (ko_disk_Disk_0_1 w1_0 w1_1) (⟨[], [], p5.fuse, p5.dead⟩ : disk_Disk), RowF w1_0 100 (karr 256 (kint .u8)) p5.firm, RowF w1_1 102 k_disk_write p5.loose])⟩ [BF b00 70 (ko_journal_Journal_0 (.pointer (some ⟨b01, 0, none⟩))) (⟨(), p1.area, p1.bytes, p1.l⟩ : journal_Journal), BF b1 9 kstr p4, BF b01 68 (ko_disk_Disk_0_1 v13 v14) (⟨[], [], q.2.1, q.2.2.1⟩ : disk_Disk), RowF v13 100 (karr 256 (kint .u8)) q.2.2.2.1, RowF v14 102 k_disk_write q.2.2.2.2] [(0, (ptrB b00 0)), (1, ((kint .i64).V p2)), (2, ((kint .i64).V p3)), (7, (ptrB b1 0)), (9, (cloF 72 [] [(ptrB b1 0)])), (10, ((kint .i64).V y6)), (11, ((kint .i64).V q.1)), (13, ((kint .i64).V y7)), (100000, (known (.pointer (some ⟨0, 0, none⟩)) (ptrTo (karr 8 (kint .u32)) G_digest_first))), (100001, (known (.pointer (some ⟨1, 0, none⟩)) (ptrTo (karr 64 (kint .u32)) G_digest_rounds)))] a w) ?_ k ((iquo .i64 p3 (256 : Int)), y8, y9, y10, y11) _ _ h4 ⟨v3, v4, (s30.sub (.cons rfl (.cons rfl (.cons rfl (.cons rfl (.cons rfl (.cons rfl (.cons rfl (.cons rfl (.cons rfl (.cons rfl .nil)))))))))))⟩
  rintro n2 ⟨y20, y21, y22, y23, y24⟩ a51 w51 h15 ⟨v13, v14, s51⟩ K16 hK16
  replace h15 : journal_Journal_commit.l2 k p4 p1 p2 y6 y7 (journal_Journal_commit.l1 k p4 p1 p2 p3 n1) (n2 + 1) y20 y21 y22 y23 y24 = some r := h15; rw [journal_Journal_commit.l2] at h15
  have h16 := h15; clear h15
  refine wp_seq_k fun K17 hK17 => wp_seq_k fun K18 hK18 => ?_
  refine wp_region_lit (qs s51 (.c1 rfl (mv rfl rfl) (.c1 rfl (ob_mul rfl (.tmp rfl) (opd_int rfl)) (.c1 rfl (ob_load rfl tk9 (.tmp rfl) (.tail _ (.head _)) (LG.refl _ _)) (.c1 rfl (ob_lenStr rfl Tryd.underlying9 (.tmp rfl)) (.c1 rfl (ob_lss rfl (.tmp rfl) (.tmp rfl)) (.ce (u 0 rfl (u 1 rfl (u 2 rfl (u 7 rfl (u 9 rfl (u 10 rfl (u 11 rfl (u 13 rfl (u 21 rfl (u 100000 rfl (u 100001 rfl .nil))))))))))))))))) fun _ _ s57 => wn hK18 ?_); clear s51
  refine cond_split s57 (.tmp rfl) (fun hc3 => ?_) (fun hc3 => ?_)
  ·have h17 := ite_t hc3 h16; clear h16
   refine wp_skip ?_
   refine then_normal (hK17 _ _ ?_)
   have s58 := s57.sub (u 0 rfl (u 1 rfl (u 2 rfl (u 7 rfl (u 9 rfl (u 10 rfl (u 11 rfl (u 13 rfl (u 100000 rfl (u 100001 rfl .nil)))))))))); clear s57
   refine wp_seq_k fun K19 hK19 => wp_block ?_
   refine wp_seq_k fun K20 hK20 => ?_
   obtain ⟨x7, e_x7, h18⟩ := bind_some h17; clear h17
   obtain ⟨x8, e_x8, h19⟩ := bind_some h18; clear h18
   refine wp_goes (Fs := [(ptrB b00 0), (ptrB b00 0), (ptrB b00 0), (ptrB b01 0), (ptrB b00 0), ((kint .i64).V p2), ((kint .i64).V y20), nofact, (cloF 72 [] [(ptrB b1 0)]), ((kint .i64).V y20), nofact]) (bits := [0, 1, 3, 7, 0, 0, 0, 112, 0, 0, 1008, 2047, 4095]) (m := 11) (todo := 128) mx s58 ?_; clear s58
   refine goes_turn (B' := (fun _ : Unit => [BF b00 70 (ko_journal_Journal_0 (.pointer (some ⟨b01, 0, none⟩))) (⟨(), p1.area, p1.bytes, p1.l⟩ : journal_Journal), BF b01 68 (ko_disk_Disk_0_1 v13 v14) (⟨[], [], y21, y22⟩ : disk_Disk), RowF v13 100 (karr 256 (kint .u8)) y23, RowF v14 102 k_disk_write y24, BF b1 9 kstr p4])) (Fs' := (fun _ : Unit => setAll ([(ptrB b00 0), (ptrB b00 0), (ptrB b00 0), (ptrB b01 0), (ptrB b00 0), ((kint .i64).V p2), ((kint .i64).V y20), nofact, (cloF 72 [] [(ptrB b1 0)]), ((kint .i64).V y20), nofact]) [(7, ((kint .i64).V x7)), (10, (kstr.V x8))])) 7 1152 240 0 (by kernel_rfl) rfl rfl rfl (oc (av 0 rfl rfl (av 100000 rfl rfl (av 100001 rfl rfl Av.nil))) rfl rfl (mv rfl rfl) (oc (an 0 rfl rfl rfl (av 100000 rfl rfl (av 100001 rfl rfl Av.nil))) rfl rfl (ob_nilCheck rfl (.tmp rfl)) (oc (an 1 rfl rfl rfl (av 100000 rfl rfl (av 100001 rfl rfl Av.nil))) rfl rfl (ob_fieldAddr (off' := 0) rfl Tryd.underlying70 rfl sz24 (by decide) (.tmp rfl) rfl) (oc (an 2 rfl rfl rfl (av 100000 rfl rfl (av 100001 rfl rfl Av.nil))) rfl rfl (ob_loadRowV rfl (tkr24 _) (.tmp rfl) (.head _) (lgo_journal_Journal_0_d (⟨(), p1.area, p1.bytes, p1.l⟩ : journal_Journal))) (oc (av 0 rfl rfl (av 100000 rfl rfl (av 100001 rfl rfl Av.nil))) rfl rfl (mv rfl rfl) (oc (av 1 rfl rfl (av 100000 rfl rfl (av 100001 rfl rfl Av.nil))) rfl rfl (mv rfl rfl) (oc (av 11 rfl rfl (av 100000 rfl rfl (av 100001 rfl rfl Av.nil))) rfl rfl (mv rfl rfl) (opsS_skip (by rfl) (oc (av 9 rfl rfl (av 100000 rfl rfl (av 100001 rfl rfl Av.nil))) rfl rfl (mv rfl rfl) (oc (av 11 rfl rfl (av 100000 rfl rfl (av 100001 rfl rfl Av.nil))) rfl rfl (mv rfl rfl) (opsS_skip (by rfl) opsS_nil))))))))))) (.plain _ (an 4 rfl rfl rfl (an 5 rfl rfl rfl (an 6 rfl rfl rfl (av 100000 rfl rfl (av 100001 rfl rfl Av.nil))))) rfl (fun _ => rfl) (fun R => ob_callL0 (args := [_, _, _]) (L := [_, _, _, _]) rfl .direct hb63 (toFront [] (toFront [_] (toFront [_] (toFront [_] (List.Perm.refl _))))) (fun a w s => by exact c_journal_Journal_place k _ _ _ _ _ e_x7 _ _ _ _ _ _ _ _ _ (ownL s) (disL s) (nodL s) (s.arg (.tmp rfl)) (s.arg (.tmp rfl)) (s.arg (.tmp rfl))) (by exact fun _ => rfl))) (setAll_same (us := (fun _ : Unit => [(7, ((kint .i64).V x7)), (10, (kstr.V x8))])) fun _ => by kernel_rfl) fun _ => ?_
   refine goes_last (by kernel_rfl) rfl (oc (av 0 rfl rfl (av 100000 rfl rfl (av 100001 rfl rfl Av.nil))) rfl rfl (mv rfl rfl) (oc (an 0 rfl rfl rfl (av 100000 rfl rfl (av 100001 rfl rfl Av.nil))) rfl rfl (ob_nilCheck rfl (.tmp rfl)) (oc (an 1 rfl rfl rfl (av 100000 rfl rfl (av 100001 rfl rfl Av.nil))) rfl rfl (ob_fieldAddr (off' := 0) rfl Tryd.underlying70 rfl sz24 (by decide) (.tmp rfl) rfl) (oc (an 2 rfl rfl rfl (av 100000 rfl rfl (av 100001 rfl rfl Av.nil))) rfl rfl (ob_loadRowV rfl (tkr24 _) (.tmp rfl) (.head _) (lgo_journal_Journal_0_d (⟨(), p1.area, p1.bytes, p1.l⟩ : journal_Journal))) (opsS_skip (by rfl) (opsS_skip (by rfl) (opsS_skip (by rfl) (opsS_skip (by rfl) (oc (av 9 rfl rfl (av 100000 rfl rfl (av 100001 rfl rfl Av.nil))) rfl rfl (mv rfl rfl) (oc (av 11 rfl rfl (av 100000 rfl rfl (av 100001 rfl rfl Av.nil))) rfl rfl (mv rfl rfl) (oc (an 8 rfl rfl rfl (an 9 rfl rfl rfl (av 100000 rfl rfl (av 100001 rfl rfl Av.nil)))) rfl rfl ((ob_lendG (L := [_]) (toFront [_, _, _, _] (List.Perm.refl _)) (.cons (t := 32) rfl (lendClo .nil (.cons (lendPtrB (.head _) (LG.refl _ _)) .nil)) .nil) (Flat.res1 (Flat.V KFlat.str)) (fun _ => ob_callD (args := [_]) rfl (.clo (.tmp rfl)) hb72 (fun a w s fs gs hf hg => by obtain rfl := hf.unnil; obtain ⟨u0, _, rfl, fu0, hg⟩ := hg.uncons; obtain rfl := hg.unnil; exact c_journal_Journal_commit_1 k _ _ _ e_x8 _ _ _ _ (s.arg (.tmp rfl)) fu0)))) opsS_nil))))))))))) (out_old (t := 0) rfl rfl (out_old (t := 1) rfl rfl (out_old (t := 2) rfl rfl (out_old (t := 7) rfl rfl (out_old (t := 9) rfl rfl (out_old (t := 10) rfl rfl (out_old (t := 11) rfl rfl (out_old (t := 13) rfl rfl (out_new (i := 3) (by decide) rfl rfl (out_new (i := 7) (by decide) rfl rfl (out_new (i := 10) (by decide) rfl rfl (out_old (t := 100000) rfl rfl (out_old (t := 100001) rfl rfl out_nil))))))))))))) fun _ _ s59 => ?_
   obtain ⟨x9, e_x9, h20⟩ := bind_some h19; clear h19
   refine qx (B' := (fun gg : Value × Value => [BF b01 68 (ko_disk_Disk_0_1 gg.1 gg.2) (⟨[], [], x9.2.fuse, x9.2.dead⟩ : disk_Disk), RowF gg.1 100 (karr 256 (kint .u8)) x9.2.firm, RowF gg.2 102 k_disk_write x9.2.loose, BF b00 70 (ko_journal_Journal_0 (.pointer (some ⟨b01, 0, none⟩))) (⟨(), p1.area, p1.bytes, p1.l⟩ : journal_Journal), BF b1 9 kstr p4])) s59 rfl (ob_callL0 (args := [_, _, _]) (L := [_, _, _]) rfl .direct hb49 (toFront [_] (toFront [_] (toFront [_] (List.Perm.refl _)))) (fun a w s => by exact c_disk_Disk_Write k _ _ _ _ e_x9 _ _ _ _ _ _ _ _ (ownL s) (disL s) (nodL s) (s.arg (.tmp rfl)) (s.arg (.tmp rfl)) (s.arg (.tmp rfl))) (by exact fun _ => rfl)) fun gg60 _ _ s60 => ?_; clear s59
   obtain ⟨v15, v16⟩ := gg60
   refine qs s60 (.c1 rfl (ob_neq rfl (.tmp rfl) (opd_int rfl)) (.ce (u 0 rfl (u 1 rfl (u 2 rfl (u 7 rfl (u 9 rfl (u 10 rfl (u 11 rfl (u 13 rfl (u 36 rfl (u 100000 rfl (u 100001 rfl .nil))))))))))))) fun _ _ s62 => wn hK20 ?_; clear s60
   refine cond_split s62 (.tmp rfl) (fun hc4 => ?_) (fun hc4 => ?_)
   ·have h21 := ite_t hc4 h20; clear h20
    refine wp_exit ?_
    refine (in_other (by decide) (then_exit (then_exit (in_other (by decide) (then_exit (in_other (by decide) (then_exit (then_exit (in_here ?_)))))))))
    refine then_normal ?_
    have s63 := St.drop (A := [_, _, _, _]) s62; clear s62
    have s64 := s63.perm (toFront [_, _, _] (toFront [] (toFront [] (toFront [] (List.Perm.refl _))))); clear s63
    exact hj1 y6 x9.2.fuse x9.2.dead x9.2.firm x9.2.loose v15 v16 _ _ h21 (s64.sub (.cons rfl (.cons rfl (.cons rfl .nil))))
   ·have h22 := ite_f hc4 h20; clear h20
    refine wp_skip ?_
    refine in_normal ?_
    refine then_normal (hK19 _ _ ?_)
    have s65 := s62.sub (u 0 rfl (u 1 rfl (u 2 rfl (u 7 rfl (u 9 rfl (u 10 rfl (u 11 rfl (u 13 rfl (u 100000 rfl (u 100001 rfl .nil)))))))))); clear s62
    refine wp_region_lit (qs s65 (.c1 rfl (mv rfl rfl) (.c1 rfl (ob_add rfl (.tmp rfl) (opd_int rfl)) (.c1 rfl (ob_assign rfl (.tmp rfl)) .cz))) fun _ _ s68 => ?_); clear s65
    refine wpList_nil ?_
    refine then_normal ?_
    have s69 := s68.perm (toFront [_, _, _] (toFront [_, _, _] (toFront [] (toFront [] (toFront [] (List.Perm.refl _)))))); clear s68
    exact hK16 ((iadd .i64 y20 (1 : Int)), x9.2.fuse, x9.2.dead, x9.2.firm, x9.2.loose) _ _ h22 ⟨v15, v16, (s69.sub (.cons rfl (.cons rfl (.cons rfl (.cons rfl (.cons rfl (.cons rfl (.cons rfl (.cons rfl (.cons rfl (.cons rfl .nil)))))))))))⟩
  ·have h23 := ite_f hc3 h16; clear h16
   refine wp_exit ?_
   refine (then_exit (then_exit (in_here ?_)))
   refine then_normal ?_
   exact hj3 y21 y22 y23 y24 v13 v14 _ _ h23 (s57.sub (.cons rfl (.cons rfl (.cons rfl (.cons rfl (.cons rfl (.cons rfl (.cons rfl (.cons rfl (.cons rfl .nil))))))))))
 ·have h24 := ite_f hc1 h3; clear h3
  refine wp_exit ?_
  refine (then_exit (then_exit (in_here ?_)))
  refine then_normal ?_
  have s70 := St.drop (A := [_]) s22; clear s22
  exact hj1 y6 y8 y9 y10 y11 v3 v4 _ _ h24 (s70.sub (.cons rfl (.cons rfl (.cons rfl .nil))))
end Go.Proofs.YtjbjladhgmknnaaDoor
