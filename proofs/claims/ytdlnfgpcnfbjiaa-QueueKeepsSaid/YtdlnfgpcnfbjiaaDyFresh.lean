/- Several parts of this proof in one file. No condition. -/
import Derived.Test.YtdlnfgpcnfbjiaaDyWalk
import Derived.Test.YtdlnfgpcnfbjiaaKyB
namespace Go.Proofs.Ytdlnfgpcnfbjiaa
open Go Go.RowKit Go.Proofs.Kit Go.Proofs.Pure
set_option linter.unusedVariables false
set_option linter.unusedSimpArgs false
set_option maxRecDepth 100000
set_option maxHeartbeats 2000000
abbrev kP : Kd (List (List Int)) := ksl (karr 32 (kint .u8))
abbrev kW : Kd (List Int) := ksl (kint .i64)
abbrev kB : Kd (List api_Box) := ksl k_api_Box
def kopO {a b c : Type} (k2 : Kd a) (f2 : api_Op → a) (k4 : Kd b) (f4 : api_Op → b) (k8 : Kd c) (f8 : api_Op → c) : Kd api_Op :=
  kiso (kpair (kint .i64) (kpair (kint .u32) (kpair k2 (kpair (kint .i64) (kpair k4 (kpair (karr 32 (kint .u8)) (kpair (karr 32 (kint .u8)) (kpair kstr (kpair k8 knil)))))))))
    (fun x => (x.Author, x.Seq, f2 x, x.Kind, f4 x, x.Of, x.Check, x.Text, f8 x, ()))
abbrev kF1 (S : Nat) : Kd api_Op := kopO (kfr S kP) (·.Parents) kW (·.Who) kB (·.Boxes)
abbrev kF2 (S : Nat) : Kd api_Op := kopO (kfr S kP) (·.Parents) (kfr S kW) (·.Who) kB (·.Boxes)
abbrev kF3 (S : Nat) : Kd api_Op := kopO (kfr S kP) (·.Parents) (kfr S kW) (·.Who) (kfr S kB) (·.Boxes)
theorem lsF1 (S : Nat) (x : api_Op) (y : List (List Int)) : LSK k_api_Op (kfr S kP) (kF1 S) 2 x y { x with Parents := y } := LSK.iso (LSK.snd _ (LSK.snd _ (LSK.fst (k := kP) (k' := kfr S kP) _ rfl _ _)))
theorem lsF2 (S : Nat) (x : api_Op) (y : List Int) : LSK (kF1 S) (kfr S kW) (kF2 S) 4 x y { x with Who := y } := LSK.iso (LSK.snd _ (LSK.snd _ (LSK.snd _ (LSK.snd _ (LSK.fst (k := kW) (k' := kfr S kW) _ rfl _ _)))))
theorem lsF3 (S : Nat) (x : api_Op) (y : List api_Box) : LSK (kF2 S) (kfr S kB) (kF3 S) 70 x y { x with Boxes := y } := LSK.iso (LSK.snd _ (LSK.snd _ (LSK.snd _ (LSK.snd _ (LSK.snd _ (LSK.snd _ (LSK.snd _ (LSK.snd _ (LSK.fst (k := kB) (k' := kfr S kB) _ rfl _ _)))))))))
theorem kF3_fr (S : Nat) (x : api_Op) {ok : Ok} {w : World} {v : Value} (h : ((kF3 S).V x).holds ok w v) : ((kfr S k_api_Op).V x).holds ok w v := by
  obtain ⟨cs, h, e⟩ := h
  refine ⟨cs, ?_, e⟩
  obtain ⟨c1, d1, e1, h1, c2, d2, e2, h2, c3, d3, e3, h3, c4, d4, e4, h4, c5, d5, e5, h5, c6, d6, e6, h6, c7, d7, e7, h7, c8, d8, e8, h8, c9, d9, e9, h9, h10⟩ := h
  exact ⟨c1, d1, e1, h1, c2, d2, e2, h2, c3, d3, e3, h3, c4, d4, e4, h4, c5, d5, e5, h5, c6, d6, e6, KFlat.arr (KFlat.int _) _ _ _ _ _ _ h6, c7, d7, e7, KFlat.arr (KFlat.int _) _ _ _ _ _ _ h7, c8, d8, e8, h8, c9, d9, e9, h9, h10⟩
theorem tkF (S : Nat) {P : Program} {T : TypeId} (h : TK P T k_api_Op) : TK P T (kF3 S) := ⟨h.size, h.agg⟩
theorem kF3_rel (S : Nat) (x : api_Op) {ok : Ok} {w : World} {cs : List Value} (h : (kF3 S).rel ok w x cs) : (kfr S k_api_Op).rel ok w x cs := by
  obtain ⟨c1, d1, e1, h1, c2, d2, e2, h2, c3, d3, e3, h3, c4, d4, e4, h4, c5, d5, e5, h5, c6, d6, e6, h6, c7, d7, e7, h7, c8, d8, e8, h8, c9, d9, e9, h9, h10⟩ := h
  exact ⟨c1, d1, e1, h1, c2, d2, e2, h2, c3, d3, e3, h3, c4, d4, e4, h4, c5, d5, e5, h5, c6, d6, e6, KFlat.arr (KFlat.int _) _ _ _ _ _ _ h6, c7, d7, e7, KFlat.arr (KFlat.int _) _ _ _ _ _ _ h7, c8, d8, e8, h8, c9, d9, e9, h9, h10⟩
def kopH {c : Type} (ko : Kd api_Op) (kg : Kd c) (fg : api_Held → c) : Kd api_Held := kiso (kpair (karr 32 (kint .u8)) (kpair ko (kpair kg knil))) (fun x => (x.Id, x.Op, fg x, ()))
abbrev kH1 (S : Nat) : Kd api_Held := kopH (kF1 S) kP (·.Got)
abbrev kH2 (S : Nat) : Kd api_Held := kopH (kF2 S) kP (·.Got)
abbrev kH3 (S : Nat) : Kd api_Held := kopH (kF3 S) kP (·.Got)
abbrev kH4 (S : Nat) : Kd api_Held := kopH (kF3 S) (kfr S kP) (·.Got)
theorem lsH1 (S : Nat) (x : api_Held) (y : List (List Int)) : LSK k_api_Held (kfr S kP) (kH1 S) 34 x y { x with Op := { x.Op with Parents := y } } := LSK.iso (LSK.snd _ (LSK.in1 (off := 2) _ (lsF1 S x.Op y)))
theorem lsH2 (S : Nat) (x : api_Held) (y : List Int) : LSK (kH1 S) (kfr S kW) (kH2 S) 36 x y { x with Op := { x.Op with Who := y } } := LSK.iso (LSK.snd _ (LSK.in1 (off := 4) _ (lsF2 S x.Op y)))
theorem lsH3 (S : Nat) (x : api_Held) (y : List api_Box) : LSK (kH2 S) (kfr S kB) (kH3 S) 102 x y { x with Op := { x.Op with Boxes := y } } := LSK.iso (LSK.snd _ (LSK.in1 (off := 70) _ (lsF3 S x.Op y)))
theorem lsH4 (S : Nat) (x : api_Held) (y : List (List Int)) : LSK (kH3 S) (kfr S kP) (kH4 S) 103 x y { x with Got := y } := LSK.iso (LSK.snd _ (LSK.snd _ (LSK.fst (k := kP) (k' := kfr S kP) _ rfl _ _)))
theorem kH4_fr (S : Nat) (x : api_Held) {ok : Ok} {w : World} {v : Value} (h : ((kH4 S).V x).holds ok w v) : ((kfr S k_api_Held).V x).holds ok w v := by
  obtain ⟨cs, h, e⟩ := h
  refine ⟨cs, ?_, e⟩
  obtain ⟨c1, d1, e1, h1, c2, d2, e2, h2, c3, d3, e3, h3, h4⟩ := h
  exact ⟨c1, d1, e1, KFlat.arr (KFlat.int _) _ _ _ _ _ _ h1, c2, d2, e2, kF3_rel S x.Op h2, c3, d3, e3, h3, h4⟩
theorem tkH (S : Nat) {P : Program} {T : TypeId} (h : TK P T k_api_Held) : TK P T (kH4 S) := ⟨h.size, h.agg⟩
theorem cF_queue_clone (k : Nat) (p1 : api_Held) (r : api_Held) (h0 : queue_clone k p1 = some r) (ok : Ok) (w0 : World) (z0 : Value) (u0 : (k_api_Held.V p1).holds ok w0 z0) :
 Gives Try.prog 118 [z0] ok w0 ((kfr w0.heap.size k_api_Held).V r) := by
 unfold queue_clone at h0
 refine enter (N := 26) Try.func118 rfl rfl (of_decide_eq_true rfl) (.cons u0 .nil) fun a1 s1 => ?_
 refine wp_seq_k fun K1 hK1 => wp_region_lit ?_
 refine qx (B' := (fun b1 : Nat => [BF b1 91 k_api_Held p1])) s1 rfl (ob_box rfl (.tmp rfl)) fun b1 _ _ s2 => ?_; clear s1
 refine qx (B' := (fun b2 : Nat => [BF b2 91 k_api_Held (⟨(List.replicate 32 (0 : Int)), (⟨(0 : Int), (0 : Int), [], (0 : Int), [], (List.replicate 32 (0 : Int)), (List.replicate 32 (0 : Int)), [], []⟩ : api_Op), []⟩ : api_Held), BF b1 91 k_api_Held p1])) s2 rfl (ob_new (k := k_api_Held) rfl zz91 (Zr.iso (f := t_api_Held) (x := (⟨(List.replicate 32 (0 : Int)), (⟨(0 : Int), (0 : Int), [], (0 : Int), [], (List.replicate 32 (0 : Int)), (List.replicate 32 (0 : Int)), [], []⟩ : api_Op), []⟩ : api_Held)) (Zr.pair (Zr.arr 32 (Zr.int .u8)) (Zr.pair (Zr.iso (f := t_api_Op) (x := (⟨(0 : Int), (0 : Int), [], (0 : Int), [], (List.replicate 32 (0 : Int)), (List.replicate 32 (0 : Int)), [], []⟩ : api_Op)) (Zr.pair (Zr.int .i64) (Zr.pair (Zr.int .u32) (Zr.pair (Zr.sl _) (Zr.pair (Zr.int .i64) (Zr.pair (Zr.sl _) (Zr.pair (Zr.arr 32 (Zr.int .u8)) (Zr.pair (Zr.arr 32 (Zr.int .u8)) (Zr.pair Zr.str (Zr.pair (Zr.sl _) Zr.nil)))))))))) (Zr.pair (Zr.sl _) Zr.nil))))) fun b2 _ _ s3 => ?_; clear s2
 refine wn hK1 ?_
 have s4 := s3.sub (u 1 rfl (u 2 rfl .nil)); clear s3
 refine wp_seq_k fun K2 hK2 => ?_
 obtain ⟨x1, e_x1, h1⟩ := bind_some h0; clear h0
 obtain ⟨x2, e_x2, h2⟩ := bind_some h1; clear h1
 obtain ⟨x3, e_x3, h3⟩ := bind_some h2; clear h2
 obtain ⟨x4, e_x4, h4⟩ := bind_some h3; clear h3
 refine wp_goes (Fs := [(ptrB b1 32), (ptrB b1 34), ((ksl (karr 32 (kint .u8))).V p1.Op.Parents), ((kfr w0.heap.size (ksl (karr 32 (kint .u8)))).V x1), (ptrB b1 32), (ptrB b1 36), ((ksl (kint .i64)).V p1.Op.Who), ((kfr w0.heap.size (ksl (kint .i64))).V x2), (ptrB b1 32), (ptrB b1 102), ((ksl k_api_Box).V p1.Op.Boxes), ((kfr w0.heap.size (ksl k_api_Box)).V x3), (ptrB b1 103), ((ksl (karr 32 (kint .u8))).V p1.Got), ((kfr w0.heap.size (ksl (karr 32 (kint .u8)))).V x4), (ptrB b1 32), (ptrB b1 34)]) (bits := [0, 1, 3, 7, 0, 16, 48, 127, 0, 256, 768, 2047, 0, 4096, 16383, 14207, 46975, 131071, 262143, 524287, 1048575, 2097151, 4194303, 8388607, 16777215, 33554431]) (m := 17) (todo := 0) mx s4 ?_; clear s4
 refine goes_last (by kernel_rfl) rfl (oc (av 1 rfl rfl Av.nil) rfl rfl (ob_fieldAddr (off' := 32) rfl Try.underlying91 rfl sz44 (by decide) (.tmp rfl) rfl) (oc (an 0 rfl rfl rfl Av.nil) rfl rfl (ob_fieldAddr (off' := 34) rfl Try.underlying44 rfl sz40 (by decide) (.tmp rfl) rfl) (oc (an 1 rfl rfl rfl Av.nil) rfl rfl (ob_load rfl tk40 (.tmp rfl) (.tail _ (.head _)) (LG.trans (lg_api_Held_Op p1) (lg_api_Op_Parents p1.Op) (by decide))) (oc (an 2 rfl rfl rfl Av.nil) rfl rfl ((ObF.fr (k := (ksl (karr 32 (kint .u8)))) (X := x1) (ob_callF (F := resFact [((ksl (karr 32 (kint .u8))).V x1)]) (args := [_]) rfl .direct hb142 (fun a w s fs gs hf hg => by obtain rfl := hf.unnil; obtain rfl := hg.unnil; exact c_slices_Clone_api_Key_api_Key k _ _ e_x1 _ _ _ (s.arg (.tmp rfl))) (by exact fun g => ResF.all (.row (.head _) (KFlat.arr (KFlat.int _)) .nil))))) (oc (av 1 rfl rfl Av.nil) rfl rfl (ob_fieldAddr (off' := 32) rfl Try.underlying91 rfl sz44 (by decide) (.tmp rfl) rfl) (oc (an 4 rfl rfl rfl Av.nil) rfl rfl (ob_fieldAddr (off' := 36) rfl Try.underlying44 rfl sz41 (by decide) (.tmp rfl) rfl) (oc (an 5 rfl rfl rfl Av.nil) rfl rfl (ob_load rfl tk41 (.tmp rfl) (.tail _ (.head _)) (LG.trans (lg_api_Held_Op p1) (lg_api_Op_Who p1.Op) (by decide))) (oc (an 6 rfl rfl rfl Av.nil) rfl rfl ((ObF.fr (k := (ksl (kint .i64))) (X := x2) (ob_callF (F := resFact [((ksl (kint .i64)).V x2)]) (args := [_]) rfl .direct hb80 (fun a w s fs gs hf hg => by obtain rfl := hf.unnil; obtain rfl := hg.unnil; exact c_slices_Clone_int_int k _ _ e_x2 _ _ _ (s.arg (.tmp rfl))) (by exact fun g => ResF.all (.row (.head _) (KFlat.int _) .nil))))) (oc (av 1 rfl rfl Av.nil) rfl rfl (ob_fieldAddr (off' := 32) rfl Try.underlying91 rfl sz44 (by decide) (.tmp rfl) rfl) (oc (an 8 rfl rfl rfl Av.nil) rfl rfl (ob_fieldAddr (off' := 102) rfl Try.underlying44 rfl sz42 (by decide) (.tmp rfl) rfl) (oc (an 9 rfl rfl rfl Av.nil) rfl rfl (ob_load rfl tk42 (.tmp rfl) (.tail _ (.head _)) (LG.trans (lg_api_Held_Op p1) (lg_api_Op_Boxes p1.Op) (by decide))) (oc (an 10 rfl rfl rfl Av.nil) rfl rfl ((ObF.fr (k := (ksl k_api_Box)) (X := x3) (ob_callF (F := resFact [((ksl k_api_Box).V x3)]) (args := [_]) rfl .direct hb143 (fun a w s fs gs hf hg => by obtain rfl := hf.unnil; obtain rfl := hg.unnil; exact c_slices_Clone_api_Box_api_Box k _ _ e_x3 _ _ _ (s.arg (.tmp rfl))) (by exact fun g => ResF.all (.row (.head _) kf_api_Box .nil))))) (oc (av 1 rfl rfl Av.nil) rfl rfl (ob_fieldAddr (off' := 103) rfl Try.underlying91 rfl sz40 (by decide) (.tmp rfl) rfl) (oc (an 12 rfl rfl rfl Av.nil) rfl rfl (ob_load rfl tk40 (.tmp rfl) (.tail _ (.head _)) (lg_api_Held_Got p1)) (oc (an 13 rfl rfl rfl Av.nil) rfl rfl ((ObF.fr (k := (ksl (karr 32 (kint .u8)))) (X := x4) (ob_callF (F := resFact [((ksl (karr 32 (kint .u8))).V x4)]) (args := [_]) rfl .direct hb142 (fun a w s fs gs hf hg => by obtain rfl := hf.unnil; obtain rfl := hg.unnil; exact c_slices_Clone_api_Key_api_Key k _ _ e_x4 _ _ _ (s.arg (.tmp rfl))) (by exact fun g => ResF.all (.row (.head _) (KFlat.arr (KFlat.int _)) .nil))))) (oc (av 1 rfl rfl Av.nil) rfl rfl (ob_fieldAddr (off' := 32) rfl Try.underlying91 rfl sz44 (by decide) (.tmp rfl) rfl) (oc (an 15 rfl rfl rfl Av.nil) rfl rfl (ob_fieldAddr (off' := 34) rfl Try.underlying44 rfl sz40 (by decide) (.tmp rfl) rfl) opsS_nil))))))))))))))))) (out_old (t := 1) rfl rfl (out_old (t := 2) rfl rfl (out_new (i := 3) (by decide) rfl rfl (out_new (i := 7) (by decide) rfl rfl (out_new (i := 11) (by decide) rfl rfl (out_new (i := 14) (by decide) rfl rfl (out_new (i := 16) (by decide) rfl rfl out_nil))))))) fun _ _ s5 => ?_
 refine seq_opx0 (B' := (fun _ : Unit => [BF b2 91 k_api_Held (⟨(List.replicate 32 (0 : Int)), (⟨(0 : Int), (0 : Int), [], (0 : Int), [], (List.replicate 32 (0 : Int)), (List.replicate 32 (0 : Int)), [], []⟩ : api_Op), []⟩ : api_Held), BF b1 91 (kH1 w0.heap.size) ({ p1 with Op := { p1.Op with Parents := x1 } })])) s5 rfl rfl (ob_storeK (A := [_]) rfl (TK.fr tk40) (.tmp rfl) (.tmp rfl) rfl (lsH1 w0.heap.size p1 x1) rfl) fun _ a6 w6 s6 => ?_; clear s5
 obtain ⟨x5, e_x5, h5⟩ := bind_some h4; clear h4; replace e_x5 := Option.some.inj e_x5
 obtain ⟨x6, e_x6, h6⟩ := bind_some h5; clear h5; replace e_x6 := Option.some.inj e_x6
 refine qs s6 (.c1 rfl (ob_fieldAddr (off' := 32) rfl Try.underlying91 rfl sz44 (by decide) (.tmp rfl) rfl) (.c1 rfl (ob_fieldAddr (off' := 36) rfl Try.underlying44 rfl sz41 (by decide) (.tmp rfl) rfl) .cz)) fun _ _ s8 => ?_; clear s6
 refine seq_opx0 (B' := (fun _ : Unit => [BF b2 91 k_api_Held (⟨(List.replicate 32 (0 : Int)), (⟨(0 : Int), (0 : Int), [], (0 : Int), [], (List.replicate 32 (0 : Int)), (List.replicate 32 (0 : Int)), [], []⟩ : api_Op), []⟩ : api_Held), BF b1 91 (kH2 w0.heap.size) x6])) s8 rfl rfl (ob_storeK (A := [_]) rfl (TK.fr tk41) (.tmp rfl) (.tmp rfl) rfl (e_x6 ▸ e_x5 ▸ lsH2 w0.heap.size ({ p1 with Op := { p1.Op with Parents := x1 } }) x2) rfl) fun _ a9 w9 s9 => ?_; clear s8
 refine qs s9 (.c1 rfl (ob_fieldAddr (off' := 32) rfl Try.underlying91 rfl sz44 (by decide) (.tmp rfl) rfl) (.c1 rfl (ob_fieldAddr (off' := 102) rfl Try.underlying44 rfl sz42 (by decide) (.tmp rfl) rfl) .cz)) fun _ _ s11 => ?_; clear s9
 refine seq_opx0 (B' := (fun _ : Unit => [BF b2 91 k_api_Held (⟨(List.replicate 32 (0 : Int)), (⟨(0 : Int), (0 : Int), [], (0 : Int), [], (List.replicate 32 (0 : Int)), (List.replicate 32 (0 : Int)), [], []⟩ : api_Op), []⟩ : api_Held), BF b1 91 (kH3 w0.heap.size) ({ x6 with Op := { x6.Op with Boxes := x3 } })])) s11 rfl rfl (ob_storeK (A := [_]) rfl (TK.fr tk42) (.tmp rfl) (.tmp rfl) rfl (lsH3 w0.heap.size x6 x3) rfl) fun _ a12 w12 s12 => ?_; clear s11
 obtain ⟨x7, e_x7, h7⟩ := bind_some h6; clear h6; replace e_x7 := Option.some.inj e_x7
 refine qs s12 (.c1 rfl (ob_fieldAddr (off' := 103) rfl Try.underlying91 rfl sz40 (by decide) (.tmp rfl) rfl) .cz) fun _ _ s13 => ?_; clear s12
 refine seq_opx0 (B' := (fun _ : Unit => [BF b2 91 k_api_Held (⟨(List.replicate 32 (0 : Int)), (⟨(0 : Int), (0 : Int), [], (0 : Int), [], (List.replicate 32 (0 : Int)), (List.replicate 32 (0 : Int)), [], []⟩ : api_Op), []⟩ : api_Held), BF b1 91 (kH4 w0.heap.size) x7])) s13 rfl rfl (ob_storeK (A := [_]) rfl (TK.fr tk40) (.tmp rfl) (.tmp rfl) rfl (e_x7 ▸ lsH4 w0.heap.size ({ x6 with Op := { x6.Op with Boxes := x3 } }) x4) rfl) fun _ a14 w14 s14 => ?_; clear s13
 refine wn hK2 ?_
 have s15 := s14.sub (u 1 rfl (u 2 rfl .nil)); clear s14
 refine wp_seq_k fun K3 hK3 => wp_region_lit (qs s15 (.c1 rfl (ob_load rfl (tkH w0.heap.size tk91) (.tmp rfl) (.tail _ (.head _)) (LG.refl _ _)) .cz) fun _ _ s16 => ?_); clear s15
 refine seq_opx0 (B' := (fun _ : Unit => [BF b2 91 (kfr w0.heap.size k_api_Held) x7, BF b1 91 (kH4 w0.heap.size) x7])) s16 rfl rfl (ob_storeK (A := []) rfl (TK.fr tk91) (.tmp rfl) (.conv (.tmp rfl) (fun ok w v h => kH4_fr w0.heap.size x7 h)) rfl (LSK.whole rfl) rfl) fun _ a17 w17 s17 => ?_; clear s16
 refine wn hK3 ?_
 have s18 := s17.sub (u 2 rfl .nil); clear s17
 have s19 := St.drop (A := [_]) s18; clear s18
 refine wp_ret ?_
 obtain rfl := Option.some.inj h7
 exact leave (m := [(kfr w0.heap.size k_api_Held).V x7]) s19 (.inl rfl) rfl (.cons (.cell rfl (TK.fr tk91) (.head _) (LG.refl _ _)) .nil)
theorem cF_queue_copied (k : Nat) (p1 : (List api_Held)) (p2 : Int) (r : (List api_Held)) (h0 : queue_copied k p1 p2 = some r) (ok : Ok) (w0 : World) (z0 : Value) (z1 : Value) (u0 : ((ksl k_api_Held).V p1).holds ok w0 z0) (u1 : ((kint .i64).V p2).holds ok w0 z1) :
 GivesX Try.prog 117 [z0, z1] ok w0 [] (fun g : Value => resFact [is g]) (fun g : Value => [RowF (g) 91 (kfr w0.heap.size k_api_Held) r]) := by
 unfold queue_copied at h0
 refine enterX (N := 25) Try.func117 rfl rfl (of_decide_eq_true rfl) (.cons u0 (.cons u1 .nil)) List.nodup_nil (fun _ h => by cases h) (fun _ h => by cases h) fun a1 s1 => ?_
 refine wp_seq_k fun K1 hK1 => wp_region_lit (qs s1 (.c1 rfl (ob_assign rfl opd_is) .cz) fun _ _ s2 => ?_); clear s1
 have s3 := St.adopt s2 (G := RowF (nilRow 5) 91 (kfr w0.heap.size k_api_Held) []) rfl (rowNilN _ _ _ _ _); clear s2
 refine wn hK1 ?_
 have s4 := s3.sub (u 0 rfl (u 1 rfl .nil)); clear s3
 have s5 := St.drop (A := []) s4; clear s4
 refine wp_seq_k fun K2 hK2 => wp_region_lit (qs s5 (.c1 rfl (ob_assign rfl opd_is) .cz) fun _ _ s6 => ?_); clear s5
 have s7 := St.adopt s6 (G := RowF (nilRow 6) 91 (kfr w0.heap.size k_api_Held) []) rfl (rowNilN _ _ _ _ _); clear s6
 refine wn hK2 ?_
 have s8 := s7.sub (u 0 rfl (u 1 rfl (u 5 rfl .nil))); clear s7
 refine wp_seq_k fun K3 hK3 => wp_seq_k fun K4 hK4 => ?_
 refine wp_region_lit (qs s8 (.c1 rfl (mv rfl rfl) (.c1 rfl (ob_lens rfl Try.underlying85 (.tmp rfl)) (.c1 rfl (ob_move rfl (opd_int rfl)) (.ce (u 1 rfl (u 5 rfl (u 8 rfl (u 9 rfl (u 10 rfl .nil))))))))) fun _ _ s12 => wn hK4 ?_); clear s8
 have hj1 : ∀ (y1 : (List api_Held)) (v1 : Value) (a : Act) (w : World), (queue_copied.j1 k) y1 = some r → St ⟨25, w0, ok, (idsOf [])⟩ [RowF v1 91 (kfr w0.heap.size k_api_Held) y1] [(5, (is v1))] a w → K3 a w := by
  intro y1 v1 a13 w13 h1 s13
  unfold queue_copied.j1 at h1
  refine hK3 _ _ ?_
  refine wp_seq_k fun K5 hK5 => wp_region_lit (qs s13 (.c1 rfl (mv rfl rfl) (.c1 rfl (ob_assign rfl (.tmp rfl)) (.ce (u 4 rfl .nil)))) fun _ _ s16 => wn hK5 ?_); clear s13
  refine wp_ret ?_
  obtain rfl := Option.some.inj h1
  exact leaveXD (D := []) v1 s16 rfl (.inl rfl) rfl (.cons (.tmp rfl) .nil) rfl
 refine wp_block ?_
 refine wp_loop_fuel (fun m (q : Int × (List api_Held)) => queue_copied.l1 k p1 p2 m q.1 q.2) r (fun _ => rfl) (fun q a w => ∃ (v2 : Value), St ⟨25, w0, ok, (idsOf [])⟩ [RowF v2 91 (kfr w0.heap.size k_api_Held) q.2] [(1, ((kint .i64).V p2)), (5, (is v2)), (8, ((ksl k_api_Held).V p1)), (9, ((kint .i64).V (p1.length : Int))), (10, ((kint .i64).V q.1))] a w) ?_ k ((0 : Int), ([] : (List api_Held))) _ _ h0 ⟨(nilRow 6), (s12.sub (.cons rfl (.cons rfl (.cons rfl (.cons rfl (.cons rfl .nil))))))⟩
 rintro n1 ⟨y2, y3⟩ a17 w17 h2 ⟨v2, s17⟩ K6 hK6
 replace h2 : queue_copied.l1 k p1 p2 (n1 + 1) y2 y3 = some r := h2; rw [queue_copied.l1] at h2
 have h3 := h2; clear h2
 refine wp_seq_k fun K7 hK7 => wp_region_lit (qs s17 (.c1 rfl (ob_lss rfl (.tmp rfl) (.tmp rfl)) (.ce (u 1 rfl (u 5 rfl (u 8 rfl (u 9 rfl (u 10 rfl (u 11 rfl .nil)))))))) fun _ _ s19 => wn hK7 ?_); clear s17
 refine wp_seq_k fun K8 hK8 => ?_
 refine cond_split s19 (.tmp rfl) (fun hc1 => ?_) (fun hc1 => ?_)
 ·have h4 := ite_t hc1 h3; clear h3
  refine wp_skip ?_
  refine then_normal (hK8 _ _ ?_)
  have s20 := s19.sub (u 1 rfl (u 5 rfl (u 8 rfl (u 9 rfl (u 10 rfl .nil))))); clear s19
  refine wp_seq_k fun K9 hK9 => ?_
  have hj2 : ∀ (y4 : (List api_Held)) (v3 : Value) (a : Act) (w : World), (queue_copied.j2 k y2 (queue_copied.l1 k p1 p2 n1)) y4 = some r → St ⟨25, w0, ok, (idsOf [])⟩ [RowF v3 91 (kfr w0.heap.size k_api_Held) y4] [(1, ((kint .i64).V p2)), (5, (is v3)), (8, ((ksl k_api_Held).V p1)), (9, ((kint .i64).V (p1.length : Int))), (10, ((kint .i64).V y2))] a w → K9 a w := by
   intro y4 v3 a21 w21 h5 s21
   unfold queue_copied.j2 at h5
   refine hK9 _ _ ?_
   refine wp_region_lit (qs s21 (.c1 rfl (ob_add rfl (.tmp rfl) (opd_int rfl)) (.c1 rfl (mv rfl rfl) .cz)) fun _ _ s23 => ?_); clear s21
   refine wpList_nil ?_
   refine then_normal ?_
   exact hK6 ((iadd .i64 y2 (1 : Int)), y4) _ _ h5 ⟨v3, (s23.sub (.cons rfl (.cons rfl (.cons rfl (.cons rfl (.cons rfl .nil))))))⟩
  refine wp_block ?_
  obtain ⟨x1, e_x1, h6⟩ := bind_some h4; clear h4
  refine wp_seq_k fun K10 hK10 => wp_region_lit (qs s20 (.c1 rfl (mv rfl rfl) (.c1 rfl (ob_indexAddrs rfl Try.underlying85 sz91 (.tmp rfl) (.tmp rfl) e_x1) (.c1 rfl (ob_loadr rfl tk91 (.tmp rfl)) .cz))) fun _ _ s26 => ?_); clear s20
  refine qx (B' := (fun b1 : Nat => [BF b1 91 k_api_Held (⟨(List.replicate 32 (0 : Int)), (⟨(0 : Int), (0 : Int), [], (0 : Int), [], (List.replicate 32 (0 : Int)), (List.replicate 32 (0 : Int)), [], []⟩ : api_Op), []⟩ : api_Held), RowF v2 91 (kfr w0.heap.size k_api_Held) y3])) s26 rfl (ob_new (k := k_api_Held) rfl zz91 (Zr.iso (f := t_api_Held) (x := (⟨(List.replicate 32 (0 : Int)), (⟨(0 : Int), (0 : Int), [], (0 : Int), [], (List.replicate 32 (0 : Int)), (List.replicate 32 (0 : Int)), [], []⟩ : api_Op), []⟩ : api_Held)) (Zr.pair (Zr.arr 32 (Zr.int .u8)) (Zr.pair (Zr.iso (f := t_api_Op) (x := (⟨(0 : Int), (0 : Int), [], (0 : Int), [], (List.replicate 32 (0 : Int)), (List.replicate 32 (0 : Int)), [], []⟩ : api_Op)) (Zr.pair (Zr.int .i64) (Zr.pair (Zr.int .u32) (Zr.pair (Zr.sl _) (Zr.pair (Zr.int .i64) (Zr.pair (Zr.sl _) (Zr.pair (Zr.arr 32 (Zr.int .u8)) (Zr.pair (Zr.arr 32 (Zr.int .u8)) (Zr.pair Zr.str (Zr.pair (Zr.sl _) Zr.nil)))))))))) (Zr.pair (Zr.sl _) Zr.nil))))) fun b1 _ _ s27 => ?_; clear s26
  refine qs s27 (.c1 rfl (ob_assign rfl (.tmp rfl)) .cz) fun _ _ s28 => ?_; clear s27
  refine seq_opx0 (B' := (fun _ : Unit => [BF b1 91 k_api_Held x1, RowF v2 91 (kfr w0.heap.size k_api_Held) y3])) s28 rfl rfl (ob_store (A := []) rfl tk91 (.tmp rfl) (.tmp rfl) rfl (LS.refl _ _ _) rfl) fun _ a29 w29 s29 => ?_; clear s28
  refine wn hK10 ?_
  have s30 := s29.sub (u 1 rfl (u 5 rfl (u 6 rfl (u 7 rfl (u 8 rfl (u 9 rfl (u 10 rfl .nil))))))); clear s29
  refine wp_seq_k fun K11 hK11 => wp_region_lit (qs s30 (.c1 rfl (mv rfl rfl) (.c1 rfl (mv rfl rfl) (.c1 rfl (ob_neq rfl (.tmp rfl) (.tmp rfl)) (.ce (u 1 rfl (u 5 rfl (u 7 rfl (u 8 rfl (u 9 rfl (u 10 rfl (u 17 rfl .nil))))))))))) fun _ _ s34 => wn hK11 ?_); clear s30
  refine cond_split s34 (.tmp rfl) (fun hc2 => ?_) (fun hc2 => ?_)
  ·have h7 := ite_t hc2 h6; clear h6
   obtain ⟨x2, e_x2, h8⟩ := bind_some h7; clear h7
   obtain ⟨g1, h9⟩ := guard_some h8; clear h8
   refine wp_region_lit (qs s34 (.c1 rfl (mv rfl rfl) (.c1 rfl (ob_load rfl tk91 (.tmp rfl) (.head _) (LG.refl _ _)) (.c1 rfl (ObF.fr (k := k_api_Held) (X := x2) (ob_callFr (args := [_]) rfl .direct hb118 (fun a w s => by exact cF_queue_clone k _ _ e_x2 _ _ _ (s.arg (.tmp rfl))))) (.c1 rfl (ob_mkSlice (k := kfr w0.heap.size k_api_Held) (xs := ([x2] : (List api_Held))) rfl Try.underlying85 zz91 sz91 (Zr.fr (Zr.iso (f := t_api_Held) (x := (⟨(List.replicate 32 (0 : Int)), (⟨(0 : Int), (0 : Int), [], (0 : Int), [], (List.replicate 32 (0 : Int)), (List.replicate 32 (0 : Int)), [], []⟩ : api_Op), []⟩ : api_Held)) (Zr.pair (Zr.arr 32 (Zr.int .u8)) (Zr.pair (Zr.iso (f := t_api_Op) (x := (⟨(0 : Int), (0 : Int), [], (0 : Int), [], (List.replicate 32 (0 : Int)), (List.replicate 32 (0 : Int)), [], []⟩ : api_Op)) (Zr.pair (Zr.int .i64) (Zr.pair (Zr.int .u32) (Zr.pair (Zr.sl _) (Zr.pair (Zr.int .i64) (Zr.pair (Zr.sl _) (Zr.pair (Zr.arr 32 (Zr.int .u8)) (Zr.pair (Zr.arr 32 (Zr.int .u8)) (Zr.pair Zr.str (Zr.pair (Zr.sl _) Zr.nil)))))))))) (Zr.pair (Zr.sl _) Zr.nil))))) (show 1 * k_api_Held.sz ≤ 16777216 by decide) (show 0 < k_api_Held.sz by decide) (.cons (.tmp rfl) rfl (LS.arr' (i := 0) (ys := ([x2] : (List api_Held))) (by simp) (by rfl)) (.nil _))) .cz)))) fun _ _ s38 => ?_); clear s34
   refine qx (B' := (fun v4 : Value => [BF b1 91 k_api_Held x1, RowF v4 91 (kfr w0.heap.size k_api_Held) (y3 ++ ([x2] : (List api_Held)))])) s38 rfl (ob_appendL2 (A := [_]) rfl Try.underlying85 (ApOk.fr ap91) (Zr.fr (Zr.iso (f := t_api_Held) (x := (⟨(List.replicate 32 (0 : Int)), (⟨(0 : Int), (0 : Int), [], (0 : Int), [], (List.replicate 32 (0 : Int)), (List.replicate 32 (0 : Int)), [], []⟩ : api_Op), []⟩ : api_Held)) (Zr.pair (Zr.arr 32 (Zr.int .u8)) (Zr.pair (Zr.iso (f := t_api_Op) (x := (⟨(0 : Int), (0 : Int), [], (0 : Int), [], (List.replicate 32 (0 : Int)), (List.replicate 32 (0 : Int)), [], []⟩ : api_Op)) (Zr.pair (Zr.int .i64) (Zr.pair (Zr.int .u32) (Zr.pair (Zr.sl _) (Zr.pair (Zr.int .i64) (Zr.pair (Zr.sl _) (Zr.pair (Zr.arr 32 (Zr.int .u8)) (Zr.pair (Zr.arr 32 (Zr.int .u8)) (Zr.pair Zr.str (Zr.pair (Zr.sl _) Zr.nil)))))))))) (Zr.pair (Zr.sl _) Zr.nil))))) (show 0 < k_api_Held.sz by decide) (.tmp rfl) (.tmp rfl) rfl g1) fun v4 _ _ s39 => ?_; clear s38
   refine qs s39 (.c1 rfl (ob_assign rfl (.tmp rfl)) .cz) fun _ _ s40 => ?_; clear s39
   refine wpList_nil ?_
   refine in_normal ?_
   refine then_normal ?_
   have s41 := St.drop (A := []) s40; clear s40
   exact hj2 (y3 ++ ([x2] : (List api_Held))) v4 _ _ h9 (s41.sub (.cons rfl (.cons rfl (.cons rfl (.cons rfl (.cons rfl .nil))))))
  ·have h10 := ite_f hc2 h6; clear h6
   refine wp_skip ?_
   refine in_normal ?_
   refine then_normal ?_
   have s42 := St.drop (A := []) s34; clear s34
   exact hj2 y3 v2 _ _ h10 (s42.sub (.cons rfl (.cons rfl (.cons rfl (.cons rfl (.cons rfl .nil))))))
 ·have h11 := ite_f hc1 h3; clear h3
  refine wp_exit ?_
  refine (then_exit (then_exit (in_here ?_)))
  refine then_normal ?_
  exact hj1 y3 v2 _ _ h11 (s19.sub (.cons rfl .nil))
theorem cF_queue_Put (k : Nat) (p1 : (List api_Held)) (p2 : api_Held) (r : ((List api_Held) × Int)) (h0 : queue_Put k p1 p2 = some r) (ok : Ok) (w0 : World) (z0 : Value) (z1 : Value) (u0 : ((ksl k_api_Held).V p1).holds ok w0 z0) (u1 : (k_api_Held.V p2).holds ok w0 z1) :
 GivesX Try.prog 66 [z0, z1] ok w0 [] (fun g : Value => resFact [is g, (kint .i64).V r.2]) (fun g : Value => [RowF (g) 91 (kfr w0.heap.size k_api_Held) r.1]) := by
 unfold queue_Put at h0
 refine enterX (N := 32) Try.func66 rfl rfl (of_decide_eq_true rfl) (.cons u0 (.cons u1 .nil)) List.nodup_nil (fun _ h => by cases h) (fun _ h => by cases h) fun a1 s1 => ?_
 refine wp_seq_k fun K1 hK1 => wp_region_lit ?_
 refine qx (B' := (fun b1 : Nat => [BF b1 91 k_api_Held p2])) s1 rfl (ob_box rfl (.tmp rfl)) fun b1 _ _ s2 => ?_; clear s1
 refine qs s2 (.c1 rfl (ob_assign rfl opd_is) .cz) fun _ _ s3 => ?_; clear s2
 have s4 := St.adopt s3 (G := RowF (nilRow 1) 91 (kfr w0.heap.size k_api_Held) []) rfl (rowNilN _ _ _ _ _); clear s3
 refine qs s4 (.c1 rfl (ob_assign rfl (opd_int rfl)) (.ce (u 0 rfl (u 3 rfl .nil)))) fun _ _ s6 => wn hK1 ?_; clear s4
 have s7 := St.drop (A := []) s6; clear s6
 refine wp_seq_k fun K2 hK2 => wp_block ?_
 obtain ⟨x1, e_x1, h1⟩ := bind_some h0; clear h0
 obtain ⟨x2, e_x2, h2⟩ := bind_some h1; clear h1
 refine wp_seq_k fun K3 hK3 => wp_region_lit (qs s7 (.c1 rfl (mv rfl rfl) (.c1 rfl (ob_callD0 (args := [_]) rfl .direct hb71 (fun a w s => by exact c_queue_Right k _ _ e_x1 _ _ _ (s.arg (.tmp rfl)))) (.c1 rfl (ob_not rfl (.tmp rfl)) (.c1 rfl (mv rfl rfl) (.cg rfl rfl rfl rfl (fun hb => ob_fieldAddr (off' := 32) rfl Try.underlying91 rfl sz44 (by decide) (.tmp rfl) rfl) (.cg rfl rfl rfl rfl (fun hb => (Ob.uncond (t := 11) hb rfl (ob_load rfl tk44 (.tmp rfl) (.head _) (lg_api_Held_Op p2)))) (.cg rfl rfl rfl rfl (fun hb => (Ob.uncond (t := 12) hb rfl (ob_callD0 (args := [_]) rfl .direct hb91 (fun a w s => by exact c_frame_Right k _ _ (ite_t hb e_x2) _ _ _ (s.arg (.tmp rfl)))))) (.cg rfl rfl rfl rfl (fun hb => (Ob.uncond (t := 13) hb rfl (ob_not rfl (.tmp rfl)))) (.c1 rfl (ob_or2 rfl (.tmp rfl) opd_bool (.tmp rfl)) (.c1 rfl (ob_assign rfl (.tmp rfl)) (.ce (u 0 rfl (u 3 rfl (u 6 rfl .nil)))))))))))))) fun _ _ s18 => wn hK3 ?_); clear s7
 refine cond_split s18 (.tmp rfl) (fun hc1 => ?_) (fun hc1 => ?_)
 ·have h3 := ite_t hc1 h2; clear h2
  refine wp_seq_k fun K4 hK4 => wp_region_lit (qs s18 (.c1 rfl (ob_assign rfl opd_is) .cz) fun _ _ s19 => ?_); clear s18
  have s20 := St.adopt s19 (G := RowF (nilRow 2) 91 (kfr w0.heap.size k_api_Held) []) rfl (rowNilN _ _ _ _ _); clear s19
  refine qs s20 (.c1 rfl (ob_assign rfl (opd_int rfl)) (.ce (u 4 rfl (u 5 rfl .nil)))) fun _ _ s22 => wn hK4 ?_; clear s20
  have s23 := St.drop (A := [_]) s22; clear s22
  refine wp_ret ?_
  obtain rfl := Option.some.inj h3
  exact leaveXD (D := []) (nilRow 2) s23 rfl (.inl rfl) rfl (.cons (.tmp rfl) (.cons (.tmp rfl) .nil)) rfl
 ·have h4 := ite_f hc1 h2; clear h2
  obtain ⟨x3, e_x3, h5⟩ := bind_some h4; clear h4
  refine wp_seq_k fun K5 hK5 => wp_region_lit (qs s18 (.c1 rfl (mv rfl rfl) (.c1 rfl (ob_fieldAddr (off' := 0) rfl Try.underlying91 rfl sz39 (by decide) (.tmp rfl) rfl) (.c1 rfl (ob_load rfl tk39 (.tmp rfl) (.head _) (lg_api_Held_Id p2)) (.c1 rfl (ob_callD0 (args := [_, _]) rfl .direct hb72 (fun a w s => by exact c_queue_Find k _ _ _ e_x3 _ _ _ _ (s.arg (.tmp rfl)) (s.arg (.tmp rfl)))) (.c1 rfl (ob_geq rfl (.tmp rfl) (opd_int rfl)) (.c1 rfl (ob_assign rfl (.tmp rfl)) (.ce (u 0 rfl (u 3 rfl (u 16 rfl .nil)))))))))) fun _ _ s30 => wn hK5 ?_); clear s18
  refine cond_split s30 (.tmp rfl) (fun hc2 => ?_) (fun hc2 => ?_)
  ·have h6 := ite_t hc2 h5; clear h5
   refine wp_seq_k fun K6 hK6 => wp_region_lit (qs s30 (.c1 rfl (ob_assign rfl opd_is) .cz) fun _ _ s31 => ?_); clear s30
   have s32 := St.adopt s31 (G := RowF (nilRow 3) 91 (kfr w0.heap.size k_api_Held) []) rfl (rowNilN _ _ _ _ _); clear s31
   refine qs s32 (.c1 rfl (ob_assign rfl (opd_int rfl)) (.ce (u 4 rfl (u 5 rfl .nil)))) fun _ _ s34 => wn hK6 ?_; clear s32
   have s35 := St.drop (A := [_]) s34; clear s34
   refine wp_ret ?_
   obtain rfl := Option.some.inj h6
   exact leaveXD (D := []) (nilRow 3) s35 rfl (.inl rfl) rfl (.cons (.tmp rfl) (.cons (.tmp rfl) .nil)) rfl
  ·have h7 := ite_f hc2 h5; clear h5
   refine wp_seq_k fun K7 hK7 => wp_region_lit (qs s30 (.c1 rfl (mv rfl rfl) (.c1 rfl (ob_lens rfl Try.underlying85 (.tmp rfl)) (.c1 rfl (ob_eql rfl (.tmp rfl) (opd_int rfl)) (.c1 rfl (ob_assign rfl (.tmp rfl)) (.ce (u 0 rfl (u 3 rfl (u 22 rfl .nil)))))))) fun _ _ s40 => wn hK7 ?_); clear s30
   refine cond_split s40 (.tmp rfl) (fun hc3 => ?_) (fun hc3 => ?_)
   ·have h8 := ite_t hc3 h7; clear h7
    refine wp_seq_k fun K8 hK8 => wp_region_lit (qs s40 (.c1 rfl (ob_assign rfl opd_is) .cz) fun _ _ s41 => ?_); clear s40
    have s42 := St.adopt s41 (G := RowF (nilRow 4) 91 (kfr w0.heap.size k_api_Held) []) rfl (rowNilN _ _ _ _ _); clear s41
    refine qs s42 (.c1 rfl (ob_assign rfl (opd_int rfl)) (.ce (u 4 rfl (u 5 rfl .nil)))) fun _ _ s44 => wn hK8 ?_; clear s42
    have s45 := St.drop (A := [_]) s44; clear s44
    refine wp_ret ?_
    obtain rfl := Option.some.inj h8
    exact leaveXD (D := []) (nilRow 4) s45 rfl (.inl rfl) rfl (.cons (.tmp rfl) (.cons (.tmp rfl) .nil)) rfl
   ·have h9 := ite_f hc3 h7; clear h7
    refine wp_skip ?_
    refine in_normal ?_
    refine then_normal (hK2 _ _ ?_)
    have s46 := s40.sub (u 0 rfl (u 3 rfl .nil)); clear s40
    refine wp_seq_k fun K9 hK9 => ?_
    obtain ⟨x4, e_x4, h10⟩ := bind_some h9; clear h9
    refine wp_goes (Fs := [((ksl k_api_Held).V p1), nofact, (k_api_Held.V p2)]) (bits := [0, 1, 0, 7, 15, 31, 63, 127]) (m := 3) (todo := 2) mx s46 ?_; clear s46
    refine goes_turn (B' := (fun v1 : Value => [RowF v1 91 (kfr w0.heap.size k_api_Held) x4, BF b1 91 k_api_Held p2])) (Fs' := (fun v1 : Value => setAll ([((ksl k_api_Held).V p1), nofact, (k_api_Held.V p2)]) [(1, (is v1))])) 1 2 3 0 (by kernel_rfl) rfl rfl rfl (oc (av 0 rfl rfl Av.nil) rfl rfl (mv rfl rfl) (opsS_skip (by rfl) (oc (av 3 rfl rfl Av.nil) rfl rfl (ob_load rfl tk91 (.tmp rfl) (.head _) (LG.refl _ _)) opsS_nil))) (.plain _ (an 0 rfl rfl rfl Av.nil) rfl (fun _ => rfl) (fun R => ob_callL0 (args := [_, _]) (L := []) rfl .direct hb117 (List.Perm.refl _) (fun a w s => by exact GivesX.freshRow (cF_queue_copied k _ _ _ e_x4 _ _ _ _ (s.arg (.tmp rfl)) (s.arg (opd_int rfl))) s.ev.size) (by exact fun _ => rfl))) (setAll_same (us := (fun v1 : Value => [(1, (is v1))])) fun _ => by kernel_rfl) fun v1 => ?_
    refine goes_last (by kernel_rfl) rfl (opsS_skip (by rfl) (opsS_skip (by rfl) (oc (av 3 rfl rfl Av.nil) rfl rfl (ob_load rfl tk91 (.tmp rfl) (.tail _ (.head _)) (LG.refl _ _)) opsS_nil))) (out_new (i := 1) (by decide) rfl rfl (out_new (i := 2) (by decide) rfl rfl out_nil)) fun _ _ s47 => ?_
    obtain ⟨x5, e_x5, h11⟩ := bind_some h10; clear h10
    obtain ⟨g1, h12⟩ := guard_some h11; clear h11
    refine qs s47 (.c1 rfl (ObF.fr (k := k_api_Held) (X := x5) (ob_callFr (args := [_]) rfl .direct hb118 (fun a w s => by exact cF_queue_clone k _ _ e_x5 _ _ _ (s.arg (.tmp rfl))))) (.c1 rfl (ob_mkSlice (k := kfr w0.heap.size k_api_Held) (xs := ([x5] : (List api_Held))) rfl Try.underlying85 zz91 sz91 (Zr.fr (Zr.iso (f := t_api_Held) (x := (⟨(List.replicate 32 (0 : Int)), (⟨(0 : Int), (0 : Int), [], (0 : Int), [], (List.replicate 32 (0 : Int)), (List.replicate 32 (0 : Int)), [], []⟩ : api_Op), []⟩ : api_Held)) (Zr.pair (Zr.arr 32 (Zr.int .u8)) (Zr.pair (Zr.iso (f := t_api_Op) (x := (⟨(0 : Int), (0 : Int), [], (0 : Int), [], (List.replicate 32 (0 : Int)), (List.replicate 32 (0 : Int)), [], []⟩ : api_Op)) (Zr.pair (Zr.int .i64) (Zr.pair (Zr.int .u32) (Zr.pair (Zr.sl _) (Zr.pair (Zr.int .i64) (Zr.pair (Zr.sl _) (Zr.pair (Zr.arr 32 (Zr.int .u8)) (Zr.pair (Zr.arr 32 (Zr.int .u8)) (Zr.pair Zr.str (Zr.pair (Zr.sl _) Zr.nil)))))))))) (Zr.pair (Zr.sl _) Zr.nil))))) (show 1 * k_api_Held.sz ≤ 16777216 by decide) (show 0 < k_api_Held.sz by decide) (.cons (.tmp rfl) rfl (LS.arr' (i := 0) (ys := ([x5] : (List api_Held))) (by simp) (by rfl)) (.nil _))) .cz)) fun _ _ s49 => ?_; clear s47
    refine qx (B' := (fun v2 : Value => [RowF v2 91 (kfr w0.heap.size k_api_Held) (x4 ++ ([x5] : (List api_Held))), BF b1 91 k_api_Held p2])) s49 rfl (ob_appendL2 (A := []) rfl Try.underlying85 (ApOk.fr ap91) (Zr.fr (Zr.iso (f := t_api_Held) (x := (⟨(List.replicate 32 (0 : Int)), (⟨(0 : Int), (0 : Int), [], (0 : Int), [], (List.replicate 32 (0 : Int)), (List.replicate 32 (0 : Int)), [], []⟩ : api_Op), []⟩ : api_Held)) (Zr.pair (Zr.arr 32 (Zr.int .u8)) (Zr.pair (Zr.iso (f := t_api_Op) (x := (⟨(0 : Int), (0 : Int), [], (0 : Int), [], (List.replicate 32 (0 : Int)), (List.replicate 32 (0 : Int)), [], []⟩ : api_Op)) (Zr.pair (Zr.int .i64) (Zr.pair (Zr.int .u32) (Zr.pair (Zr.sl _) (Zr.pair (Zr.int .i64) (Zr.pair (Zr.sl _) (Zr.pair (Zr.arr 32 (Zr.int .u8)) (Zr.pair (Zr.arr 32 (Zr.int .u8)) (Zr.pair Zr.str (Zr.pair (Zr.sl _) Zr.nil)))))))))) (Zr.pair (Zr.sl _) Zr.nil))))) (show 0 < k_api_Held.sz by decide) (.tmp rfl) (.tmp rfl) rfl g1) fun v2 _ _ s50 => ?_; clear s49
    refine qs s50 (.c1 rfl (ob_assign rfl (.tmp rfl)) (.c1 rfl (ob_assign rfl (opd_int rfl)) (.ce (u 4 rfl (u 5 rfl .nil))))) fun _ _ s53 => wn hK9 ?_; clear s50
    have s54 := St.drop (A := [_]) s53; clear s53
    refine wp_ret ?_
    obtain rfl := Option.some.inj h12
    exact leaveXD (D := []) v2 s54 rfl (.inl rfl) rfl (.cons (.tmp rfl) (.cons (.tmp rfl) .nil)) rfl
end Go.Proofs.Ytdlnfgpcnfbjiaa
