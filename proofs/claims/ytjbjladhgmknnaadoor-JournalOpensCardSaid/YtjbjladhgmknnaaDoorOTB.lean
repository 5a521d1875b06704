/- Several parts of this proof in one file. No condition. -/
import Derived.Test.YtjbjladhgmknnaaDoorOTA
section
namespace Go.Proofs.Pure
open Go Go.RowKit Go.Proofs.Kit
set_option linter.unusedVariables false
set_option linter.unusedSimpArgs false
structure DB (d : disk_Disk) : Prop where
  firm : ∀ b ∈ d.firm, Byt b
  loose : ∀ w ∈ d.loose, Byt w.data
def rdB (d : disk_Disk) (q : Nat) : List Int := last (q : Int) d.loose (d.firm.getD q [])
theorem rdB_read {N : Nat} (hN : N ≤ 1000) {d : disk_Disk} (h : Wf N d) {q : Nat} (hq : q < d.firm.length) : disk_Disk_Read 4000 d (q : Int) = some (rdB d q, 0) ∧ cabalref12_Disk_Read 4000 (twin d) (q : Int) = some (rdB d q) := by
  have e : d.firm.getD q [] = d.firm[q] := by simp [List.getD, hq]
  unfold rdB
  rw [e]
  exact read_ok hN d h q hq
theorem rdB_len {N : Nat} {d : disk_Disk} (h : Wf N d) {q : Nat} (hq : q < d.firm.length) : (rdB d q).length = 256 := by
  have e : d.firm.getD q [] = d.firm[q] := by simp [List.getD, hq]
  unfold rdB
  rw [e]
  exact last_len (fun w hw => (h.each w hw).2.2) (h.size _ (List.getElem_mem hq))
theorem last_byt {p : Int} {l : List disk_write} {y : List Int} (hl : ∀ w ∈ l, Byt w.data) (hy : Byt y) : Byt (last p l y) := by
  induction l generalizing y with
  | nil => exact hy
  | cons w l ih =>
    refine ih (fun v hv => hl v (by simp [hv])) ?_
    split
    · exact hl w (by simp)
    · exact hy
theorem rdB_byt {d : disk_Disk} (h : DB d) {q : Nat} (hq : q < d.firm.length) : Byt (rdB d q) := by
  have e : d.firm.getD q [] = d.firm[q] := by simp [List.getD, hq]
  unfold rdB
  rw [e]
  exact last_byt h.loose (h.firm _ (List.getElem_mem hq))
def cat (d : disk_Disk) (base : Nat) : Nat → List Int
  | 0 => []
  | m + 1 => cat d base m ++ rdB d (base + m)
theorem cat_succ (d : disk_Disk) (base m : Nat) : cat d base (m + 1) = cat d base m ++ rdB d (base + m) := rfl
theorem cat_len {N : Nat} {d : disk_Disk} (h : Wf N d) (base : Nat) : ∀ m, base + m ≤ d.firm.length → (cat d base m).length = 256 * m := by
  intro m
  induction m with
  | zero => intro _; rfl
  | succ m ih => intro hm; rw [cat_succ, List.length_append, ih (by omega), rdB_len h (by omega)]; omega
theorem cat_byt {d : disk_Disk} (h : DB d) (base : Nat) : ∀ m, base + m ≤ d.firm.length → Byt (cat d base m) := by
  intro m
  induction m with
  | zero => intro _ x hx; cases hx
  | succ m ih =>
    intro hm x hx
    rw [cat_succ] at hx
    rcases List.mem_append.1 hx with q | q
    · exact ih (by omega) x q
    · exact rdB_byt h (by omega) x q
theorem cat_take {N : Nat} {d : disk_Disk} (h : Wf N d) (base n : Nat) : ∀ (t i : Nat), n ≤ 256 * i → base + (i + t) ≤ d.firm.length → (cat d base (i + t)).take n = (cat d base i).take n := by
  intro t
  induction t with
  | zero => intro i _ _; rfl
  | succ t ih =>
    intro i h1 h2
    rw [show i + (t + 1) = (i + t) + 1 by omega]
    have hl := cat_len h base (i + t) (by omega)
    rw [cat_succ, List.take_append_of_le_length (by omega)]
    exact ih i h1 (by omega)
def hlf (d : disk_Disk) : Nat := (d.firm.length - 1) / 2
theorem blocks_eq {d : disk_Disk} (h : d.firm.length ≤ 1024) (h3 : 1 ≤ d.firm.length) : journal_blocks 4000 d = some ((hlf d : Nat) : Int) := by
  unfold journal_blocks disk_Disk_Blocks hlf
  rw [Option.bind_some, sub64 (by omega), quo64 (by omega) (by omega)]
  congr 1; omega
theorem half_eq {d : disk_Disk} (h : d.firm.length ≤ 1024) (h3 : 1 ≤ d.firm.length) : cabalref13_Half 4000 (twin d) = some ((hlf d : Nat) : Int) := by
  unfold cabalref13_Half hlf
  show some (iquo .i64 (isub .i64 (d.firm.length : Int) 1) 2) = _
  rw [sub64 (by omega), quo64 (by omega) (by omega)]
  congr 1; omega
def bas (d : disk_Disk) (a : Nat) : Nat := 1 + a * hlf d
theorem bas_le {d : disk_Disk} (h3 : 1 ≤ d.firm.length) {a : Nat} (ha : a ≤ 1) : bas d a + hlf d ≤ d.firm.length := by
  unfold bas hlf
  rcases (show a = 0 ∨ a = 1 by omega) with e | e <;> subst e <;> omega
theorem plc {a h i : Nat} (ha : a ≤ 1) (hh : h ≤ 512) (hi : i ≤ 2000) : iadd .i64 (iadd .i64 1 (imul .i64 (a : Int) (h : Int))) (i : Int) = ((1 + a * h + i : Nat) : Int) := by
  rcases (show a = 0 ∨ a = 1 by omega) with e | e
  · subst e
    have e1 : imul .i64 ((0 : Nat) : Int) (h : Int) = 0 := by rw [mul64 (by omega)]; omega
    have e2 : iadd .i64 1 0 = 1 := by decide
    rw [e1, e2, add64 (by omega)]; omega
  · subst e
    have e1 : imul .i64 ((1 : Nat) : Int) (h : Int) = (h : Int) := by rw [mul64 (by omega)]; omega
    have e2 : iadd .i64 1 (h : Int) = 1 + (h : Int) := add64 (by omega)
    rw [e1, e2, add64 (by omega)]; omega
theorem place_eq {d : disk_Disk} (h : d.firm.length ≤ 1024) (h3 : 1 ≤ d.firm.length) (j : journal_Journal) {a : Nat} (ha : a ≤ 1) (i : Nat) (hi : i ≤ 2000) : journal_Journal_place 4000 j (a : Int) (i : Int) d = some ((bas d a + i : Nat) : Int) := by
  have hh : hlf d ≤ 512 := by unfold hlf; omega
  unfold journal_Journal_place bas
  rw [blocks_eq h h3, Option.bind_some, plc ha hh hi]
theorem jread_eq {N : Nat} (hN : N ≤ 1000) {d : disk_Disk} (h : Wf N d) (h3 : 1 ≤ d.firm.length) (j : journal_Journal) {a : Nat} (ha : a ≤ 1) (ja : j.area = (a : Int)) (n : Nat) (hn : n ≤ hlf d * 256) : journal_Journal_read 4000 j (n : Int) d = some ((cat d (bas d a) (hlf d)).take n) := by
  have hL : (1000000 : Nat) ≤ lim := by unfold lim; omega
  have hb := h.blocks
  have hh : hlf d ≤ 512 := by unfold hlf; omega
  have hle := bas_le h3 ha
  have key : ∀ (t i f : Nat) (ad : Bool), i + t = hlf d → t < f → journal_Journal_read.l1 4000 (n : Int) j d f (i : Int) ad (cat d (bas d a) i) = some ((cat d (bas d a) (hlf d)).take n) := by
    intro t
    induction t with
    | zero =>
      intro i f ad hi hf
      obtain ⟨f, rfl⟩ : ∃ q, f = q + 1 := ⟨f - 1, by omega⟩
      have hl := cat_len h (bas d a) i (by omega)
      rw [journal_Journal_read.l1]
      simp only [strings_Builder_Len, Option.bind_some]
      rw [if_neg (by simp; omega), journal_Journal_read.j1]
      simp only [strings_Builder_String, Option.bind_some, cut_pre (show n ≤ (cat d (bas d a) i).length by omega)]
      rw [show i = hlf d by omega]
    | succ t ih =>
      intro i f ad hi hf
      obtain ⟨f, rfl⟩ : ∃ q, f = q + 1 := ⟨f - 1, by omega⟩
      have hl := cat_len h (bas d a) i (by omega)
      rw [journal_Journal_read.l1]
      simp only [strings_Builder_Len, Option.bind_some]
      by_cases c : 256 * i < n
      · have hnext : iadd .i64 (i : Int) 1 = ((i + 1 : Nat) : Int) := by rw [add64 (by omega)]; omega
        have hr := (rdB_read hN h (q := bas d a + i) (by omega)).1
        have hrl := rdB_len h (q := bas d a + i) (by omega)
        rw [if_pos (decide_eq_true (by omega)), ja, place_eq hb h3 _ ha i (by omega), Option.bind_some, hr, Option.bind_some]
        have ew : strings_Builder_WriteString 4000 (⟨ad, cat d (bas d a) i⟩ : strings_Builder) (rdB d (bas d a + i)) = some (((rdB d (bas d a + i)).length : Int), (), ⟨true, cat d (bas d a) (i + 1)⟩) := by
          unfold strings_Builder_WriteString strings_Builder_copyCheck
          cases ad with
          | false => simp only [Bool.not_false, if_true, Option.bind_some]; rw [if_pos (by omega)]; rfl
          | true => simp only [Bool.not_true, Bool.false_eq_true, if_false, Option.bind_some]; rw [if_pos (by omega)]; rfl
        rw [ew, Option.bind_some, hnext]
        exact ih (i + 1) f true (by omega) (by omega)
      · rw [if_neg (by simp; omega), journal_Journal_read.j1]
        simp only [strings_Builder_String, Option.bind_some, cut_pre (show n ≤ (cat d (bas d a) i).length by omega)]
        have := cat_take h (bas d a) n (t + 1) i (by omega) (by omega)
        rw [← this, hi]
  have := key (hlf d) 0 4000 false (by omega) (by omega)
  rw [show ((0 : Nat) : Int) = 0 from rfl] at this
  exact this
theorem rread_eq {N : Nat} (hN : N ≤ 1000) {d : disk_Disk} (h : Wf N d) (h3 : 1 ≤ d.firm.length) {a : Nat} (ha : a ≤ 1) (n : Nat) (hn : n ≤ hlf d * 256) : ∀ (t i f : Nat), i + t = hlf d → t < f →
    cabalref13_Open.l2 4000 (twin d) (n : Int) (a : Int) f (cat d (bas d a) i) (i : Int) = cabalref13_Open.l1 4000 (twin d) (a : Int) 4000 ⟨(cat d (bas d a) (hlf d)).take n, 0⟩ [] := by
  have hL : (1000000 : Nat) ≤ lim := by unfold lim; omega
  have hb := h.blocks
  have hh : hlf d ≤ 512 := by unfold hlf; omega
  have hle := bas_le h3 ha
  have wa : IntKind.wrap .i64 (a : Int) = (a : Int) := wi64 (by omega)
  have fin : ∀ i, i ≤ hlf d → n ≤ 256 * i → cabalref13_Open.j1 4000 (n : Int) (twin d) (a : Int) (cat d (bas d a) i) = cabalref13_Open.l1 4000 (twin d) (a : Int) 4000 ⟨(cat d (bas d a) (hlf d)).take n, 0⟩ [] := fun i hi hni => by
    have hl := cat_len h (bas d a) i (by omega)
    unfold cabalref13_Open.j1
    rw [cut_pre (by omega), Option.bind_some]
    have := cat_take h (bas d a) n (hlf d - i) i hni (by omega)
    rw [show i + (hlf d - i) = hlf d by omega] at this
    rw [this]
  intro t
  induction t with
  | zero =>
    intro i f hi hf
    obtain ⟨f, rfl⟩ : ∃ q, f = q + 1 := ⟨f - 1, by omega⟩
    rw [cabalref13_Open.l2, half_eq hb h3]
    simp only [Option.bind_some]
    have e : decide ((i : Int) < ((hlf d : Nat) : Int)) = false := decide_eq_false (by omega)
    rw [e]
    simp only [Bool.false_eq_true, if_false]
    exact fin i (by omega) (by omega)
  | succ t ih =>
    intro i f hi hf
    obtain ⟨f, rfl⟩ : ∃ q, f = q + 1 := ⟨f - 1, by omega⟩
    have hl := cat_len h (bas d a) i (by omega)
    rw [cabalref13_Open.l2, half_eq hb h3]
    simp only [Option.bind_some]
    have e : decide ((i : Int) < ((hlf d : Nat) : Int)) = true := decide_eq_true (by omega)
    rw [e]
    simp only [if_true]
    by_cases c : 256 * i < n
    · have hnext : iadd .i64 (i : Int) 1 = ((i + 1 : Nat) : Int) := by rw [add64 (by omega)]; omega
      have hr := (rdB_read hN h (q := bas d a + i) (by omega)).2
      have hrl := rdB_len h (q := bas d a + i) (by omega)
      have ep : iadd .i64 (iadd .i64 1 (imul .i64 (IntKind.wrap .i64 (a : Int)) ((hlf d : Nat) : Int))) (i : Int) = ((bas d a + i : Nat) : Int) := by
        rw [wa]
        exact plc ha hh (by omega)
      rw [if_pos (decide_eq_true (by omega)), ep, hr, Option.bind_some, if_pos (by omega), hnext]
      exact ih (i + 1) f (by omega) (by omega)
    · rw [if_neg (by simp; omega)]
      exact fin i (by omega) (by omega)
def f64 (d : disk_Disk) : List Int := (rdB d 0).take 64
def Z64 : List Int := List.replicate 64 0
structure View (d : disk_Disk) (a : Nat) (L : List (List Int)) : Prop where
  blocks : 3 ≤ d.firm.length
  area : a ≤ 1
  recs : Recs L
  here : (f64 d = Z64 ∧ a = 0 ∧ L = []) ∨ (f64 d ≠ Z64 ∧ f64 d = mk (a : Int) ((encB L).length : Int) ∧ (encB L).length ≤ hlf d * 256 ∧ (cat d (bas d a) (hlf d)).take (encB L).length = encB L)
theorem recs_enc : ∀ (L : List (List Int)) (n : Nat) (acc : List (List Int)), Recs L → L.length < n → (encB L).length ≤ 100000 → acc.length + L.length ≤ 200000 → journal_records.l1 4000 n ⟨encB L, 0⟩ acc = some (acc ++ L, true) := by
  have hL : (1000000 : Nat) ≤ lim := by unfold lim; omega
  intro L
  induction L with
  | nil =>
    intro n acc h1 h2 h3 h4
    obtain ⟨n, rfl⟩ : ∃ q, n = q + 1 := ⟨n - 1, by omega⟩
    rw [journal_records.l1]
    simp [wire_Reader_Left, journal_records.j1, wire_Reader_End, encB_nil]
  | cons t L ih =>
    intro n acc h1 h2 h3 h4
    obtain ⟨n, rfl⟩ : ∃ q, n = q + 1 := ⟨n - 1, by omega⟩
    have ht := h1 t (by simp)
    have ht2 := ht.2
    have hr : Recs L := fun y hy => h1 y (by simp [hy])
    have hp := encT_pos t
    rw [encB_cons, List.length_append] at h3
    rw [List.length_cons] at h2 h4
    have hpos : decide ((((encT t ++ encB L).length : Nat) : Int) > 0) = true := decide_eq_true (by rw [List.length_append]; omega)
    rw [encB_cons, journal_records.l1]
    simp only [wire_Reader_Left, Option.bind_some, hpos, beq_self_eq_true, if_true, wire_Reader_End, Text_enc t (encB L) 60000 (by omega) (by omega) ht.1 (encB_byt hr) (by omega)]
    rw [if_pos (by simp; omega), ih n (acc ++ [t]) hr (by omega) (by omega) (by simp; omega), List.append_assoc]
    rfl
theorem encB_many : ∀ l : List (List Int), l.length ≤ (encB l).length := by
  intro l
  induction l with
  | nil => simp
  | cons t l ih => rw [encB_cons, List.length_append, List.length_cons]; have := encT_pos t; omega
def noJ : journal_Journal := ⟨(), 0, [], []⟩
def noX : cabalref13_Journal := ⟨(), 0, []⟩
theorem get_take {l : List Int} {n : Nat} {m : List Int} (h : l.take n = m) (i : Nat) (hi : i < n) : l[i]? = m[i]? := by
  rw [← h, List.getElem?_take, if_pos hi]
theorem open_both {N : Nat} (hN : N ≤ 1000) {d : disk_Disk} (h : Wf N d) (hD : DB d) (hsm : hlf d * 256 ≤ 3990) :
    (∃ a L, View d a L ∧ journal_Open 4000 d = some (true, ⟨(), (a : Int), encB L, L⟩, 0, d) ∧ cabalref13_Open 4000 (twin d) = some (true, ⟨(), (a : Int), L⟩, 0, twin d)) ∨
    ((∀ a L, ¬ View d a L) ∧ ∃ e, e ≠ 0 ∧ journal_Open 4000 d = some (false, noJ, e, d) ∧ cabalref13_Open 4000 (twin d) = some (false, noX, e, twin d)) := by
  have hb := h.blocks
  unfold journal_Open cabalref13_Open
  rw [show (twin d).Firm = d.firm from rfl]
  unfold disk_Disk_Blocks
  rw [Option.bind_some]
  by_cases c3 : d.firm.length < 3
  · rw [if_pos (decide_eq_true (by omega)), if_pos (decide_eq_true (by omega))]
    exact .inr ⟨fun a L v => by have := v.blocks; omega, 1, by decide, rfl, rfl⟩
  · have r0 := rdB_read hN h (q := 0) (by omega)
    rw [show ((0 : Nat) : Int) = 0 from rfl] at r0
    have l0 := rdB_len h (q := 0) (by omega)
    have ez : fil [] 64 = Z64 := rfl
    have ef : journal_filled 4000 ([] : List Int) 64 = some Z64 := filled_eq [] 64 (by simp) (by omega)
    have er : cabalref13_filled 4000 ([] : List Int) 64 = some Z64 := rfilled_eq [] 64 (by simp) (by omega)
    have ec : cut? (rdB d 0) 0 64 = some (f64 d) := cut_pre (n := 64) (by omega)
    have lf : (f64 d).length = 64 := by unfold f64; rw [List.length_take]; omega
    have bf : Byt (f64 d) := fun x hx => rdB_byt hD (by omega) x (List.mem_of_mem_take hx)
    rw [if_neg (by simp; omega), if_neg (by simp; omega), r0.1, r0.2]
    simp only [Option.bind_some, ec, ef, er]
    by_cases cz : f64 d = Z64
    · rw [if_pos (decide_eq_true cz), if_pos (decide_eq_true cz)]
      exact .inl ⟨0, [], ⟨by omega, by omega, fun t ht => (by cases ht), .inl ⟨cz, rfl, rfl⟩⟩, rfl, rfl⟩
    · rw [if_neg (by simpa using cz), if_neg (by simpa using cz)]
      have g : ∀ i : Nat, (hi : i < 64) → at? (f64 d) (i : Int) = some ((f64 d).getD i 0) ∧ 0 ≤ (f64 d).getD i 0 ∧ (f64 d).getD i 0 < 256 := fun i hi => by
        have hi2 : i < (f64 d).length := by omega
        have e : (f64 d).getD i 0 = (f64 d)[i] := by simp [List.getD, hi2]
        rw [e]
        exact ⟨at_get hi2, bf _ (List.getElem_mem hi2)⟩
      have g4 := g 4 (by omega)
      have g5 := g 5 (by omega)
      have g6 := g 6 (by omega)
      have g7 := g 7 (by omega)
      have g8 := g 8 (by omega)
      have i5 : iadd .i64 4 1 = 5 := by decide
      have i6 : iadd .i64 4 2 = 6 := by decide
      have i7 : iadd .i64 4 3 = 7 := by decide
      have i8 : iadd .i64 4 4 = 8 := by decide
      rw [i5, i6, i7, i8]
      rw [show at? (f64 d) 4 = _ from g4.1, show at? (f64 d) 5 = _ from g5.1, show at? (f64 d) 6 = _ from g6.1, show at? (f64 d) 7 = _ from g7.1, show at? (f64 d) 8 = _ from g8.1]
      generalize hx4 : (f64 d).getD 4 0 = x4 at *
      generalize hx5 : (f64 d).getD 5 0 = x5 at *
      generalize hx6 : (f64 d).getD 6 0 = x6 at *
      generalize hx7 : (f64 d).getD 7 0 = x7 at *
      generalize hx8 : (f64 d).getD 8 0 = x8 at *
      have b4 := g4.2
      have b5 := g5.2
      have b6 := g6.2
      have b7 := g7.2
      have b8 := g8.2
      have w4 : IntKind.wrap .i64 x4 = x4 := wi64 (by omega)
      have w5 : IntKind.wrap .i64 x5 = x5 := wi64 (by omega)
      have w6 : IntKind.wrap .i64 x6 = x6 := wi64 (by omega)
      have w7 : IntKind.wrap .i64 x7 = x7 := wi64 (by omega)
      have w8 : IntKind.wrap .i64 x8 = x8 := wi64 (by omega)
      have wa : IntKind.wrap .i64 (x4 % 2) = x4 % 2 := wi64 (by omega)
      have en := num_eq x5 x6 x7 x8 b5 b6 b7 b8
      have m5 : imul .i64 x5 16777216 = x5 * 16777216 := mul64 (by omega)
      have m6 : imul .i64 x6 65536 = x6 * 65536 := mul64 (by omega)
      have m7 : imul .i64 x7 256 = x7 * 256 := mul64 (by omega)
      have a1 : iadd .i64 (x5 * 16777216) (x6 * 65536) = x5 * 16777216 + x6 * 65536 := add64 (by omega)
      have a2 : iadd .i64 (x5 * 16777216 + x6 * 65536) (x7 * 256) = x5 * 16777216 + x6 * 65536 + x7 * 256 := add64 (by omega)
      have a3 : iadd .i64 (x5 * 16777216 + x6 * 65536 + x7 * 256) x8 = x5 * 16777216 + x6 * 65536 + x7 * 256 + x8 := add64 (by omega)
      simp only [Option.bind_some, w4, w5, w6, w7, w8, and1 b4, wa, en, m5, m6, m7, a1, a2, a3]
      have hn0 : 0 ≤ x5 * 16777216 + x6 * 65536 + x7 * 256 + x8 ∧ x5 * 16777216 + x6 * 65536 + x7 * 256 + x8 < 4294967296 := by omega
      have vw : ∀ a L, View d a L → f64 d = mk (a : Int) ((encB L).length : Int) ∧ x4 = (a : Int) ∧ x5 * 16777216 + x6 * 65536 + x7 * 256 + x8 = ((encB L).length : Int) ∧ a ≤ 1 ∧ (encB L).length ≤ hlf d * 256 ∧ (cat d (bas d a) (hlf d)).take (encB L).length = encB L ∧ Recs L := fun a L v => by
        rcases v.here with ⟨q, _⟩ | ⟨_, q1, q2, q3⟩
        · exact absurd q cz
        · have hd := mk_take (a : Int) ((encB L).length : Int)
          rw [← q1] at hd
          have at4 := get_take hd 4 (by omega)
          have at5 := get_take hd 5 (by omega)
          have at6 := get_take hd 6 (by omega)
          have at7 := get_take hd 7 (by omega)
          have at8 := get_take hd 8 (by omega)
          have ge : ∀ i : Nat, i < 64 → (f64 d)[i]? = some ((f64 d).getD i 0) := fun i hi => by
            have hi2 : i < (f64 d).length := by omega
            simp [List.getD, hi2]
          rw [ge 4 (by omega), hx4] at at4
          rw [ge 5 (by omega), hx5] at at5
          rw [ge 6 (by omega), hx6] at at6
          rw [ge 7 (by omega), hx7] at at7
          rw [ge 8 (by omega), hx8] at at8
          have e4 : x4 = (a : Int) := Option.some.inj at4
          have e5 : x5 = ((encB L).length : Int) / 16777216 := Option.some.inj at5
          have e6 : x6 = ((encB L).length : Int) / 65536 % 256 := Option.some.inj at6
          have e7 : x7 = ((encB L).length : Int) / 256 % 256 := Option.some.inj at7
          have e8 : x8 = ((encB L).length : Int) % 256 := Option.some.inj at8
          exact ⟨q1, e4, by omega, v.area, q2, q3, v.recs⟩
      obtain ⟨n, hn⟩ : ∃ n : Nat, x5 * 16777216 + x6 * 65536 + x7 * 256 + x8 = (n : Int) := ⟨(x5 * 16777216 + x6 * 65536 + x7 * 256 + x8).toNat, by omega⟩
      rw [hn] at hn0 vw ⊢
      by_cases c4 : x4 ≤ 1
      · have t4 : decide (x4 > 1) = false := decide_eq_false (by omega)
        have e2 : x4 % 2 = x4 := by omega
        obtain ⟨a, rfl⟩ : ∃ a : Nat, x4 = (a : Int) := ⟨x4.toNat, by omega⟩
        have ha : a ≤ 1 := by omega
        obtain ⟨k1, k2, k3⟩ := mark_eq (a := (a : Int)) (n := (n : Int)) (by omega) hn0
        have hh : hlf d ≤ 512 := by unfold hlf; omega
        rw [e2, t4, k1]
        simp only [Bool.false_eq_true, if_false, Option.bind_some, beq_self_eq_true, if_true, k2]
        by_cases cm : mk (a : Int) (n : Int) = f64 d
        · have cm' : f64 d = mk (a : Int) (n : Int) := cm.symm
          rw [decide_eq_true cm, decide_eq_true cm']
          simp only [Bool.not_true, beq_self_eq_true, if_true, blocks_eq hb (by omega : 1 ≤ d.firm.length), half_eq hb (by omega : 1 ≤ d.firm.length), Option.bind_some, Bool.false_eq_true, if_false]
          have eh : imul .i64 ((hlf d : Nat) : Int) 256 = ((hlf d * 256 : Nat) : Int) := by rw [mul64 (by omega)]; omega
          rw [eh]
          by_cases cn : n ≤ hlf d * 256
          · have tn : decide ((n : Int) > ((hlf d * 256 : Nat) : Int)) = false := decide_eq_false (by omega)
            rw [tn]
            simp only [Bool.false_eq_true, if_false]
            have hcl := cat_len h (bas d a) (hlf d) (bas_le (by omega) ha)
            have hcb := cat_byt hD (bas d a) (hlf d) (bas_le (by omega) ha)
            have sl : ((cat d (bas d a) (hlf d)).take n).length = n := by rw [List.length_take]; omega
            rw [jread_eq hN h (by omega) _ ha rfl n cn, Option.bind_some]
            have hr := rread_eq hN h (by omega) ha n cn (hlf d) 0 4000 (by omega) (by omega)
            rw [show ((0 : Nat) : Int) = 0 from rfl, show cat d (bas d a) 0 = [] from rfl] at hr
            rw [hr]
            unfold journal_records wire_NewReader
            rw [Option.bind_some]
            rcases recs_both (twin d) (a : Int) 4000 ((cat d (bas d a) (hlf d)).take n) [] (fun x hx => hcb x (List.mem_of_mem_take hx)) (by omega) (by omega) (by simp; omega) with ⟨L, L1, L2, L3, L4⟩ | ⟨⟨l', m1⟩, e, y, l'', m2, m3⟩
            · rw [L3, L4]
              have eL : (encB L).length = n := by rw [← L2]; exact sl
              refine .inl ⟨a, L, ⟨by omega, ha, L1, .inr ⟨cz, by rw [eL]; exact cm', by omega, by rw [eL]; exact L2⟩⟩, ?_, ?_⟩
              · rw [L2]; rfl
              · unfold cabalref13_Open.j2
                rw [if_neg (by decide), wi64 (by omega)]; rfl
            · rw [m1, m3]
              refine .inr ⟨fun a' L' v => ?_, 9, by decide, rfl, ?_⟩
              · obtain ⟨v1, v2, v3, v4, v5, v6, v7⟩ := vw a' L' v
                have ea : a' = a := by omega
                subst ea
                have el : (encB L').length = n := by omega
                rw [el] at v6
                have hm := encB_many L'
                have := recs_enc L' 4000 [] v7 (by omega) (by omega) (by simp; omega)
                rw [← v6, m1] at this
                cases this
              · unfold cabalref13_Open.j2
                rw [if_pos (by simpa using m2)]; rfl
          · have tn : decide ((n : Int) > ((hlf d * 256 : Nat) : Int)) = true := decide_eq_true (by omega)
            rw [tn]
            simp only [if_true]
            exact .inr ⟨fun a' L' v => by obtain ⟨v1, v2, v3, v4, v5, v6, v7⟩ := vw a' L' v; omega, 9, by decide, rfl, rfl⟩
        · have cm' : ¬ f64 d = mk (a : Int) (n : Int) := fun e => cm e.symm
          rw [decide_eq_false cm, decide_eq_false cm']
          simp only [Bool.not_false, if_true, Option.bind_some, reduceCtorEq, beq_iff_eq, if_false, Bool.true_eq_false]
          refine .inr ⟨fun a' L' v => ?_, 9, by decide, rfl, rfl⟩
          obtain ⟨v1, v2, v3, v4, v5, v6, v7⟩ := vw a' L' v
          have ea : a' = a := by omega
          subst ea
          rw [← v3] at v1
          exact cm' v1
      · have t4 : decide (x4 > 1) = true := decide_eq_true (by omega)
        obtain ⟨k1, k2, k3⟩ := mark_eq (a := x4 % 2) (n := (n : Int)) (by omega) hn0
        have cm : ¬ mk (x4 % 2) (n : Int) = f64 d := fun e => by
          have hd := mk_take (x4 % 2) (n : Int)
          rw [e] at hd
          have at4 := get_take hd 4 (by omega)
          have ge : (f64 d)[4]? = some ((f64 d).getD 4 0) := by
            have hi2 : 4 < (f64 d).length := by omega
            simp [List.getD, hi2]
          rw [ge, hx4] at at4
          have e4 : x4 = x4 % 2 := Option.some.inj at4
          omega
        rw [t4, k1, Option.bind_some, decide_eq_false cm]
        simp only [Bool.not_false, if_true, Option.bind_some, reduceCtorEq, beq_iff_eq, if_false, Bool.true_eq_false]
        exact .inr ⟨fun a' L' v => by obtain ⟨v1, v2, v3, v4, v5, v6, v7⟩ := vw a' L' v; omega, 9, by decide, rfl, rfl⟩
end Go.Proofs.Pure
end
section
namespace Go.Proofs.Pure
open Go Go.RowKit Go.Proofs.Kit
set_option linter.unusedVariables false
set_option linter.unusedSimpArgs false
def blk (s : List Int) (i : Nat) : List Int := fil ((s.take (256 * (i + 1))).drop (256 * i)) 256
end Go.Proofs.Pure
end
section
namespace Go.Proofs.Pure
open Go Go.RowKit Go.Proofs.Kit
set_option linter.unusedVariables false
set_option linter.unusedSimpArgs false
def still (f : List (List Int)) : disk_Disk := ⟨f, [], -1, false⟩
theorem wf_still {f : List (List Int)} (h1 : f.length ≤ 1024) (h2 : ∀ b ∈ f, b.length = 256) : Wf 0 (still f) := ⟨h1, h2, fun w hw => (by cases hw), Nat.zero_le _⟩
structure Fm (f : List (List Int)) : Prop where
  three : 3 ≤ f.length
  few : f.length ≤ 1024
  size : ∀ b ∈ f, b.length = 256
theorem Fm.at {f : List (List Int)} (h : Fm f) {q : Nat} (hq : q < f.length) : (f.getD q []).length = 256 := by
  have e : f.getD q [] = f[q] := by simp [List.getD, hq]
  rw [e]; exact h.size _ (List.getElem_mem hq)
theorem Fm.wf {f : List (List Int)} (h : Fm f) : Wf 0 (still f) := wf_still h.few h.size
abbrev VF (f : List (List Int)) (a : Nat) (L : List (List Int)) : Prop := View (still f) a L
end Go.Proofs.Pure
end
section
namespace Go.Proofs.Pure
open Go Go.RowKit Go.Proofs.Kit
set_option linter.unusedVariables false
set_option linter.unusedSimpArgs false
structure Live (d : disk_Disk) (a : Nat) (L : List (List Int)) : Prop where
  wf : Wf 0 d
  db : DB d
  alive : d.dead = false
  calm : d.loose = []
  view : View d a L
structure Gone (d : disk_Disk) : Prop where
  wf : Wf 600 d
  db : DB d
  dead : d.dead = true
  three : 3 ≤ d.firm.length
  safe : ∀ keep : List Int, ∃ a L, VF (sett (keepN keep) 0 d.loose d.firm) a L
theorem Live.room {d : disk_Disk} {a : Nat} {L : List (List Int)} (h : Live d a L) : (encB L).length ≤ hlf d * 256 := by
  rcases h.view.here with ⟨_, _, e⟩ | ⟨_, _, e, _⟩
  · rw [e]; simp [encB]
  · exact e
theorem sett_byt (ns : Nat → Nat) : ∀ (ws : List disk_write) (i : Nat) (f : List (List Int)), (∀ w ∈ ws, Byt w.data) → (∀ b ∈ f, Byt b) → ∀ b ∈ sett ns i ws f, Byt b := by
  intro ws
  induction ws with
  | nil => intro i f _ hf b hb; exact hf b hb
  | cons w ws ih =>
    intro i f hw hf b hb
    unfold sett at hb
    refine ih (i + 1) _ (fun v hv => hw v (by simp [hv])) (fun c hc => ?_) b hb
    rcases List.mem_or_eq_of_mem_set hc with q | q
    · exact hf c q
    · rw [q]
      intro x hx
      rcases List.mem_append.1 hx with r | r
      · exact hw w (by simp) x (List.mem_of_mem_take r)
      · have r2 := List.mem_of_mem_drop r
        by_cases hl : w.at_.toNat < f.length
        · have e : f.getD w.at_.toNat [] = f[w.at_.toNat] := by simp [List.getD, hl]
          rw [e] at r2
          exact hf _ (List.getElem_mem hl) x r2
        · have e : f.getD w.at_.toNat [] = [] := by simp [List.getD, Nat.not_lt.1 hl]
          rw [e] at r2; cases r2
end Go.Proofs.Pure
end
section
namespace Go.Proofs.Pure
open Go Go.RowKit Go.Proofs.Kit
set_option linter.unusedVariables false
set_option linter.unusedSimpArgs false
theorem encB_each : ∀ (L : List (List Int)) (t : List Int), t ∈ L → t.length ≤ (encB L).length := by
  intro L
  induction L with
  | nil => intro t ht; cases ht
  | cons s L ih =>
    intro t ht
    rw [encB_cons, List.length_append]
    rcases List.mem_cons.1 ht with e | e
    · subst e
      have : t.length ≤ (encT t).length := by unfold encT; rw [List.length_append]; omega
      omega
    · have := ih t e; omega
theorem bytes_eq (l : List (List Int)) (hl : l.length ≤ 3000) (hs : ∀ t ∈ l, t.length ≤ 5000) : cabalref13_Bytes 4000 l = some (encB l) := by
  have hL : lim = 2147483648 := rfl
  have blen : ∀ i, (encB (l.take i)).length ≤ 5010 * i := by
    intro i
    induction i with
    | zero => simp [encB]
    | succ i ih =>
      by_cases c : i < l.length
      · have ht := hs _ (List.getElem_mem c)
        rw [List.take_succ_eq_append_getElem c, encB_append, List.length_append]
        have : (encB [l[i]]).length ≤ 5010 := by
          show (encT l[i] ++ []).length ≤ _
          rw [List.append_nil]
          unfold encT
          have := enc_len (l[i].length : Int)
          rw [List.length_append]; omega
        omega
      · rw [List.take_of_length_le (by omega)] at ih ⊢; omega
  have key : ∀ (m i n : Nat), i + m = l.length → m < n → cabalref13_Bytes.l1 4000 l n (encB (l.take i)) (i : Int) = some (encB l) := by
    intro m
    induction m with
    | zero =>
      intro i n hi hm
      obtain ⟨n, rfl⟩ : ∃ q, n = q + 1 := ⟨n - 1, by omega⟩
      rw [cabalref13_Bytes.l1, if_neg (by simp; omega), cabalref13_Bytes.j1, List.take_of_length_le (by omega)]
    | succ m ih =>
      intro i n hi hm
      obtain ⟨n, rfl⟩ : ∃ q, n = q + 1 := ⟨n - 1, by omega⟩
      have c : i < l.length := by omega
      have hnext : iadd .i64 (i : Int) 1 = ((i + 1 : Nat) : Int) := by rw [add64 (by omega)]; omega
      have ht := hs _ (List.getElem_mem c)
      have b1 := blen (i + 1)
      have e : encB (l.take (i + 1)) = encB (l.take i) ++ encT l[i] := by
        rw [List.take_succ_eq_append_getElem c, encB_append]
        show _ ++ (encT l[i] ++ []) = _
        rw [List.append_nil]
      rw [e, List.length_append] at b1
      rw [cabalref13_Bytes.l1, if_pos (decide_eq_true (by omega)), at_get c, Option.bind_some, ref_text 4000 l[i] ht (by omega), Option.bind_some, if_pos (by omega), hnext, ← e]
      exact ih (i + 1) n (by omega) (by omega)
  have := key l.length 0 4000 (by omega) (by omega)
  rw [show ((0 : Nat) : Int) = 0 from rfl, List.take_zero] at this
  exact this
theorem texts_enc (l : List (List Int)) (hl : l.length < 1000) (hs : ∀ t ∈ l, t.length ≤ 5000) : wire_Writer_Texts 4000 ⟨[]⟩ l = some ⟨encB l⟩ := by
  have hL : lim = 2147483648 := rfl
  rw [texts_eq 4000 ⟨[]⟩ l hl hs (by omega) (by omega) (by show 0 + 6000 * l.length + 10 ≤ lim; omega)]
  show some (⟨[] ++ l.flatMap encT⟩ : wire_Writer) = _
  rw [List.nil_append, List.flatMap_def]; rfl
structure Stt (d : disk_Disk) (a : Nat) (L : List (List Int)) : Prop where
  recs : Recs L
  area : a ≤ 1
  three : 3 ≤ d.firm.length
  few : d.firm.length ≤ 1024
  room : (encB L).length ≤ hlf d * 256
  how : Live d a L ∨ Gone d
def jj (a : Nat) (L : List (List Int)) : journal_Journal := ⟨(), (a : Int), encB L, L⟩
def xx (a : Nat) (L : List (List Int)) : cabalref13_Journal := ⟨(), (a : Int), L⟩
theorem room_eq {d : disk_Disk} {a : Nat} {L : List (List Int)} (s : Stt d a L) : journal_Journal_Room 4000 (jj a L) d = some (((hlf d * 256 : Nat) : Int) - ((encB L).length : Int)) := by
  have hlt : hlf d ≤ 511 := by unfold hlf; have := s.few; omega
  have h3 := s.three
  have hr := s.room
  unfold journal_Journal_Room journal_Journal_size
  rw [blocks_eq s.few (by omega), Option.bind_some, Option.bind_some, mul64 (by omega)]
  show some (isub .i64 (((hlf d : Nat) : Int) * 256) ((encB L).length : Int)) = _
  rw [sub64 (by omega)]
  congr 1 <;> omega
theorem rroom_eq {d : disk_Disk} {a : Nat} {L : List (List Int)} (s : Stt d a L) (hL1 : L.length ≤ 3000) (hL2 : ∀ t ∈ L, t.length ≤ 5000) : cabalref13_Journal_Room 4000 (xx a L) (twin d) = some (((hlf d * 256 : Nat) : Int) - ((encB L).length : Int)) := by
  have hlt : hlf d ≤ 511 := by unfold hlf; have := s.few; omega
  have h3 := s.three
  have hr := s.room
  unfold cabalref13_Journal_Room
  rw [half_eq s.few (by omega), Option.bind_some]
  show (cabalref13_Bytes 4000 L).bind _ = _
  rw [bytes_eq L hL1 hL2, Option.bind_some, mul64 (by omega), sub64 (by omega)]
  congr 1 <;> omega
theorem records_eq (j : journal_Journal) (d : disk_Disk) (h : j.l.length ≤ 10000) : journal_Journal_Records 4000 j d = some j.l := by
  have hlm : lim = 2147483648 := rfl
  unfold journal_Journal_Records slices_Clone_string_string
  rw [if_pos (by show 0 + _ ≤ lim; omega)]; rfl
theorem same_eq (l : List (List Int)) (hl : l.length ≤ 3900) : cabalref13_Same 4000 l l = some true := by
  have key : ∀ (m i n : Nat), i + m = l.length → m < n → cabalref13_Same.l1 4000 l l n (i : Int) = some true := by
    intro m
    induction m with
    | zero =>
      intro i n hi hm
      obtain ⟨n, rfl⟩ : ∃ q, n = q + 1 := ⟨n - 1, by omega⟩
      rw [cabalref13_Same.l1, if_neg (by simp; omega)]; rfl
    | succ m ih =>
      intro i n hi hm
      obtain ⟨n, rfl⟩ : ∃ q, n = q + 1 := ⟨n - 1, by omega⟩
      have c : i < l.length := by omega
      have hnext : iadd .i64 (i : Int) 1 = ((i + 1 : Nat) : Int) := by rw [add64 (by omega)]; omega
      rw [cabalref13_Same.l1, if_pos (decide_eq_true (by omega)), at_get c, Option.bind_some, Option.bind_some, if_neg (by simp), hnext]
      exact ih (i + 1) n (by omega) (by omega)
  unfold cabalref13_Same
  rw [if_neg (by simp)]
  have := key l.length 0 4000 (by omega) (by omega)
  rw [show ((0 : Nat) : Int) = 0 from rfl] at this
  exact this
theorem great_eq (l : List (List Int)) : ∃ b, caballaw13_great 4000 l = some b ∧ (b = false → l.length ≤ 25 ∧ ∀ t ∈ l, t.length ≤ 2000) := by
  have key : ∀ (m i n : Nat) (y : Int), i + m = 22 → m < n → ∃ b, caballaw13_great.l1 4000 l n y (i : Int) = some b ∧ (b = false → l.length ≤ 25 ∧ ∀ t ∈ l.drop i, t.length ≤ 2000) := by
    intro m
    induction m with
    | zero =>
      intro i n y hi hm
      obtain ⟨n, rfl⟩ : ∃ q, n = q + 1 := ⟨n - 1, by omega⟩
      rw [caballaw13_great.l1]
      by_cases c : i < l.length
      · have c2 : decide ((i : Int) > 20) = true := decide_eq_true (by omega)
        rw [if_pos (decide_eq_true (by omega)), at_get c]
        simp only [Option.bind_some, c2]
        refine ⟨true, by simp, fun h => by cases h⟩
      · rw [if_neg (by simp; omega), caballaw13_great.j1]
        exact ⟨_, rfl, fun _ => ⟨by omega, fun t ht => by rw [List.drop_eq_nil_of_le (by omega)] at ht; cases ht⟩⟩
    | succ m ih =>
      intro i n y hi hm
      obtain ⟨n, rfl⟩ : ∃ q, n = q + 1 := ⟨n - 1, by omega⟩
      rw [caballaw13_great.l1]
      by_cases c : i < l.length
      · have hnext : iadd .i64 (i : Int) 1 = ((i + 1 : Nat) : Int) := by rw [add64 (by omega)]; omega
        rw [if_pos (decide_eq_true (by omega)), at_get c, List.drop_eq_getElem_cons c]
        simp only [Option.bind_some, hnext]
        by_cases c2 : (if decide ((l[i].length : Int) > 2000) = true then true else decide ((i : Int) > 20)) = true
        · rw [if_pos c2]; exact ⟨true, rfl, fun h => by cases h⟩
        · rw [if_neg c2]
          obtain ⟨b, e, h⟩ := ih (i + 1) n (iadd .i64 y (l[i].length : Int)) (by omega) (by omega)
          refine ⟨b, e, fun hb => ?_⟩
          obtain ⟨h1, h2⟩ := h hb
          refine ⟨h1, fun t ht => ?_⟩
          rcases List.mem_cons.1 ht with q | q
          · rw [q]
            by_cases c3 : (l[i].length : Int) > 2000
            · exact absurd (by rw [if_pos (decide_eq_true c3)]) c2
            · omega
          · exact h2 t q
      · rw [if_neg (by simp; omega), caballaw13_great.j1]
        exact ⟨_, rfl, fun _ => ⟨by omega, fun t ht => by rw [List.drop_eq_nil_of_le (by omega)] at ht; cases ht⟩⟩
  have := key 22 0 4000 0 (by omega) (by omega)
  rw [show ((0 : Nat) : Int) = 0 from rfl, List.drop_zero] at this
  exact this
end Go.Proofs.Pure
end
section
namespace Go.Proofs.Pure
open Go Go.RowKit Go.Proofs.Kit
set_option linter.unusedVariables false
set_option linter.unusedSimpArgs false
theorem alive13 : caballaw13_alive 4000 = some true := by decide +kernel
end Go.Proofs.Pure
end
