/- Several parts of this proof in one file. No condition. -/
import Derived.Test.YtjbjladhgmknnaaDoorKTA
section
namespace Go.Proofs.Pure
open Go Go.RowKit Go.Proofs.Kit
set_option linter.unusedVariables false
set_option linter.unusedSimpArgs false
structure DB (d : disk_Disk) : Prop where
  firm : ∀ b ∈ d.firm, Byt b
  loose : ∀ w ∈ d.loose, Byt w.data
def rdB (d : disk_Disk) (q : Nat) : List Int := last (q : Int) d.loose (d.firm.getD q [])
theorem rdB_read {N : Nat} (hN : N ≤ 1000) {d : disk_Disk} (h : Wf N d) {q : Nat} (hq : q < d.firm.length) : disk_Disk_Read 4000 d (q : Int) = some (rdB d q, 0) ∧ cabalref12_Disk_Read 4000 (twin d) (q : Int) = some (rdB d q) := by
  have e : d.firm.getD q [] = d.firm[q] := by simp [List.getD, hq]
  unfold rdB
  rw [e]
  exact read_ok hN d h q hq
theorem rdB_len {N : Nat} {d : disk_Disk} (h : Wf N d) {q : Nat} (hq : q < d.firm.length) : (rdB d q).length = 256 := by
  have e : d.firm.getD q [] = d.firm[q] := by simp [List.getD, hq]
  unfold rdB
  rw [e]
  exact last_len (fun w hw => (h.each w hw).2.2) (h.size _ (List.getElem_mem hq))
def cat (d : disk_Disk) (base : Nat) : Nat → List Int
  | 0 => []
  | m + 1 => cat d base m ++ rdB d (base + m)
theorem cat_succ (d : disk_Disk) (base m : Nat) : cat d base (m + 1) = cat d base m ++ rdB d (base + m) := rfl
theorem cat_len {N : Nat} {d : disk_Disk} (h : Wf N d) (base : Nat) : ∀ m, base + m ≤ d.firm.length → (cat d base m).length = 256 * m := by
  intro m
  induction m with
  | zero => intro _; rfl
  | succ m ih => intro hm; rw [cat_succ, List.length_append, ih (by omega), rdB_len h (by omega)]; omega
theorem cat_take {N : Nat} {d : disk_Disk} (h : Wf N d) (base n : Nat) : ∀ (t i : Nat), n ≤ 256 * i → base + (i + t) ≤ d.firm.length → (cat d base (i + t)).take n = (cat d base i).take n := by
  intro t
  induction t with
  | zero => intro i _ _; rfl
  | succ t ih =>
    intro i h1 h2
    rw [show i + (t + 1) = (i + t) + 1 by omega]
    have hl := cat_len h base (i + t) (by omega)
    rw [cat_succ, List.take_append_of_le_length (by omega)]
    exact ih i h1 (by omega)
def hlf (d : disk_Disk) : Nat := (d.firm.length - 1) / 2
theorem blocks_eq {d : disk_Disk} (h : d.firm.length ≤ 1024) (h3 : 1 ≤ d.firm.length) : journal_blocks 4000 d = some ((hlf d : Nat) : Int) := by
  unfold journal_blocks disk_Disk_Blocks hlf
  rw [Option.bind_some, sub64 (by omega), quo64 (by omega) (by omega)]
  congr 1; omega
theorem half_eq {d : disk_Disk} (h : d.firm.length ≤ 1024) (h3 : 1 ≤ d.firm.length) : cabalref13_Half 4000 (twin d) = some ((hlf d : Nat) : Int) := by
  unfold cabalref13_Half hlf
  show some (iquo .i64 (isub .i64 (d.firm.length : Int) 1) 2) = _
  rw [sub64 (by omega), quo64 (by omega) (by omega)]
  congr 1; omega
def bas (d : disk_Disk) (a : Nat) : Nat := 1 + a * hlf d
theorem bas_le {d : disk_Disk} (h3 : 1 ≤ d.firm.length) {a : Nat} (ha : a ≤ 1) : bas d a + hlf d ≤ d.firm.length := by
  unfold bas hlf
  rcases (show a = 0 ∨ a = 1 by omega) with e | e <;> subst e <;> omega
theorem plc {a h i : Nat} (ha : a ≤ 1) (hh : h ≤ 512) (hi : i ≤ 2000) : iadd .i64 (iadd .i64 1 (imul .i64 (a : Int) (h : Int))) (i : Int) = ((1 + a * h + i : Nat) : Int) := by
  rcases (show a = 0 ∨ a = 1 by omega) with e | e
  · subst e
    have e1 : imul .i64 ((0 : Nat) : Int) (h : Int) = 0 := by rw [mul64 (by omega)]; omega
    have e2 : iadd .i64 1 0 = 1 := by decide
    rw [e1, e2, add64 (by omega)]; omega
  · subst e
    have e1 : imul .i64 ((1 : Nat) : Int) (h : Int) = (h : Int) := by rw [mul64 (by omega)]; omega
    have e2 : iadd .i64 1 (h : Int) = 1 + (h : Int) := add64 (by omega)
    rw [e1, e2, add64 (by omega)]; omega
theorem place_eq {d : disk_Disk} (h : d.firm.length ≤ 1024) (h3 : 1 ≤ d.firm.length) (j : journal_Journal) {a : Nat} (ha : a ≤ 1) (i : Nat) (hi : i ≤ 2000) : journal_Journal_place 4000 j (a : Int) (i : Int) d = some ((bas d a + i : Nat) : Int) := by
  have hh : hlf d ≤ 512 := by unfold hlf; omega
  unfold journal_Journal_place bas
  rw [blocks_eq h h3, Option.bind_some, plc ha hh hi]
theorem jread_eq {N : Nat} (hN : N ≤ 1000) {d : disk_Disk} (h : Wf N d) (h3 : 1 ≤ d.firm.length) (j : journal_Journal) {a : Nat} (ha : a ≤ 1) (ja : j.area = (a : Int)) (n : Nat) (hn : n ≤ hlf d * 256) : journal_Journal_read 4000 j (n : Int) d = some ((cat d (bas d a) (hlf d)).take n) := by
  have hL : (1000000 : Nat) ≤ lim := by unfold lim; omega
  have hb := h.blocks
  have hh : hlf d ≤ 512 := by unfold hlf; omega
  have hle := bas_le h3 ha
  have key : ∀ (t i f : Nat) (ad : Bool), i + t = hlf d → t < f → journal_Journal_read.l1 4000 (n : Int) j d f (i : Int) ad (cat d (bas d a) i) = some ((cat d (bas d a) (hlf d)).take n) := by
    intro t
    induction t with
    | zero =>
      intro i f ad hi hf
      obtain ⟨f, rfl⟩ : ∃ q, f = q + 1 := ⟨f - 1, by omega⟩
      have hl := cat_len h (bas d a) i (by omega)
      rw [journal_Journal_read.l1]
      simp only [strings_Builder_Len, Option.bind_some]
      rw [if_neg (by simp; omega), journal_Journal_read.j1]
      simp only [strings_Builder_String, Option.bind_some, cut_pre (show n ≤ (cat d (bas d a) i).length by omega)]
      rw [show i = hlf d by omega]
    | succ t ih =>
      intro i f ad hi hf
      obtain ⟨f, rfl⟩ : ∃ q, f = q + 1 := ⟨f - 1, by omega⟩
      have hl := cat_len h (bas d a) i (by omega)
      rw [journal_Journal_read.l1]
      simp only [strings_Builder_Len, Option.bind_some]
      by_cases c : 256 * i < n
      · have hnext : iadd .i64 (i : Int) 1 = ((i + 1 : Nat) : Int) := by rw [add64 (by omega)]; omega
        have hr := (rdB_read hN h (q := bas d a + i) (by omega)).1
        have hrl := rdB_len h (q := bas d a + i) (by omega)
        rw [if_pos (decide_eq_true (by omega)), ja, place_eq hb h3 _ ha i (by omega), Option.bind_some, hr, Option.bind_some]
        have ew : strings_Builder_WriteString 4000 (⟨ad, cat d (bas d a) i⟩ : strings_Builder) (rdB d (bas d a + i)) = some (((rdB d (bas d a + i)).length : Int), (), ⟨true, cat d (bas d a) (i + 1)⟩) := by
          unfold strings_Builder_WriteString strings_Builder_copyCheck
          cases ad with
          | false => simp only [Bool.not_false, if_true, Option.bind_some]; rw [if_pos (by omega)]; rfl
          | true => simp only [Bool.not_true, Bool.false_eq_true, if_false, Option.bind_some]; rw [if_pos (by omega)]; rfl
        rw [ew, Option.bind_some, hnext]
        exact ih (i + 1) f true (by omega) (by omega)
      · rw [if_neg (by simp; omega), journal_Journal_read.j1]
        simp only [strings_Builder_String, Option.bind_some, cut_pre (show n ≤ (cat d (bas d a) i).length by omega)]
        have := cat_take h (bas d a) n (t + 1) i (by omega) (by omega)
        rw [← this, hi]
  have := key (hlf d) 0 4000 false (by omega) (by omega)
  rw [show ((0 : Nat) : Int) = 0 from rfl] at this
  exact this
def f64 (d : disk_Disk) : List Int := (rdB d 0).take 64
def Z64 : List Int := List.replicate 64 0
structure View (d : disk_Disk) (a : Nat) (L : List (List Int)) : Prop where
  blocks : 3 ≤ d.firm.length
  area : a ≤ 1
  recs : Recs L
  here : (f64 d = Z64 ∧ a = 0 ∧ L = []) ∨ (f64 d ≠ Z64 ∧ f64 d = mk (a : Int) ((encB L).length : Int) ∧ (encB L).length ≤ hlf d * 256 ∧ (cat d (bas d a) (hlf d)).take (encB L).length = encB L)
theorem recs_enc : ∀ (L : List (List Int)) (n : Nat) (acc : List (List Int)), Recs L → L.length < n → (encB L).length ≤ 100000 → acc.length + L.length ≤ 200000 → journal_records.l1 4000 n ⟨encB L, 0⟩ acc = some (acc ++ L, true) := by
  have hL : (1000000 : Nat) ≤ lim := by unfold lim; omega
  intro L
  induction L with
  | nil =>
    intro n acc h1 h2 h3 h4
    obtain ⟨n, rfl⟩ : ∃ q, n = q + 1 := ⟨n - 1, by omega⟩
    rw [journal_records.l1]
    simp [wire_Reader_Left, journal_records.j1, wire_Reader_End, encB_nil]
  | cons t L ih =>
    intro n acc h1 h2 h3 h4
    obtain ⟨n, rfl⟩ : ∃ q, n = q + 1 := ⟨n - 1, by omega⟩
    have ht := h1 t (by simp)
    have ht2 := ht.2
    have hr : Recs L := fun y hy => h1 y (by simp [hy])
    have hp := encT_pos t
    rw [encB_cons, List.length_append] at h3
    rw [List.length_cons] at h2 h4
    have hpos : decide ((((encT t ++ encB L).length : Nat) : Int) > 0) = true := decide_eq_true (by rw [List.length_append]; omega)
    rw [encB_cons, journal_records.l1]
    simp only [wire_Reader_Left, Option.bind_some, hpos, beq_self_eq_true, if_true, wire_Reader_End, Text_enc t (encB L) 60000 (by omega) (by omega) ht.1 (encB_byt hr) (by omega)]
    rw [if_pos (by simp; omega), ih n (acc ++ [t]) hr (by omega) (by omega) (by simp; omega), List.append_assoc]
    rfl
theorem encB_many : ∀ l : List (List Int), l.length ≤ (encB l).length := by
  intro l
  induction l with
  | nil => simp
  | cons t l ih => rw [encB_cons, List.length_append, List.length_cons]; have := encT_pos t; omega
theorem get_take {l : List Int} {n : Nat} {m : List Int} (h : l.take n = m) (i : Nat) (hi : i < n) : l[i]? = m[i]? := by
  rw [← h, List.getElem?_take, if_pos hi]
end Go.Proofs.Pure
end
section
namespace Go.Proofs.Pure
open Go Go.RowKit Go.Proofs.Kit
set_option linter.unusedVariables false
set_option linter.unusedSimpArgs false
def blk (s : List Int) (i : Nat) : List Int := fil ((s.take (256 * (i + 1))).drop (256 * i)) 256
theorem blk_len (s : List Int) (i : Nat) : (blk s i).length = 256 := by
  unfold blk
  refine fil_len ?_
  rw [List.length_drop, List.length_take]; omega
theorem blk_at (s : List Int) (i r : Nat) (hr : r < 256) (h : 256 * i + r < s.length) : (blk s i)[r]? = s[256 * i + r]? := by
  unfold blk fil
  rw [List.getElem?_append_left (by rw [List.length_drop, List.length_take]; omega), List.getElem?_drop, List.getElem?_take, if_pos (by omega)]
def wrs (base : Nat) (s : List Int) : Nat → Nat → List disk_write
  | _, 0 => []
  | i, t + 1 => ⟨((base + i : Nat) : Int), blk s i⟩ :: wrs base s (i + 1) t
theorem wrs_len (base : Nat) (s : List Int) : ∀ t i, (wrs base s i t).length = t := by
  intro t
  induction t with
  | zero => intro i; rfl
  | succ t ih => intro i; show (wrs base s (i + 1) t).length + 1 = t + 1; rw [ih]
theorem wrs_mem (base : Nat) (s : List Int) : ∀ t i w, w ∈ wrs base s i t → ∃ k, i ≤ k ∧ k < i + t ∧ w = ⟨((base + k : Nat) : Int), blk s k⟩ := by
  intro t
  induction t with
  | zero => intro i w hw; cases hw
  | succ t ih =>
    intro i w hw
    rcases List.mem_cons.1 hw with e | e
    · exact ⟨i, Nat.le_refl _, by omega, e⟩
    · obtain ⟨k, h1, h2, h3⟩ := ih (i + 1) w e
      exact ⟨k, by omega, by omega, h3⟩
def mkw (a : Nat) (n : Nat) : disk_write := ⟨0, fil (mk (a : Int) (n : Int)) 256⟩
theorem mkw_len (a n : Nat) : (mkw a n).data.length = 256 := fil_len (by rw [mk_len]; omega)
def firm1 (d : disk_Disk) (ws : List disk_write) : List (List Int) := sett (fun _ => 256) 0 (d.loose ++ ws) d.firm
def Story (d : disk_Disk) (ws : List disk_write) (M : disk_write) (c : Int) (d' : disk_Disk) : Prop :=
  (c = 7 ∧ ∃ m fu, d' = ⟨d.firm, d.loose ++ ws.take m, fu, true⟩) ∨
  (c = 7 ∧ ∃ fu, d' = ⟨firm1 d ws, [M], fu, true⟩) ∨
  (c = 0 ∧ ∃ fu, d' = ⟨sett (fun _ => 256) 0 [M] (firm1 d ws), [], fu, false⟩)
theorem ccut_eq (s : List Int) (i : Nat) (hi : 256 * i < s.length) (hs : s.length ≤ 140000) : journal_Journal_commit_1 4000 (i : Int) s = some (blk s i) := by
  unfold journal_Journal_commit_1
  have e1 : iadd .i64 (i : Int) 1 = ((i + 1 : Nat) : Int) := by rw [add64 (by omega)]; omega
  have e2 : imul .i64 ((i + 1 : Nat) : Int) 256 = ((256 * (i + 1) : Nat) : Int) := by rw [mul64 (by omega)]; omega
  have e3 : imul .i64 (i : Int) 256 = ((256 * i : Nat) : Int) := by rw [mul64 (by omega)]; omega
  rw [e1, e2, e3]
  by_cases c : s.length < 256 * (i + 1)
  · rw [if_pos (by omega), Option.bind_some, cut_ok ⟨by omega, by omega, by omega⟩, Option.bind_some, Int.toNat_natCast, Int.toNat_natCast, List.take_of_length_le (Nat.le_refl _)]
    have : blk s i = fil (s.drop (256 * i)) 256 := by unfold blk; rw [List.take_of_length_le (by omega)]
    rw [this, show journal_filled 4000 (s.drop (256 * i)) 256 = _ from filled_eq _ 256 (by rw [List.length_drop]; omega) (by omega)]; rfl
  · rw [if_neg (by omega), Option.bind_some, cut_ok ⟨by omega, by omega, by omega⟩, Option.bind_some, Int.toNat_natCast, Int.toNat_natCast]
    rw [show journal_filled 4000 ((s.take (256 * (i + 1))).drop (256 * i)) 256 = _ from filled_eq _ 256 (by rw [List.length_drop, List.length_take]; omega) (by omega)]; rfl
theorem iff7 (b : Bool) : ((if b then (7 : Int) else 0) != 0) = b := by cases b <;> rfl
theorem end_both {N : Nat} (hN : N ≤ 900) {d : disk_Disk} (h : Wf N d) (h3 : 1 ≤ d.firm.length) (hd : d.dead = false) (j : journal_Journal) (x : cabalref13_Journal) (a : Nat) (ha : a ≤ 1) (s : List Int) (hs : s.length ≤ 140000) (y7 : Int) (hy : y7 = 0) (n : Nat) (have_ : Int) :
    ∃ c d', journal_Journal_commit.j3 4000 (a : Int) s j 7 y7 (journal_Journal_commit.l1 4000 s j (a : Int) have_ (n + 1)) d.fuse d.dead d.firm d.loose = some (c, ⟨(), j.area, j.bytes, j.l⟩, d') ∧
      cabalref13_Journal_commit.j1 4000 x (a : Int) s d.fuse d.dead d.firm (d.loose.map (·.at_)) (d.loose.map (·.data)) = some (c, ⟨(), x.Area, x.L⟩, twin d') ∧
      Story d [] (mkw a s.length) c d' ∧ (d.fuse = -1 → c = 0 ∧ d'.fuse = -1) := by
  have hb := h.blocks
  obtain ⟨k1, k2, k3⟩ := mark_eq (a := (a : Int)) (n := (s.length : Int)) (by omega) (by omega)
  have f1 : journal_filled 4000 (mk (a : Int) (s.length : Int)) 256 = some (mkw a s.length).data := filled_eq _ 256 (by rw [mk_len]; omega) (by omega)
  have f2 : cabalref13_filled 4000 (mk (a : Int) (s.length : Int)) 256 = some (mkw a s.length).data := rfilled_eq _ 256 (by rw [mk_len]; omega) (by omega)
  obtain ⟨fu, de, ⟨s1, s2⟩, s3⟩ := sync_live (show N ≤ 1000 by omega) h hd
  have e1 : (⟨d.firm, d.loose, d.fuse, d.dead⟩ : disk_Disk) = d := rfl
  have e2 : (⟨d.firm, d.loose.map (·.at_), d.loose.map (·.data), d.fuse, d.dead⟩ : cabalref12_Disk) = twin d := rfl
  unfold journal_Journal_commit.j3 cabalref13_Journal_commit.j1
  rw [e1, e2, s1, s2]
  simp only [Option.bind_some, iff7]
  cases de with
  | true =>
    simp only [if_true, Bool.true_eq_false, beq_iff_eq, if_false, Option.bind_some, reduceCtorEq, journal_Journal_commit.j1]
    exact ⟨7, ⟨d.firm, d.loose, fu, true⟩, rfl, rfl, .inl ⟨rfl, 0, fu, by simp⟩, fun hf => by obtain ⟨_, q⟩ := s3 hf; cases q⟩
  | false =>
    simp only [Bool.false_eq_true, if_false, beq_self_eq_true, if_true, k1, k2, f1, f2, Option.bind_some]
    obtain ⟨w0, wl⟩ := settled_wf h fu false
    have hq : (0 : Int) ≤ 0 ∧ (0 : Int) < (settled d).length := by rw [wl]; omega
    obtain ⟨fu2, de2, ⟨t1, t2⟩, t3, t4⟩ := write_live (show 0 ≤ 1000 by omega) w0 (p := 0) (dat := (mkw a s.length).data) hq (mkw_len _ _) rfl
    have t1' : disk_Disk_Write 4000 ⟨settled d, [], fu, false⟩ 0 (mkw a s.length).data = some (if de2 then 7 else 0, ⟨settled d, [mkw a s.length], fu2, de2⟩) := t1
    have t2' : cabalref12_Disk_Write 4000 (twin ⟨settled d, [], fu, false⟩) 0 (mkw a s.length).data = some (if de2 then 7 else 0, twin ⟨settled d, [mkw a s.length], fu2, de2⟩) := t2
    rw [t1', t2']
    simp only [Option.bind_some, iff7, Bool.false_eq_true, if_false]
    have ef : firm1 d [] = settled d := by unfold firm1 settled; rw [List.append_nil]
    cases de2 with
    | true =>
      simp only [if_true, Bool.true_eq_false, beq_iff_eq, if_false, Option.bind_some, reduceCtorEq, journal_Journal_commit.j1]
      exact ⟨7, ⟨settled d, [mkw a s.length], fu2, true⟩, rfl, rfl, .inr (.inl ⟨rfl, fu2, by rw [ef]⟩), fun hf => by obtain ⟨q1, q2⟩ := s3 hf; obtain ⟨_, q⟩ := t4 q1; cases q⟩
    | false =>
      simp only [Bool.false_eq_true, if_false, beq_self_eq_true, if_true, Option.bind_some]
      obtain ⟨fu3, de3, ⟨u1, u2⟩, u3⟩ := sync_live (show 1 ≤ 1000 by omega) t3 rfl
      have u1' : disk_Disk_Sync 4000 ⟨settled d, [mkw a s.length], fu2, false⟩ = some (if de3 then 7 else 0, if de3 then ⟨settled d, [mkw a s.length], fu3, true⟩ else ⟨sett (fun _ => 256) 0 [mkw a s.length] (settled d), [], fu3, false⟩) := u1
      have u2' : cabalref12_Disk_Sync 4000 (twin ⟨settled d, [mkw a s.length], fu2, false⟩) = some (if de3 then 7 else 0, twin (if de3 then ⟨settled d, [mkw a s.length], fu3, true⟩ else ⟨sett (fun _ => 256) 0 [mkw a s.length] (settled d), [], fu3, false⟩)) := u2
      rw [u1', u2']
      simp only [Option.bind_some, iff7]
      cases de3 with
      | true =>
        simp only [if_true, journal_Journal_commit.j1]
        exact ⟨7, ⟨settled d, [mkw a s.length], fu3, true⟩, rfl, rfl, .inr (.inl ⟨rfl, fu3, by rw [ef]⟩), fun hf => by obtain ⟨q1, q2⟩ := s3 hf; obtain ⟨q3, q4⟩ := t4 q1; obtain ⟨_, q⟩ := u3 q3; cases q⟩
      | false =>
        have ey : iadd .i64 y7 1 = 1 := by rw [hy]; decide
        simp only [Bool.false_eq_true, if_false, journal_Journal_commit.j2, ey]
        rw [journal_Journal_commit.l1, if_neg (by decide), journal_Journal_commit.j1]
        exact ⟨0, ⟨sett (fun _ => 256) 0 [mkw a s.length] (settled d), [], fu3, false⟩, rfl, rfl, .inr (.inr ⟨rfl, fu3, by rw [ef]⟩), fun hf => by obtain ⟨q1, q2⟩ := s3 hf; obtain ⟨q3, q4⟩ := t4 q1; obtain ⟨q, _⟩ := u3 q3; exact ⟨rfl, q⟩⟩
theorem blk_min (s : List Int) (i e : Nat) (he : e = min (256 * (i + 1)) s.length) : blk s i = fil ((s.take e).drop (256 * i)) 256 := by
  unfold blk
  by_cases cc : s.length < 256 * (i + 1)
  · have y1 : s.take (256 * (i + 1)) = s := List.take_of_length_le (by omega)
    have y2 : s.take e = s := List.take_of_length_le (by omega)
    rw [y1, y2]
  · rw [show e = 256 * (i + 1) by omega]
theorem doc_block {d : disk_Disk} (hb : d.firm.length ≤ 1024) (h3 : 1 ≤ d.firm.length) (x : cabalref13_Journal) {a : Nat} (ha : a ≤ 1) (s : List Int) (hs : s.length ≤ 140000) (i : Nat) (hi : i ≤ 2000) (c1 : 256 * i < s.length) (g : Nat) :
    cabalref13_Journal_commit.l1 4000 s (a : Int) x (g + 1) ((256 * i : Nat) : Int) d.fuse d.dead d.firm (d.loose.map (·.at_)) (d.loose.map (·.data)) =
      (cabalref12_Disk_Write 4000 (twin d) ((bas d a + i : Nat) : Int) (blk s i)).bind fun x10 => if (x10.1 != (0 : Int)) = true then (some ((7 : Int), (⟨(), x.Area, x.L⟩ : cabalref13_Journal), x10.2)) else (cabalref13_Journal_commit.l1 4000 s (a : Int) x g (iadd .i64 ((256 * i : Nat) : Int) (256 : Int)) x10.2.Fuse x10.2.Dead x10.2.Firm x10.2.At x10.2.Data) := by
  have hlt : hlf d ≤ 512 := by unfold hlf; omega
  have e2 : (⟨d.firm, d.loose.map (·.at_), d.loose.map (·.data), d.fuse, d.dead⟩ : cabalref12_Disk) = twin d := rfl
  have j2e : ∀ e : Nat, e = min (256 * (i + 1)) s.length → ∀ L, cabalref13_Journal_commit.j2 4000 d.firm (d.loose.map (·.at_)) (d.loose.map (·.data)) d.fuse d.dead (a : Int) ((256 * i : Nat) : Int) s x L (e : Int) =
      (cabalref12_Disk_Write 4000 (twin d) ((bas d a + i : Nat) : Int) (blk s i)).bind fun x10 => if (x10.1 != (0 : Int)) = true then (some ((7 : Int), (⟨(), x.Area, x.L⟩ : cabalref13_Journal), x10.2)) else (L (iadd .i64 ((256 * i : Nat) : Int) (256 : Int)) x10.2.Fuse x10.2.Dead x10.2.Firm x10.2.At x10.2.Data) := fun e he L => by
    have eq : iquo .i64 ((256 * i : Nat) : Int) 256 = (i : Int) := by rw [quo64 (by omega) (by omega)]; omega
    have ec : cut? s ((256 * i : Nat) : Int) (e : Int) = some ((s.take e).drop (256 * i)) := cut_ok ⟨by omega, by omega, by omega⟩
    unfold cabalref13_Journal_commit.j2
    rw [e2, half_eq hb h3, Option.bind_some, Option.bind_some, eq, ec, Option.bind_some]
    rw [show cabalref13_filled 4000 ((s.take e).drop (256 * i)) 256 = _ from rfilled_eq _ 256 (by rw [List.length_drop, List.length_take]; omega) (by omega), Option.bind_some, ← blk_min s i e he]
    have epl : iadd .i64 (iadd .i64 1 (imul .i64 (a : Int) ((hlf d : Nat) : Int))) (i : Int) = ((bas d a + i : Nat) : Int) := plc ha hlt hi
    rw [epl]
  have ea : iadd .i64 ((256 * i : Nat) : Int) 256 = ((256 * (i + 1) : Nat) : Int) := by rw [add64 (by omega)]; omega
  rw [cabalref13_Journal_commit.l1, if_pos (decide_eq_true (by omega))]
  by_cases cc : s.length < 256 * (i + 1)
  · rw [ea, if_pos (decide_eq_true (by omega)), j2e s.length (by omega), ea]
  · rw [ea, if_neg (by simp; omega), j2e (256 * (i + 1)) (by omega), ea]
theorem loop_both (j : journal_Journal) (x : cabalref13_Journal) (a : Nat) (ha : a ≤ 1) (s : List Int) (hs : s.length ≤ 140000) (n : Nat) (have_ : Int) : ∀ (t i f g : Nat) (N : Nat) (d : disk_Disk), N + t ≤ 900 → Wf N d → 1 ≤ d.firm.length → d.dead = false → i ≤ 2000 → 256 * i + 256 * t < s.length + 256 → s.length ≤ 256 * i + 256 * t → s.length ≤ hlf d * 256 → t < f → t < g →
    ∃ c d', journal_Journal_commit.l2 4000 s j (a : Int) 7 0 (journal_Journal_commit.l1 4000 s j (a : Int) have_ (n + 1)) f (i : Int) d.fuse d.dead d.firm d.loose = some (c, ⟨(), j.area, j.bytes, j.l⟩, d') ∧
      cabalref13_Journal_commit.l1 4000 s (a : Int) x g ((256 * i : Nat) : Int) d.fuse d.dead d.firm (d.loose.map (·.at_)) (d.loose.map (·.data)) = some (c, ⟨(), x.Area, x.L⟩, twin d') ∧
      Story d (wrs (bas d a) s i t) (mkw a s.length) c d' ∧ (d.fuse = -1 → c = 0 ∧ d'.fuse = -1) := by
  intro t
  induction t with
  | zero =>
    intro i f g N d hN h h3 hd hi h1 h2 hh hf hg
    obtain ⟨f, rfl⟩ : ∃ q, f = q + 1 := ⟨f - 1, by omega⟩
    obtain ⟨g, rfl⟩ : ∃ q, g = q + 1 := ⟨g - 1, by omega⟩
    have e3 : imul .i64 (i : Int) 256 = ((256 * i : Nat) : Int) := by rw [mul64 (by omega)]; omega
    rw [journal_Journal_commit.l2, cabalref13_Journal_commit.l1, e3, if_neg (by simp; omega), if_neg (by simp; omega)]
    obtain ⟨c, d', r1, r2, r3, r4⟩ := end_both (show N ≤ 900 by omega) h h3 hd j x a ha s hs 0 rfl n have_
    exact ⟨c, d', r1, r2, r3, r4⟩
  | succ t ih =>
    intro i f g N d hN h h3 hd hi h1 h2 hh hf hg
    obtain ⟨f, rfl⟩ : ∃ q, f = q + 1 := ⟨f - 1, by omega⟩
    obtain ⟨g, rfl⟩ : ∃ q, g = q + 1 := ⟨g - 1, by omega⟩
    have hb := h.blocks
    have hlt : hlf d ≤ 512 := by unfold hlf; omega
    have hle := bas_le h3 ha
    have c1 : 256 * i < s.length := by omega
    have e3 : imul .i64 (i : Int) 256 = ((256 * i : Nat) : Int) := by rw [mul64 (by omega)]; omega
    have ep : journal_Journal_place 4000 ⟨(), j.area, j.bytes, j.l⟩ (a : Int) (i : Int) d = some ((bas d a + i : Nat) : Int) := place_eq hb h3 _ ha i hi
    have hp : (0 : Int) ≤ ((bas d a + i : Nat) : Int) ∧ ((bas d a + i : Nat) : Int) < d.firm.length := by omega
    obtain ⟨fu, de, ⟨t1, t2⟩, t3, t4⟩ := write_live (show N ≤ 1000 by omega) h (p := ((bas d a + i : Nat) : Int)) (dat := blk s i) hp (blk_len s i) hd
    have e1 : (⟨d.firm, d.loose, d.fuse, d.dead⟩ : disk_Disk) = d := rfl
    have e2 : (⟨d.firm, d.loose.map (·.at_), d.loose.map (·.data), d.fuse, d.dead⟩ : cabalref12_Disk) = twin d := rfl
    have el1 := doc_block hb h3 x ha s hs i hi c1 g
    have ea : iadd .i64 ((256 * i : Nat) : Int) 256 = ((256 * (i + 1) : Nat) : Int) := by rw [add64 (by omega)]; omega
    have hnext : iadd .i64 (i : Int) 1 = ((i + 1 : Nat) : Int) := by rw [add64 (by omega)]; omega
    rw [el1, journal_Journal_commit.l2, e3, if_pos (decide_eq_true (by omega)), e1, ep, Option.bind_some, ccut_eq s i c1 hs, Option.bind_some, t1, t2]
    simp only [Option.bind_some, iff7]
    cases de with
    | true =>
      simp only [if_true, journal_Journal_commit.j1]
      exact ⟨7, ⟨d.firm, d.loose ++ [⟨((bas d a + i : Nat) : Int), blk s i⟩], fu, true⟩, rfl, rfl, .inl ⟨rfl, 1, fu, rfl⟩, fun hf => by obtain ⟨_, q⟩ := t4 hf; cases q⟩
    | false =>
      simp only [Bool.false_eq_true, if_false, hnext, ea]
      have hbas : bas ⟨d.firm, d.loose ++ [⟨((bas d a + i : Nat) : Int), blk s i⟩], fu, false⟩ a = bas d a := rfl
      obtain ⟨c, d', r1, r2, r3, r4⟩ := ih (i + 1) f g (N + 1) ⟨d.firm, d.loose ++ [⟨((bas d a + i : Nat) : Int), blk s i⟩], fu, false⟩ (by omega) t3 h3 rfl (by omega) (by omega) (by omega) hh (by omega) (by omega)
      rw [hbas] at r3
      refine ⟨c, d', r1, r2, ?_, fun hf => r4 (t4 hf).1⟩
      rcases r3 with ⟨q1, m, fu2, q2⟩ | ⟨q1, fu2, q2⟩ | ⟨q1, fu2, q2⟩
      · exact .inl ⟨q1, m + 1, fu2, by rw [q2, List.append_assoc]; rfl⟩
      · refine .inr (.inl ⟨q1, fu2, ?_⟩)
        rw [q2]
        unfold firm1
        rw [List.append_assoc]; rfl
      · refine .inr (.inr ⟨q1, fu2, ?_⟩)
        rw [q2]
        unfold firm1
        rw [List.append_assoc]; rfl
theorem commit_both {N : Nat} {d : disk_Disk} (hN : d.dead = false → N ≤ 200) (h : Wf N d) (h3 : 1 ≤ d.firm.length) (j : journal_Journal) (x : cabalref13_Journal) (a : Nat) (ha : a ≤ 1) (s : List Int) (hv : Nat) (hvs : hv < s.length) (hs : s.length ≤ hlf d * 256) :
    ∃ c d', journal_Journal_commit 4000 j (a : Int) (hv : Int) s d = some (c, ⟨(), j.area, j.bytes, j.l⟩, d') ∧ cabalref13_Journal_commit 4000 x (a : Int) (hv : Int) s (twin d) = some (c, ⟨(), x.Area, x.L⟩, twin d') ∧
      ((d.dead = true ∧ c = 7 ∧ d' = d) ∨ (d.dead = false ∧ Story d (wrs (bas d a) s (hv / 256) ((s.length + 255) / 256 - hv / 256)) (mkw a s.length) c d' ∧ (d.fuse = -1 → c = 0 ∧ d'.fuse = -1))) := by
  have hb := h.blocks
  have hlt : hlf d ≤ 511 := by unfold hlf; omega
  have hle := bas_le h3 ha
  have q1 : iquo .i64 (hv : Int) 256 = ((hv / 256 : Nat) : Int) := by rw [quo64 (by omega) (by omega)]; omega
  have q2 : imul .i64 ((hv / 256 : Nat) : Int) 256 = ((256 * (hv / 256) : Nat) : Int) := by rw [mul64 (by omega)]; omega
  unfold journal_Journal_commit cabalref13_Journal_commit
  rw [show (4000 : Nat) = 3998 + 1 + 1 from rfl, journal_Journal_commit.l1, if_pos (by decide), q1, q2]
  cases hd : d.dead with
  | false =>
    obtain ⟨c, d', r1, r2, r3, r4⟩ := loop_both j x a ha s (by omega) 3998 (hv : Int) ((s.length + 255) / 256 - hv / 256) (hv / 256) 4000 4000 N d (by have := hN hd; omega) h h3 hd (by omega) (by omega) (by omega) hs (by omega) (by omega)
    rw [hd] at r1 r2
    exact ⟨c, d', r1, by rw [← r2]; show cabalref13_Journal_commit.l1 4000 s (a : Int) x 4000 _ d.fuse d.dead d.firm _ _ = _; rw [hd]; rfl, .inr ⟨rfl, r3, r4⟩⟩
  | true =>
    have c1 : 256 * (hv / 256) < s.length := by omega
    have e3 : imul .i64 ((hv / 256 : Nat) : Int) 256 = ((256 * (hv / 256) : Nat) : Int) := q2
    have ep : journal_Journal_place 4000 ⟨(), j.area, j.bytes, j.l⟩ (a : Int) ((hv / 256 : Nat) : Int) d = some ((bas d a + hv / 256 : Nat) : Int) := place_eq hb h3 _ ha _ (by omega)
    have hp : (0 : Int) ≤ ((bas d a + hv / 256 : Nat) : Int) ∧ ((bas d a + hv / 256 : Nat) : Int) < d.firm.length := by omega
    obtain ⟨t1, t2⟩ := write_dead (d := d) hp (blk_len s (hv / 256)) hd
    have e1 : (⟨d.firm, d.loose, d.fuse, true⟩ : disk_Disk) = d := by rw [← hd]
    have e2 : (⟨(twin d).Firm, (twin d).At, (twin d).Data, (twin d).Fuse, (twin d).Dead⟩ : cabalref12_Disk) = twin d := rfl
    refine ⟨7, d, ?_, ?_, .inl ⟨rfl, rfl, rfl⟩⟩
    · rw [show (3998 + 1 + 1 : Nat) = 3999 + 1 from rfl, journal_Journal_commit.l2, e3, if_pos (decide_eq_true (by omega)), e1]
      rw [show (3999 + 1 : Nat) = 4000 from rfl, ep, Option.bind_some, ccut_eq s _ c1 (by omega), Option.bind_some, t1]
      simp only [Option.bind_some]
      rw [if_pos (by decide), journal_Journal_commit.j1, hd, e1]
    · have el := doc_block hb h3 x ha s (by omega) (hv / 256) (by omega) c1 3999
      rw [t2] at el
      simp only [Option.bind_some] at el
      rw [if_pos (by decide)] at el
      rw [hd, show (3999 + 1 : Nat) = 4000 from rfl] at el
      rw [show (3998 + 1 + 1 : Nat) = 4000 from rfl]
      show cabalref13_Journal_commit.l1 4000 s (a : Int) x 4000 _ d.fuse d.dead d.firm _ _ = _
      rw [hd]
      exact el
end Go.Proofs.Pure
end
section
namespace Go.Proofs.Pure
open Go Go.RowKit Go.Proofs.Kit
set_option linter.unusedVariables false
set_option linter.unusedSimpArgs false
def still (f : List (List Int)) : disk_Disk := ⟨f, [], -1, false⟩
theorem rdB_still (f : List (List Int)) (q : Nat) : rdB (still f) q = f.getD q [] := rfl
theorem getD_set (f : List (List Int)) (i q : Nat) (v : List Int) (hi : i < f.length) : (f.set i v).getD q [] = if q = i then v else f.getD q [] := by
  rw [List.getD_eq_getElem?_getD, List.getElem?_set]
  by_cases e : i = q
  · subst e; rw [if_pos rfl, if_pos hi, if_pos rfl]; rfl
  · rw [if_neg e, if_neg (fun h => e h.symm), List.getD_eq_getElem?_getD]
def Torn (f f' : List (List Int)) (ws : List disk_write) (cs : Nat → Prop) : Prop := f'.length = f.length ∧ ∀ q : Nat, q < f.length → f'.getD q [] = f.getD q [] ∨ ∃ w ∈ ws, w.at_ = (q : Int) ∧ ∃ c, cs c ∧ f'.getD q [] = w.data.take c ++ (f.getD q []).drop c
def Once (ws : List disk_write) : Prop := (ws.map (·.at_)).Nodup
theorem sett_out (ns : Nat → Nat) : ∀ (ws : List disk_write) (i : Nat) (f : List (List Int)) (q : Nat), (∀ w ∈ ws, w.at_ ≠ (q : Int)) → (∀ w ∈ ws, 0 ≤ w.at_ ∧ w.at_ < f.length) → (sett ns i ws f).getD q [] = f.getD q [] := by
  intro ws
  induction ws with
  | nil => intro i f q _ _; rfl
  | cons w ws ih =>
    intro i f q h1 h2
    have hw := h2 w (by simp)
    have hn := h1 w (by simp)
    unfold sett
    rw [ih _ _ _ (fun v hv => h1 v (by simp [hv])) (fun v hv => by rw [List.length_set]; exact h2 v (by simp [hv])), getD_set _ _ _ _ (by omega), if_neg (by omega)]
theorem sett_len2 (ns : Nat → Nat) : ∀ (ws : List disk_write) (i : Nat) (f : List (List Int)), (sett ns i ws f).length = f.length := by
  intro ws
  induction ws with
  | nil => intro i f; rfl
  | cons w ws ih => intro i f; unfold sett; rw [ih, List.length_set]
theorem sett_torn (ns : Nat → Nat) (cs : Nat → Prop) (hc : ∀ i, cs (ns i)) : ∀ (ws : List disk_write) (i : Nat) (f : List (List Int)), Once ws → (∀ w ∈ ws, 0 ≤ w.at_ ∧ w.at_ < f.length) → Torn f (sett ns i ws f) ws cs := by
  intro ws
  induction ws with
  | nil => intro i f _ _; exact ⟨rfl, fun q _ => .inl rfl⟩
  | cons w ws ih =>
    intro i f ho hr
    refine ⟨sett_len2 ns _ i f, fun q hq => ?_⟩
    have hw := hr w (by simp)
    unfold Once at ho
    rw [List.map_cons] at ho
    obtain ⟨o1, o2⟩ := List.nodup_cons.1 ho
    unfold sett
    by_cases e : w.at_ = (q : Int)
    · refine .inr ⟨w, by simp, e, ns i, hc i, ?_⟩
      rw [sett_out _ _ _ _ _ (fun v hv hn => o1 (by rw [e, ← hn]; exact List.mem_map.2 ⟨v, hv, rfl⟩)) (fun v hv => by rw [List.length_set]; exact hr v (by simp [hv])), getD_set _ _ _ _ (by omega), if_pos (by omega), e]
      rfl
    · rcases (ih (i + 1) (f.set w.at_.toNat (w.data.take (ns i) ++ (f.getD w.at_.toNat []).drop (ns i))) o2 (fun v hv => by rw [List.length_set]; exact hr v (by simp [hv]))).2 q (by rw [List.length_set]; exact hq) with h | ⟨v, v1, v2, c, v3, v4⟩
      · left; rw [h, getD_set _ _ _ _ (by omega), if_neg (by omega)]
      · right
        refine ⟨v, by simp [v1], v2, c, v3, ?_⟩
        rw [v4, getD_set _ _ _ _ (by omega), if_neg (by omega)]
theorem sett_full (ws : List disk_write) (f : List (List Int)) (ho : Once ws) (hr : ∀ w ∈ ws, 0 ≤ w.at_ ∧ w.at_ < f.length ∧ w.data.length = 256) (hf : ∀ b ∈ f, b.length = 256) : ∀ w ∈ ws, (sett (fun _ => 256) 0 ws f).getD w.at_.toNat [] = w.data := by
  intro w hw
  have hw2 := hr w hw
  have ho' := ho
  have key : ∀ (ws : List disk_write) (i : Nat) (f : List (List Int)), Once ws → (∀ w ∈ ws, 0 ≤ w.at_ ∧ w.at_ < f.length ∧ w.data.length = 256) → (∀ b ∈ f, b.length = 256) → ∀ w ∈ ws, (sett (fun _ => 256) i ws f).getD w.at_.toNat [] = w.data := by
    intro ws
    induction ws with
    | nil => intro i f _ _ _ w hw; cases hw
    | cons v ws ih =>
      intro i f ho hr hf w hw
      unfold Once at ho
      rw [List.map_cons] at ho
      obtain ⟨o1, o2⟩ := List.nodup_cons.1 ho
      have hv := hr v (by simp)
      have hget : (f.getD v.at_.toNat []).length = 256 := by
        have hl : v.at_.toNat < f.length := by omega
        have e : f.getD v.at_.toNat [] = f[v.at_.toNat] := by simp [List.getD, hl]
        rw [e]; exact hf _ (List.getElem_mem hl)
      have hmix : v.data.take 256 ++ (f.getD v.at_.toNat []).drop 256 = v.data := by
        rw [List.take_of_length_le (by omega), List.drop_eq_nil_of_le (by omega), List.append_nil]
      unfold sett
      rcases List.mem_cons.1 hw with e | e
      · subst e
        rw [hmix, sett_out _ _ _ _ _ (fun u hu hn => o1 (by
          have : u.at_ = w.at_ := by omega
          rw [← this]; exact List.mem_map.2 ⟨u, hu, rfl⟩)) (fun u hu => by rw [List.length_set]; have := hr u (by simp [hu]); exact ⟨this.1, this.2.1⟩), getD_set _ _ _ _ (by omega), if_pos rfl]
      · refine ih (i + 1) _ o2 (fun u hu => by rw [List.length_set]; exact hr u (by simp [hu])) (fun b hb => ?_) w e
        rcases List.mem_or_eq_of_mem_set hb with q | q
        · exact hf b q
        · rw [q, hmix]; exact hv.2.2
  exact key ws 0 f ho hr hf w hw
theorem cat_at {N : Nat} {d : disk_Disk} (h : Wf N d) (base : Nat) : ∀ (m t : Nat), base + m ≤ d.firm.length → t < 256 * m → (cat d base m)[t]? = (rdB d (base + t / 256))[t % 256]? := by
  intro m
  induction m with
  | zero => intro t _ ht; omega
  | succ m ih =>
    intro t hm ht
    have hl := cat_len h base m (by omega)
    rw [cat_succ]
    by_cases c : t < 256 * m
    · rw [List.getElem?_append_left (by omega)]; exact ih t (by omega) c
    · rw [List.getElem?_append_right (by omega), hl, show t - 256 * m = t % 256 by omega, show t / 256 = m by omega]
theorem take_ext {l m : List Int} (n : Nat) (hl : n ≤ l.length) (hm : m.length = n) (h : ∀ t, t < n → l[t]? = m[t]?) : l.take n = m := by
  refine List.ext_getElem? (fun t => ?_)
  by_cases c : t < n
  · rw [List.getElem?_take, if_pos c]; exact h t c
  · rw [List.getElem?_eq_none (by rw [List.length_take]; omega), List.getElem?_eq_none (by omega)]
theorem wf_still {f : List (List Int)} (h1 : f.length ≤ 1024) (h2 : ∀ b ∈ f, b.length = 256) : Wf 0 (still f) := ⟨h1, h2, fun w hw => (by cases hw), Nat.zero_le _⟩
theorem wrs_once (base : Nat) (s : List Int) : ∀ t i, Once (wrs base s i t) := by
  intro t
  induction t with
  | zero => intro i; exact List.nodup_nil
  | succ t ih =>
    intro i
    show ((wrs base s i (t + 1)).map (·.at_)).Nodup
    refine List.nodup_cons.2 ⟨fun hm => ?_, ih (i + 1)⟩
    obtain ⟨w, h1, h2⟩ := List.mem_map.1 hm
    obtain ⟨k, k1, k2, k3⟩ := wrs_mem base s t (i + 1) w h1
    rw [k3] at h2
    have h2' : ((base + k : Nat) : Int) = ((base + i : Nat) : Int) := h2
    omega
theorem once_take {ws : List disk_write} (h : Once ws) (m : Nat) : Once (ws.take m) := by
  unfold Once
  rw [List.map_take]
  exact h.sublist (List.take_sublist m _)
structure Fm (f : List (List Int)) : Prop where
  three : 3 ≤ f.length
  few : f.length ≤ 1024
  size : ∀ b ∈ f, b.length = 256
theorem Fm.at {f : List (List Int)} (h : Fm f) {q : Nat} (hq : q < f.length) : (f.getD q []).length = 256 := by
  have e : f.getD q [] = f[q] := by simp [List.getD, hq]
  rw [e]; exact h.size _ (List.getElem_mem hq)
theorem Fm.wf {f : List (List Int)} (h : Fm f) : Wf 0 (still f) := wf_still h.few h.size
abbrev VF (f : List (List Int)) (a : Nat) (L : List (List Int)) : Prop := View (still f) a L
theorem cat_still (f : List (List Int)) (fu : Int) (de : Bool) (base : Nat) : ∀ m, cat ⟨f, [], fu, de⟩ base m = cat (still f) base m := by
  intro m
  induction m with
  | zero => rfl
  | succ m ih => rw [cat_succ, cat_succ, ih]; rfl
theorem View.still {d : disk_Disk} {a : Nat} {L : List (List Int)} (v : View d a L) (h : d.loose = []) : VF d.firm a L := by
  cases d with
  | mk firm loose fuse dead =>
    have h' : loose = [] := h
    subst h'
    have q := v.here
    rw [cat_still] at q
    exact ⟨v.blocks, v.area, v.recs, q⟩
theorem View.of {f : List (List Int)} {a : Nat} {L : List (List Int)} (v : VF f a L) (fu : Int) (de : Bool) : View ⟨f, [], fu, de⟩ a L := ⟨v.blocks, v.area, v.recs, by
  have q := v.here
  rw [← cat_still f fu de] at q
  exact q⟩
theorem keep_old {f f' : List (List Int)} (hf : Fm f) {a b : Nat} (hb : b ≤ 1) {L : List (List Int)} (v : VF f a L) {s : List Int} {i0 t : Nat} {ws : List disk_write} (hws : ∀ w ∈ ws, w ∈ wrs (bas (still f) b) s i0 t) (hi : i0 + t ≤ hlf (still f))
    (hs : a = b → (∀ u, u < (encB L).length → 256 * i0 ≤ u → u < s.length ∧ s[u]? = (encB L)[u]?)) {cs : Nat → Prop} (ht : Torn f f' ws cs) (hcs : ∀ c, cs c → c ≤ 256) (hf' : Fm f') : VF f' a L := by
  have hlen := ht.1
  have eh : hlf (still f') = hlf (still f) := by unfold hlf still; rw [show f'.length = f.length from hlen]
  have ebas : ∀ a, bas (still f') a = bas (still f) a := fun a => by unfold bas; rw [eh]
  have hle := bas_le (d := still f) (by show 1 ≤ f.length; have := hf.three; omega) hb
  have hla := bas_le (d := still f) (by show 1 ≤ f.length; have := hf.three; omega) v.area
  have hpos : 1 ≤ bas (still f) b := by unfold bas; omega
  have wat : ∀ w ∈ ws, ∃ k, i0 ≤ k ∧ k < i0 + t ∧ w.at_ = ((bas (still f) b + k : Nat) : Int) ∧ w.data = blk s k := fun w hw => by
    obtain ⟨k, k1, k2, k3⟩ := wrs_mem _ _ _ _ w (hws w hw)
    exact ⟨k, k1, k2, by rw [k3], by rw [k3]⟩
  have z0 : f'.getD 0 [] = f.getD 0 [] := by
    rcases ht.2 0 (by have := hf.three; omega) with h | ⟨w, w1, w2, _⟩
    · exact h
    · obtain ⟨k, _, _, k3, _⟩ := wat w w1
      rw [k3] at w2
      have : ((bas (still f) b + k : Nat) : Int) = ((0 : Nat) : Int) := w2
      omega
  have e64 : f64 (still f') = f64 (still f) := by unfold f64; rw [rdB_still, rdB_still, z0]
  refine ⟨by show 3 ≤ f'.length; rw [hlen]; exact hf.three, v.area, v.recs, ?_⟩
  rcases v.here with ⟨h1, h2, h3⟩ | ⟨h1, h2, h3, h4⟩
  · exact .inl ⟨by rw [e64]; exact h1, h2, h3⟩
  · refine .inr ⟨by rw [e64]; exact h1, by rw [e64]; exact h2, by rw [eh]; exact h3, ?_⟩
    rw [eh, ebas]
    have c' := cat_len hf'.wf (bas (still f) a) (hlf (still f)) (by show _ ≤ f'.length; rw [hlen]; exact hla)
    have c0 := cat_len hf.wf (bas (still f) a) (hlf (still f)) hla
    refine take_ext _ (by omega) rfl (fun u hu => ?_)
    have hold : (encB L)[u]? = (f.getD (bas (still f) a + u / 256) [])[u % 256]? := by
      rw [← rdB_still, ← cat_at hf.wf _ (hlf (still f)) u hla (by omega)]
      conv => lhs; rw [← h4]
      rw [List.getElem?_take, if_pos hu]
    rw [cat_at hf'.wf _ _ u (by show _ ≤ f'.length; rw [hlen]; exact hla) (by omega), rdB_still]
    have hq : bas (still f) a + u / 256 < f.length := by
      have : bas (still f) a + hlf (still f) ≤ f.length := hla
      omega
    rcases ht.2 (bas (still f) a + u / 256) hq with h | ⟨w, w1, w2, c, w3, w4⟩
    · rw [h, hold]
    · obtain ⟨k, k1, k2, k3, k4⟩ := wat w w1
      have hk : bas (still f) b + k = bas (still f) a + u / 256 := by
        rw [k3] at w2
        have : ((bas (still f) b + k : Nat) : Int) = ((bas (still f) a + u / 256 : Nat) : Int) := w2
        omega
      have hab : a = b := by
        have ha := v.area
        unfold bas at hk
        have hu2 : u / 256 < hlf (still f) := by omega
        rcases (show a = 0 ∨ a = 1 by omega) with e | e <;> rcases (show b = 0 ∨ b = 1 by omega) with e2 | e2 <;> subst e <;> subst e2
        · rfl
        · omega
        · omega
        · rfl
      subst hab
      have ek : k = u / 256 := by omega
      have hs2 := hs rfl u hu (by omega)
      have hc := hcs c w3
      have hl256 := hf.at hq
      have hbl := blk_len s k
      rw [w4, k4]
      by_cases cc : u % 256 < c
      · rw [List.getElem?_append_left (by rw [List.length_take]; omega), List.getElem?_take, if_pos cc, blk_at s k (u % 256) (by omega) (by omega), show 256 * k + u % 256 = u by omega]
        exact hs2.2
      · rw [List.getElem?_append_right (by rw [List.length_take]; omega), List.length_take, Nat.min_eq_left (by omega), List.getElem?_drop, show c + (u % 256 - c) = u % 256 by omega]
        exact hold.symm
theorem wrs_has (base : Nat) (s : List Int) : ∀ t i k, i ≤ k → k < i + t → (⟨((base + k : Nat) : Int), blk s k⟩ : disk_write) ∈ wrs base s i t := by
  intro t
  induction t with
  | zero => intro i k h1 h2; omega
  | succ t ih =>
    intro i k h1 h2
    by_cases e : k = i
    · subst e; exact .head _
    · exact .tail _ (ih (i + 1) k (by omega) (by omega))
theorem new_view {f f1 f' : List (List Int)} (hf : Fm f) {b : Nat} (hb : b ≤ 1) {s : List Int} {i0 : Nat} {L' : List (List Int)} (hs : s = encB L') (hr : Recs L') (hlen : s.length ≤ hlf (still f) * 256) (hi0 : i0 ≤ (s.length + 255) / 256)
    (e1 : f1 = sett (fun _ => 256) 0 (wrs (bas (still f) b) s i0 ((s.length + 255) / 256 - i0)) f)
    (hold : ∀ u, u < 256 * i0 → u < s.length → (f.getD (bas (still f) b + u / 256) [])[u % 256]? = s[u]?)
    {c : Nat} (hc : 64 ≤ c ∧ c ≤ 256) (e2 : f' = f1.set 0 ((mkw b s.length).data.take c ++ (f1.getD 0 []).drop c)) : VF f' b L' := by
  have h3 := hf.three
  have hle := bas_le (d := still f) (by show 1 ≤ f.length; omega) hb
  have hpos : 1 ≤ bas (still f) b := by unfold bas; omega
  have hlt : hlf (still f) ≤ 512 := by unfold hlf; show (f.length - 1) / 2 ≤ 512; have := hf.few; omega
  have hrng : ∀ w ∈ wrs (bas (still f) b) s i0 ((s.length + 255) / 256 - i0), 0 ≤ w.at_ ∧ w.at_ < f.length ∧ w.data.length = 256 := fun w hw => by
    obtain ⟨k, k1, k2, k3⟩ := wrs_mem _ _ _ _ w hw
    have hle' : bas (still f) b + hlf (still f) ≤ f.length := hle
    rw [k3]
    refine ⟨by show (0 : Int) ≤ ((bas (still f) b + k : Nat) : Int); omega, by show ((bas (still f) b + k : Nat) : Int) < (f.length : Int); omega, blk_len s k⟩
  have l1 : f1.length = f.length := by rw [e1]; exact sett_len2 _ _ _ _
  have b1 := sett_blk (n := f.length) (fun _ => 256) (fun _ => Nat.le_refl _) _ 0 f hrng ⟨rfl, hf.size⟩
  rw [← e1] at b1
  have hf1 : Fm f1 := ⟨by omega, by have := hf.few; omega, b1.2⟩
  have l' : f'.length = f.length := by rw [e2, List.length_set]; exact l1
  have mlen : ((mkw b s.length).data.take c ++ (f1.getD 0 []).drop c).length = 256 := by
    rw [List.length_append, List.length_take, List.length_drop, mkw_len, hf1.at (by omega)]; omega
  have hf' : Fm f' := ⟨by omega, by have := hf.few; omega, fun x hx => by
    rw [e2] at hx
    rcases List.mem_or_eq_of_mem_set hx with q | q
    · exact hf1.size x q
    · rw [q]; exact mlen⟩
  have eh : hlf (still f') = hlf (still f) := by unfold hlf still; rw [show f'.length = f.length from l']
  have ebas : bas (still f') b = bas (still f) b := by unfold bas; rw [eh]
  have g0 : f'.getD 0 [] = (mkw b s.length).data.take c ++ (f1.getD 0 []).drop c := by rw [e2, getD_set _ _ _ _ (by omega), if_pos rfl]
  have e64 : f64 (still f') = mk (b : Int) (s.length : Int) := by
    unfold f64
    rw [rdB_still, g0, List.take_append_of_le_length (by rw [List.length_take, mkw_len]; omega), List.take_take, Nat.min_eq_left (by omega)]
    show (fil (mk (b : Int) (s.length : Int)) 256).take 64 = _
    unfold fil
    rw [List.take_append_of_le_length (by rw [mk_len]; omega), List.take_of_length_le (by rw [mk_len]; omega)]
  have nz : mk (b : Int) (s.length : Int) ≠ Z64 := fun e => by
    have h1 := mk_take (b : Int) (s.length : Int)
    rw [e] at h1
    have := congrArg (fun l => l.getD 0 0) h1
    revert this
    show ¬ ((0 : Int) = 109)
    omega
  refine ⟨by show 3 ≤ f'.length; omega, hb, hr, .inr ⟨by rw [e64]; exact nz, by rw [e64, hs], by rw [eh, ← hs]; exact hlen, ?_⟩⟩
  rw [eh, ebas, ← hs]
  have hle2 : bas (still f) b + hlf (still f) ≤ (still f').firm.length := by show _ ≤ f'.length; rw [l']; exact hle
  have c' := cat_len hf'.wf (bas (still f) b) (hlf (still f)) hle2
  refine take_ext _ (by omega) rfl (fun u hu => ?_)
  rw [cat_at hf'.wf _ _ u hle2 (by omega), rdB_still, e2, getD_set _ _ _ _ (by omega), if_neg (by omega)]
  by_cases cu : u < 256 * i0
  · have hout : f1.getD (bas (still f) b + u / 256) [] = f.getD (bas (still f) b + u / 256) [] := by
      rw [e1]
      refine sett_out _ _ _ _ _ (fun w hw hn => ?_) (fun w hw => ⟨(hrng w hw).1, (hrng w hw).2.1⟩)
      obtain ⟨k, k1, k2, k3⟩ := wrs_mem _ _ _ _ w hw
      rw [k3] at hn
      have : ((bas (still f) b + k : Nat) : Int) = ((bas (still f) b + u / 256 : Nat) : Int) := hn
      omega
    rw [hout]
    exact hold u cu hu
  · have hw := wrs_has (bas (still f) b) s ((s.length + 255) / 256 - i0) i0 (u / 256) (by omega) (by omega)
    have := sett_full _ f (wrs_once _ _ _ _) hrng hf.size _ hw
    rw [← e1] at this
    have e : ((bas (still f) b + u / 256 : Nat) : Int).toNat = bas (still f) b + u / 256 := Int.toNat_natCast _
    rw [show (⟨((bas (still f) b + u / 256 : Nat) : Int), blk s (u / 256)⟩ : disk_write).at_.toNat = bas (still f) b + u / 256 from e] at this
    rw [this]
    show (blk s (u / 256))[u % 256]? = _
    rw [blk_at s _ _ (by omega) (by omega), show 256 * (u / 256) + u % 256 = u by omega]
end Go.Proofs.Pure
end
section
namespace Go.Proofs.Pure
open Go Go.RowKit Go.Proofs.Kit
set_option linter.unusedVariables false
set_option linter.unusedSimpArgs false
structure Live (d : disk_Disk) (a : Nat) (L : List (List Int)) : Prop where
  wf : Wf 0 d
  db : DB d
  alive : d.dead = false
  calm : d.loose = []
  view : View d a L
structure Gone (d : disk_Disk) : Prop where
  wf : Wf 600 d
  db : DB d
  dead : d.dead = true
  three : 3 ≤ d.firm.length
  safe : ∀ keep : List Int, ∃ a L, VF (sett (keepN keep) 0 d.loose d.firm) a L
theorem Live.fm {d : disk_Disk} {a : Nat} {L : List (List Int)} (h : Live d a L) : Fm d.firm := ⟨h.view.blocks, h.wf.blocks, h.wf.size⟩
theorem Live.room {d : disk_Disk} {a : Nat} {L : List (List Int)} (h : Live d a L) : (encB L).length ≤ hlf d * 256 := by
  rcases h.view.here with ⟨_, _, e⟩ | ⟨_, _, e, _⟩
  · rw [e]; simp [encB]
  · exact e
theorem fil_byt {s : List Int} (h : Byt s) (n : Nat) : Byt (fil s n) := fun x hx => by
  unfold fil at hx
  rcases List.mem_append.1 hx with q | q
  · exact h x q
  · rw [List.eq_of_mem_replicate q]; omega
theorem blk_byt {s : List Int} (h : Byt s) (i : Nat) : Byt (blk s i) := fil_byt (fun x hx => h x (List.mem_of_mem_take (List.mem_of_mem_drop hx))) 256
theorem mkw_byt {a n : Nat} (ha : a ≤ 1) (hn : n ≤ 140000) : Byt (mkw a n).data := fil_byt (mark_eq (a := (a : Int)) (n := (n : Int)) (by omega) (by omega)).2.2 256
theorem sett_byt (ns : Nat → Nat) : ∀ (ws : List disk_write) (i : Nat) (f : List (List Int)), (∀ w ∈ ws, Byt w.data) → (∀ b ∈ f, Byt b) → ∀ b ∈ sett ns i ws f, Byt b := by
  intro ws
  induction ws with
  | nil => intro i f _ hf b hb; exact hf b hb
  | cons w ws ih =>
    intro i f hw hf b hb
    unfold sett at hb
    refine ih (i + 1) _ (fun v hv => hw v (by simp [hv])) (fun c hc => ?_) b hb
    rcases List.mem_or_eq_of_mem_set hc with q | q
    · exact hf c q
    · rw [q]
      intro x hx
      rcases List.mem_append.1 hx with r | r
      · exact hw w (by simp) x (List.mem_of_mem_take r)
      · have r2 := List.mem_of_mem_drop r
        by_cases hl : w.at_.toNat < f.length
        · have e : f.getD w.at_.toNat [] = f[w.at_.toNat] := by simp [List.getD, hl]
          rw [e] at r2
          exact hf _ (List.getElem_mem hl) x r2
        · have e : f.getD w.at_.toNat [] = [] := by simp [List.getD, Nat.not_lt.1 hl]
          rw [e] at r2; cases r2
theorem view_hold {f : List (List Int)} (hf : Fm f) {a : Nat} {L : List (List Int)} (v : VF f a L) (u : Nat) (hu : u < (encB L).length) : (f.getD (bas (still f) a + u / 256) [])[u % 256]? = (encB L)[u]? := by
  have hla := bas_le (d := still f) (by show 1 ≤ f.length; have := hf.three; omega) v.area
  rcases v.here with ⟨_, _, h3⟩ | ⟨_, _, h3, h4⟩
  · rw [h3] at hu; simp [encB] at hu
  · rw [← rdB_still, ← cat_at hf.wf _ (hlf (still f)) u hla (by omega)]
    conv => rhs; rw [← h4]
    rw [List.getElem?_take, if_pos hu]
theorem commit_live {d : disk_Disk} {a : Nat} {L : List (List Int)} (hl : Live d a L) (j : journal_Journal) (x : cabalref13_Journal) {b : Nat} (hb : b ≤ 1) {L' : List (List Int)} (hr : Recs L') {hv : Nat} (hvs : hv < (encB L').length) (hs : (encB L').length ≤ hlf d * 256)
    (hc : (b = a ∧ hv = (encB L).length ∧ ∃ more, L' = L ++ more) ∨ (b ≠ a ∧ hv = 0)) :
    ∃ c d', journal_Journal_commit 4000 j (b : Int) (hv : Int) (encB L') d = some (c, ⟨(), j.area, j.bytes, j.l⟩, d') ∧ cabalref13_Journal_commit 4000 x (b : Int) (hv : Int) (encB L') (twin d) = some (c, ⟨(), x.Area, x.L⟩, twin d') ∧
      ((c = 0 ∧ Live d' b L') ∨ (c = 7 ∧ Gone d')) ∧ d'.firm.length = d.firm.length ∧ (d.fuse = -1 → c = 0 ∧ d'.fuse = -1) := by
  have hf := hl.fm
  have v0 := hl.view.still hl.calm
  have h3 := hf.three
  have hlt : hlf d ≤ 511 := by unfold hlf; have := hf.few; omega
  obtain ⟨c, d', r1, r2, r3⟩ := commit_both (N := 0) (fun _ => by omega) hl.wf (by omega) j x b hb (encB L') hv hvs hs
  rcases r3 with ⟨q, _⟩ | ⟨_, st, r4⟩
  · rw [hl.alive] at q; cases q
  · refine ⟨c, d', r1, r2, ?_⟩
    have ebas : bas d b = bas (still d.firm) b := rfl
    have ehlf : hlf d = hlf (still d.firm) := rfl
    rw [ebas] at st
    have hle := bas_le (d := still d.firm) (by show 1 ≤ d.firm.length; omega) hb
    have hle' : bas (still d.firm) b + hlf (still d.firm) ≤ d.firm.length := hle
    have sbyt := encB_byt hr
    have hrng : ∀ w ∈ wrs (bas (still d.firm) b) (encB L') (hv / 256) (((encB L').length + 255) / 256 - hv / 256), 0 ≤ w.at_ ∧ w.at_ < d.firm.length ∧ w.data.length = 256 := fun w hw => by
      obtain ⟨k, k1, k2, k3⟩ := wrs_mem _ _ _ _ w hw
      rw [k3]
      refine ⟨by show (0 : Int) ≤ ((bas (still d.firm) b + k : Nat) : Int); omega, by show ((bas (still d.firm) b + k : Nat) : Int) < (d.firm.length : Int); omega, blk_len _ k⟩
    have hbyt : ∀ w ∈ wrs (bas (still d.firm) b) (encB L') (hv / 256) (((encB L').length + 255) / 256 - hv / 256), Byt w.data := fun w hw => by
      obtain ⟨k, k1, k2, k3⟩ := wrs_mem _ _ _ _ w hw
      rw [k3]; exact blk_byt sbyt k
    have hlen := wrs_len (bas (still d.firm) b) (encB L') (((encB L').length + 255) / 256 - hv / 256) (hv / 256)
    have honce := wrs_once (bas (still d.firm) b) (encB L') (((encB L').length + 255) / 256 - hv / 256) (hv / 256)
    generalize hws : wrs (bas (still d.firm) b) (encB L') (hv / 256) (((encB L').length + 255) / 256 - hv / 256) = ws at *
    have sold : a = b → ∀ u, u < (encB L).length → 256 * (hv / 256) ≤ u → u < (encB L').length ∧ (encB L')[u]? = (encB L)[u]? := fun hab u hu _ => by
      rcases hc with ⟨_, _, more, e⟩ | ⟨e, _⟩
      · rw [e, encB_append, List.length_append]
        exact ⟨by omega, by rw [List.getElem?_append_left hu]⟩
      · exact absurd hab.symm e
    have oldv : ∀ (m : Nat) (ns : Nat → Nat), (∀ i, ns i ≤ 256) → VF (sett ns 0 (ws.take m) d.firm) a L := fun m ns hns => by
      have tr := sett_torn ns (fun c => c ≤ 256) hns (ws.take m) 0 d.firm (once_take honce m) (fun w hw => by have := hrng w (List.mem_of_mem_take hw); exact ⟨this.1, this.2.1⟩)
      have bl := sett_blk (n := d.firm.length) ns hns (ws.take m) 0 d.firm (fun w hw => hrng w (List.mem_of_mem_take hw)) ⟨rfl, hf.size⟩
      exact keep_old hf hb v0 (fun w hw => by rw [hws]; exact List.mem_of_mem_take hw) (show hv / 256 + (((encB L').length + 255) / 256 - hv / 256) ≤ hlf (still d.firm) by omega) sold tr (fun c h => h) ⟨by rw [bl.1]; exact h3, by rw [bl.1]; exact hf.few, bl.2⟩
    have f1e : firm1 d ws = sett (fun _ => 256) 0 ws d.firm := by unfold firm1; rw [hl.calm]; rfl
    have f1b := sett_blk (n := d.firm.length) (fun _ => 256) (fun _ => Nat.le_refl _) ws 0 d.firm hrng ⟨rfl, hf.size⟩
    have f1y := sett_byt (fun _ => 256) ws 0 d.firm hbyt hl.db.firm
    have newv : ∀ c, 64 ≤ c ∧ c ≤ 256 → VF ((sett (fun _ => 256) 0 ws d.firm).set 0 ((mkw b (encB L').length).data.take c ++ ((sett (fun _ => 256) 0 ws d.firm).getD 0 []).drop c)) b L' := fun c hc2 => by
      refine new_view hf hb rfl hr (by rw [← ehlf]; exact hs) (show hv / 256 ≤ ((encB L').length + 255) / 256 by omega) (by rw [hws]) (fun u hu hu2 => ?_) hc2 rfl
      rcases hc with ⟨e1, e2, more, e⟩ | ⟨_, e2⟩
      · subst e1
        have hu3 : u < (encB L).length := by omega
        rw [view_hold hf v0 u hu3, e, encB_append, List.getElem?_append_left hu3]
      · omega
    have mby : Byt (mkw b (encB L').length).data := mkw_byt hb (by omega)
    rcases st with ⟨c7, m, fu, e⟩ | ⟨c7, fu, e⟩ | ⟨c0, fu, e⟩
    · rw [hl.calm, List.nil_append] at e
      refine ⟨.inr ⟨c7, ?_⟩, by rw [e], r4⟩
      rw [e]
      exact ⟨⟨hl.wf.blocks, hl.wf.size, fun w hw => hrng w (List.mem_of_mem_take hw), by show (ws.take m).length ≤ 600; rw [List.length_take]; omega⟩, ⟨hl.db.firm, fun w hw => hbyt w (List.mem_of_mem_take hw)⟩, rfl, h3, fun keep => ⟨a, L, oldv m (keepN keep) (keepN_le keep)⟩⟩
    · rw [f1e] at e
      refine ⟨.inr ⟨c7, ?_⟩, by rw [e]; exact f1b.1, r4⟩
      rw [e]
      refine ⟨⟨by show (sett _ 0 ws d.firm).length ≤ 1024; rw [f1b.1]; exact hf.few, f1b.2, fun w hw => ?_, by show 1 ≤ 600; omega⟩, ⟨f1y, fun w hw => ?_⟩, rfl, by show 3 ≤ (sett _ 0 ws d.firm).length; rw [f1b.1]; exact h3, fun keep => ?_⟩
      · rw [List.mem_singleton.1 hw]
        exact ⟨by show (0 : Int) ≤ 0; omega, by show (0 : Int) < ((sett _ 0 ws d.firm).length : Int); rw [f1b.1]; omega, mkw_len _ _⟩
      · rw [List.mem_singleton.1 hw]; exact mby
      · show ∃ a L, VF ((sett (fun _ => 256) 0 ws d.firm).set 0 ((mkw b (encB L').length).data.take (keepN keep 0) ++ ((sett (fun _ => 256) 0 ws d.firm).getD 0 []).drop (keepN keep 0))) a L
        by_cases k0 : keepN keep 0 = 0
        · rw [k0, List.take_zero, List.nil_append, List.drop_zero, set_getD]
          have := oldv ws.length (fun _ => 256) (fun _ => Nat.le_refl _)
          rw [List.take_of_length_le (Nat.le_refl _)] at this
          exact ⟨a, L, this⟩
        · have hk := keepN_le keep 0
          have k64 : 64 ≤ keepN keep 0 := by
            unfold keepN at k0 ⊢
            split at k0
            · rename_i h; rw [if_pos h]; omega
            · exact absurd rfl k0
          exact ⟨b, L', newv (keepN keep 0) ⟨k64, hk⟩⟩
    · rw [f1e] at e
      have nv := newv 256 ⟨by omega, by omega⟩
      have mrng : ∀ w ∈ [mkw b (encB L').length], 0 ≤ w.at_ ∧ w.at_ < (sett (fun _ => 256) 0 ws d.firm).length ∧ w.data.length = 256 := fun w hw => by
        rw [List.mem_singleton.1 hw]
        exact ⟨by show (0 : Int) ≤ 0; omega, by show (0 : Int) < ((sett _ 0 ws d.firm).length : Int); rw [f1b.1]; omega, mkw_len _ _⟩
      have bl := sett_blk (n := (sett (fun _ => 256) 0 ws d.firm).length) (fun _ => 256) (fun _ => Nat.le_refl _) [mkw b (encB L').length] 0 (sett (fun _ => 256) 0 ws d.firm) mrng ⟨rfl, f1b.2⟩
      have by2 := sett_byt (fun _ => 256) [mkw b (encB L').length] 0 (sett (fun _ => 256) 0 ws d.firm) (fun w hw => by rw [List.mem_singleton.1 hw]; exact mby) f1y
      refine ⟨.inl ⟨c0, ?_⟩, by rw [e]; exact bl.1.trans f1b.1, r4⟩
      rw [e]
      refine ⟨⟨?_, bl.2, fun w hw => (by cases hw), Nat.zero_le _⟩, ⟨by2, fun w hw => (by cases hw)⟩, rfl, rfl, nv.of fu false⟩
      show (sett _ 0 _ (sett _ 0 ws d.firm)).length ≤ 1024
      rw [bl.1, f1b.1]; exact hf.few
end Go.Proofs.Pure
end
section
namespace Go.Proofs.Pure
open Go Go.RowKit Go.Proofs.Kit
set_option linter.unusedVariables false
set_option linter.unusedSimpArgs false
theorem bytes_eq (l : List (List Int)) (hl : l.length ≤ 3000) (hs : ∀ t ∈ l, t.length ≤ 5000) : cabalref13_Bytes 4000 l = some (encB l) := by
  have hL : lim = 2147483648 := rfl
  have blen : ∀ i, (encB (l.take i)).length ≤ 5010 * i := by
    intro i
    induction i with
    | zero => simp [encB]
    | succ i ih =>
      by_cases c : i < l.length
      · have ht := hs _ (List.getElem_mem c)
        rw [List.take_succ_eq_append_getElem c, encB_append, List.length_append]
        have : (encB [l[i]]).length ≤ 5010 := by
          show (encT l[i] ++ []).length ≤ _
          rw [List.append_nil]
          unfold encT
          have := enc_len (l[i].length : Int)
          rw [List.length_append]; omega
        omega
      · rw [List.take_of_length_le (by omega)] at ih ⊢; omega
  have key : ∀ (m i n : Nat), i + m = l.length → m < n → cabalref13_Bytes.l1 4000 l n (encB (l.take i)) (i : Int) = some (encB l) := by
    intro m
    induction m with
    | zero =>
      intro i n hi hm
      obtain ⟨n, rfl⟩ : ∃ q, n = q + 1 := ⟨n - 1, by omega⟩
      rw [cabalref13_Bytes.l1, if_neg (by simp; omega), cabalref13_Bytes.j1, List.take_of_length_le (by omega)]
    | succ m ih =>
      intro i n hi hm
      obtain ⟨n, rfl⟩ : ∃ q, n = q + 1 := ⟨n - 1, by omega⟩
      have c : i < l.length := by omega
      have hnext : iadd .i64 (i : Int) 1 = ((i + 1 : Nat) : Int) := by rw [add64 (by omega)]; omega
      have ht := hs _ (List.getElem_mem c)
      have b1 := blen (i + 1)
      have e : encB (l.take (i + 1)) = encB (l.take i) ++ encT l[i] := by
        rw [List.take_succ_eq_append_getElem c, encB_append]
        show _ ++ (encT l[i] ++ []) = _
        rw [List.append_nil]
      rw [e, List.length_append] at b1
      rw [cabalref13_Bytes.l1, if_pos (decide_eq_true (by omega)), at_get c, Option.bind_some, ref_text 4000 l[i] ht (by omega), Option.bind_some, if_pos (by omega), hnext, ← e]
      exact ih (i + 1) n (by omega) (by omega)
  have := key l.length 0 4000 (by omega) (by omega)
  rw [show ((0 : Nat) : Int) = 0 from rfl, List.take_zero] at this
  exact this
theorem texts_enc (l : List (List Int)) (hl : l.length < 1000) (hs : ∀ t ∈ l, t.length ≤ 5000) : wire_Writer_Texts 4000 ⟨[]⟩ l = some ⟨encB l⟩ := by
  have hL : lim = 2147483648 := rfl
  rw [texts_eq 4000 ⟨[]⟩ l hl hs (by omega) (by omega) (by show 0 + 6000 * l.length + 10 ≤ lim; omega)]
  show some (⟨[] ++ l.flatMap encT⟩ : wire_Writer) = _
  rw [List.nil_append, List.flatMap_def]; rfl
theorem none_long (l : List (List Int)) (hl : l.length < 3000) (hs : ∀ t ∈ l, t.length ≤ 60000) : slices_ContainsFunc_string_string_journal_Journal_Append_1 4000 l = some false ∧ cabalref13_long 4000 l = some false := by
  constructor
  · have key : ∀ (m i n : Nat), i + m = l.length → m < n → slices_IndexFunc_string_string_journal_Journal_Append_1.l1 4000 l n (i : Int) = some (-1) := by
      intro m
      induction m with
      | zero =>
        intro i n hi hm
        obtain ⟨n, rfl⟩ : ∃ q, n = q + 1 := ⟨n - 1, by omega⟩
        rw [slices_IndexFunc_string_string_journal_Journal_Append_1.l1, if_neg (by simp; omega)]; rfl
      | succ m ih =>
        intro i n hi hm
        obtain ⟨n, rfl⟩ : ∃ q, n = q + 1 := ⟨n - 1, by omega⟩
        have c : i < l.length := by omega
        have hnext : iadd .i64 (i : Int) 1 = ((i + 1 : Nat) : Int) := by rw [add64 (by omega)]; omega
        have ht := hs _ (List.getElem_mem c)
        rw [slices_IndexFunc_string_string_journal_Journal_Append_1.l1, if_pos (decide_eq_true (by omega)), at_get c, Option.bind_some]
        unfold journal_Journal_Append_1
        rw [Option.bind_some, if_neg (by simp; omega), hnext]
        exact ih (i + 1) n (by omega) (by omega)
    have := key l.length 0 4000 (by omega) (by omega)
    rw [show ((0 : Nat) : Int) = 0 from rfl] at this
    unfold slices_ContainsFunc_string_string_journal_Journal_Append_1 slices_IndexFunc_string_string_journal_Journal_Append_1
    rw [this]; rfl
  · have key : ∀ (m i n : Nat), i + m = l.length → m < n → cabalref13_long.l1 4000 l n (i : Int) = some false := by
      intro m
      induction m with
      | zero =>
        intro i n hi hm
        obtain ⟨n, rfl⟩ : ∃ q, n = q + 1 := ⟨n - 1, by omega⟩
        rw [cabalref13_long.l1, if_neg (by simp; omega)]; rfl
      | succ m ih =>
        intro i n hi hm
        obtain ⟨n, rfl⟩ : ∃ q, n = q + 1 := ⟨n - 1, by omega⟩
        have c : i < l.length := by omega
        have hnext : iadd .i64 (i : Int) 1 = ((i + 1 : Nat) : Int) := by rw [add64 (by omega)]; omega
        have ht := hs _ (List.getElem_mem c)
        rw [cabalref13_long.l1, if_pos (decide_eq_true (by omega)), at_get c, Option.bind_some, if_neg (by simp; omega), hnext]
        exact ih (i + 1) n (by omega) (by omega)
    have := key l.length 0 4000 (by omega) (by omega)
    rw [show ((0 : Nat) : Int) = 0 from rfl] at this
    exact this
structure Stt (d : disk_Disk) (a : Nat) (L : List (List Int)) : Prop where
  recs : Recs L
  area : a ≤ 1
  three : 3 ≤ d.firm.length
  few : d.firm.length ≤ 1024
  room : (encB L).length ≤ hlf d * 256
  how : Live d a L ∨ Gone d
def jj (a : Nat) (L : List (List Int)) : journal_Journal := ⟨(), (a : Int), encB L, L⟩
def xx (a : Nat) (L : List (List Int)) : cabalref13_Journal := ⟨(), (a : Int), L⟩
theorem hlf_congr {d e : disk_Disk} (h : e.firm.length = d.firm.length) : hlf e = hlf d := by unfold hlf; rw [h]
theorem room_eq {d : disk_Disk} {a : Nat} {L : List (List Int)} (s : Stt d a L) : journal_Journal_Room 4000 (jj a L) d = some (((hlf d * 256 : Nat) : Int) - ((encB L).length : Int)) := by
  have hlt : hlf d ≤ 511 := by unfold hlf; have := s.few; omega
  have h3 := s.three
  have hr := s.room
  unfold journal_Journal_Room journal_Journal_size
  rw [blocks_eq s.few (by omega), Option.bind_some, Option.bind_some, mul64 (by omega)]
  show some (isub .i64 (((hlf d : Nat) : Int) * 256) ((encB L).length : Int)) = _
  rw [sub64 (by omega)]
  congr 1 <;> omega
theorem rroom_eq {d : disk_Disk} {a : Nat} {L : List (List Int)} (s : Stt d a L) (hL1 : L.length ≤ 3000) (hL2 : ∀ t ∈ L, t.length ≤ 5000) : cabalref13_Journal_Room 4000 (xx a L) (twin d) = some (((hlf d * 256 : Nat) : Int) - ((encB L).length : Int)) := by
  have hlt : hlf d ≤ 511 := by unfold hlf; have := s.few; omega
  have h3 := s.three
  have hr := s.room
  unfold cabalref13_Journal_Room
  rw [half_eq s.few (by omega), Option.bind_some]
  show (cabalref13_Bytes 4000 L).bind _ = _
  rw [bytes_eq L hL1 hL2, Option.bind_some, mul64 (by omega), sub64 (by omega)]
  congr 1 <;> omega
theorem commit_stt {d : disk_Disk} {a : Nat} {L : List (List Int)} (s : Stt d a L) (j : journal_Journal) (x : cabalref13_Journal) {b : Nat} (hb : b ≤ 1) {L' : List (List Int)} (hr : Recs L') {hv : Nat} (hvs : hv < (encB L').length) (hs : (encB L').length ≤ hlf d * 256)
    (hc : (b = a ∧ hv = (encB L).length ∧ ∃ more, L' = L ++ more) ∨ (b ≠ a ∧ hv = 0)) :
    ∃ c d', journal_Journal_commit 4000 j (b : Int) (hv : Int) (encB L') d = some (c, ⟨(), j.area, j.bytes, j.l⟩, d') ∧ cabalref13_Journal_commit 4000 x (b : Int) (hv : Int) (encB L') (twin d) = some (c, ⟨(), x.Area, x.L⟩, twin d') ∧
      ((c = 0 ∧ Stt d' b L') ∨ (c = 7 ∧ Stt d' a L)) ∧ d'.firm.length = d.firm.length ∧ (d.fuse = -1 → d.dead = false → c = 0 ∧ d'.fuse = -1 ∧ Live d' b L') := by
  have h3 := s.three
  rcases s.how with hl | hg
  · obtain ⟨c, d', r1, r2, r3, r4, r5⟩ := commit_live hl j x hb hr hvs hs hc
    have eh := hlf_congr r4
    refine ⟨c, d', r1, r2, ?_, r4, fun hf hd => ?_⟩
    · rcases r3 with ⟨c0, q⟩ | ⟨c7, q⟩
      · exact .inl ⟨c0, hr, hb, by omega, by have := s.few; omega, by rw [eh]; exact hs, .inl q⟩
      · exact .inr ⟨c7, s.recs, s.area, by omega, by have := s.few; omega, by rw [eh]; exact s.room, .inr q⟩
    · obtain ⟨q1, q2⟩ := r5 hf
      rcases r3 with ⟨_, q⟩ | ⟨c7, _⟩
      · exact ⟨q1, q2, q⟩
      · omega
  · obtain ⟨c, d', r1, r2, r3⟩ := commit_both (fun q => by rw [hg.dead] at q; cases q) hg.wf (by omega) j x b hb (encB L') hv hvs hs
    rcases r3 with ⟨_, c7, e⟩ | ⟨q, _⟩
    · subst e
      exact ⟨c, _, r1, r2, .inr ⟨c7, s⟩, rfl, fun _ hd => by rw [hg.dead] at hd; cases hd⟩
    · rw [hg.dead] at q; cases q
structure New (l : List (List Int)) : Prop where
  many : l.length ≤ 25
  each : ∀ t ∈ l, Byt t ∧ t.length ≤ 2000
theorem append_both {d : disk_Disk} {a : Nat} {L : List (List Int)} (s : Stt d a L) (hL1 : L.length ≤ 2900) (hL2 : ∀ t ∈ L, t.length ≤ 5000) {l : List (List Int)} (hl : New l) :
    ∃ c d' L', journal_Journal_Append 4000 (jj a L) l d = some (c, jj a L', d') ∧ cabalref13_Journal_Append 4000 (xx a L) l (twin d) = some (c, xx a L', twin d') ∧ Stt d' a L' ∧ d'.firm.length = d.firm.length ∧
      ((c = 0 ∧ L' = L ++ l) ∨ (c ≠ 0 ∧ L' = L)) ∧ (d.fuse = -1 → d.dead = false → d'.fuse = -1 ∧ d'.dead = false) := by
  have hlm : lim = 2147483648 := rfl
  have hlt : hlf d ≤ 511 := by unfold hlf; have := s.few; omega
  have hmany := hl.many
  have l5 : ∀ t ∈ l, t.length ≤ 5000 := fun t ht => by have := (hl.each t ht).2; omega
  obtain ⟨n1, n2⟩ := none_long l (by omega) (fun t ht => by have := (hl.each t ht).2; omega)
  have r1 := room_eq s
  have r2 := rroom_eq s (by omega) hL2
  have hroom := s.room
  have keepS : d.fuse = -1 → d.dead = false → d.fuse = -1 ∧ d.dead = false := fun h1 h2 => ⟨h1, h2⟩
  unfold journal_Journal_Append cabalref13_Journal_Append
  rw [texts_enc l (by omega) l5, Option.bind_some]
  unfold wire_Writer_String
  have nf : ¬ (false = true) := by decide
  rw [Option.bind_some, n1, Option.bind_some, n2, Option.bind_some, if_neg nf, if_neg nf, r1, Option.bind_some, bytes_eq l (by omega) l5, Option.bind_some, r2, Option.bind_some]
  dsimp only
  by_cases c8 : (encB l).length > hlf d * 256 - (encB L).length
  · have k8 : decide (((encB l).length : Int) > ((hlf d * 256 : Nat) : Int) - ((encB L).length : Int)) = true := decide_eq_true (by omega)
    rw [if_pos k8, if_pos k8]
    exact ⟨8, d, L, rfl, rfl, s, rfl, .inr ⟨by decide, rfl⟩, keepS⟩
  · have k8 : ¬ decide (((encB l).length : Int) > ((hlf d * 256 : Nat) : Int) - ((encB L).length : Int)) = true := by simp; omega
    rw [if_neg k8, if_neg k8]
    by_cases c0 : l.length = 0
    · have k0 : ((l.length : Int) == (0 : Int)) = true := by simp [c0]
      rw [if_pos k0, if_pos k0]
      have : l = [] := List.eq_nil_of_length_eq_zero c0
      subst this
      exact ⟨0, d, L, rfl, rfl, s, rfl, .inl ⟨rfl, by simp⟩, keepS⟩
    · have k0 : ¬ ((l.length : Int) == (0 : Int)) = true := by simp; intro e; exact c0 (by rw [e]; rfl)
      have hpos : 1 ≤ (encB l).length := by
        have := encB_many l; omega
      have hrl : Recs (L ++ l) := fun t ht => by
        rcases List.mem_append.1 ht with q | q
        · exact s.recs t q
        · have := hl.each t q; exact ⟨this.1, by omega⟩
      have elen : (encB (L ++ l)).length = (encB L).length + (encB l).length := by rw [encB_append, List.length_append]
      obtain ⟨c, d', g1, g2, g3, g4, g5⟩ := commit_stt s (jj a L) (xx a L) s.area hrl (hv := (encB L).length) (by omega) (by omega) (.inl ⟨rfl, rfl, l, rfl⟩)
      have eb : encB L ++ encB l = encB (L ++ l) := (encB_append L l).symm
      rw [if_neg k0, if_neg k0]
      have hb1 : (encB L).length + (encB l).length ≤ lim := by omega
      have hb2 : L.length + l.length ≤ lim := by omega
      have hb3 : ([] : List (List Int)).length + L.length ≤ lim := by show 0 + L.length ≤ lim; omega
      have hb4 : (([] : List (List Int)) ++ L).length + l.length ≤ lim := by rw [List.nil_append]; exact hb2
      rw [← eb] at g1 g2
      rcases g3 with ⟨e, q⟩ | ⟨e, q⟩
      · subst e
        refine ⟨0, d', L ++ l, ?_, ?_, q, g4, .inl ⟨rfl, rfl⟩, fun h1 h2 => ?_⟩
        · show (if (encB L).length + (encB l).length ≤ lim then (journal_Journal_commit 4000 (jj a L) (a : Int) ((encB L).length : Int) (encB L ++ encB l) d).bind _ else none) = _
          rw [if_pos hb1, g1, Option.bind_some]
          simp only [bne_self_eq_false, Bool.false_eq_true, if_false]
          rw [if_pos (show (jj a L).l.length + l.length ≤ lim from hb2)]
          show some ((0 : Int), (⟨(), (a : Int), encB L ++ encB l, L ++ l⟩ : journal_Journal), d') = _
          rw [eb]; rfl
        · show ((cabalref13_Bytes 4000 L).bind _) = _
          rw [bytes_eq L (by omega) hL2, Option.bind_some, Option.bind_some, if_pos hb1]
          show (cabalref13_Journal_commit 4000 (xx a L) (a : Int) ((encB L).length : Int) (encB L ++ encB l) (twin d)).bind _ = _
          rw [g2, Option.bind_some]
          simp only [beq_self_eq_true, if_true]
          rw [if_pos (show ([] : List (List Int)).length + (xx a L).L.length ≤ lim from hb3), if_pos (show (([] : List (List Int)) ++ (xx a L).L).length + l.length ≤ lim from hb4), List.nil_append]; rfl
        · obtain ⟨_, q2, q3⟩ := g5 h1 h2; exact ⟨q2, q3.alive⟩
      · subst e
        refine ⟨7, d', L, ?_, ?_, q, g4, .inr ⟨by decide, rfl⟩, fun h1 h2 => by obtain ⟨q1, _⟩ := g5 h1 h2; omega⟩
        · show (if (encB L).length + (encB l).length ≤ lim then (journal_Journal_commit 4000 (jj a L) (a : Int) ((encB L).length : Int) (encB L ++ encB l) d).bind _ else none) = _
          rw [if_pos hb1, g1, Option.bind_some]; rfl
        · show ((cabalref13_Bytes 4000 L).bind _) = _
          rw [bytes_eq L (by omega) hL2, Option.bind_some, Option.bind_some, if_pos hb1]
          show (cabalref13_Journal_commit 4000 (xx a L) (a : Int) ((encB L).length : Int) (encB L ++ encB l) (twin d)).bind _ = _
          rw [g2, Option.bind_some]; rfl
theorem same_eq (l : List (List Int)) (hl : l.length ≤ 3900) : cabalref13_Same 4000 l l = some true := by
  have key : ∀ (m i n : Nat), i + m = l.length → m < n → cabalref13_Same.l1 4000 l l n (i : Int) = some true := by
    intro m
    induction m with
    | zero =>
      intro i n hi hm
      obtain ⟨n, rfl⟩ : ∃ q, n = q + 1 := ⟨n - 1, by omega⟩
      rw [cabalref13_Same.l1, if_neg (by simp; omega)]; rfl
    | succ m ih =>
      intro i n hi hm
      obtain ⟨n, rfl⟩ : ∃ q, n = q + 1 := ⟨n - 1, by omega⟩
      have c : i < l.length := by omega
      have hnext : iadd .i64 (i : Int) 1 = ((i + 1 : Nat) : Int) := by rw [add64 (by omega)]; omega
      rw [cabalref13_Same.l1, if_pos (decide_eq_true (by omega)), at_get c, Option.bind_some, Option.bind_some, if_neg (by simp), hnext]
      exact ih (i + 1) n (by omega) (by omega)
  unfold cabalref13_Same
  rw [if_neg (by simp)]
  have := key l.length 0 4000 (by omega) (by omega)
  rw [show ((0 : Nat) : Int) = 0 from rfl] at this
  exact this
theorem great_eq (l : List (List Int)) : ∃ b, caballaw13_great 4000 l = some b ∧ (b = false → l.length ≤ 25 ∧ ∀ t ∈ l, t.length ≤ 2000) := by
  have key : ∀ (m i n : Nat) (y : Int), i + m = 22 → m < n → ∃ b, caballaw13_great.l1 4000 l n y (i : Int) = some b ∧ (b = false → l.length ≤ 25 ∧ ∀ t ∈ l.drop i, t.length ≤ 2000) := by
    intro m
    induction m with
    | zero =>
      intro i n y hi hm
      obtain ⟨n, rfl⟩ : ∃ q, n = q + 1 := ⟨n - 1, by omega⟩
      rw [caballaw13_great.l1]
      by_cases c : i < l.length
      · have c2 : decide ((i : Int) > 20) = true := decide_eq_true (by omega)
        rw [if_pos (decide_eq_true (by omega)), at_get c]
        simp only [Option.bind_some, c2]
        refine ⟨true, by simp, fun h => by cases h⟩
      · rw [if_neg (by simp; omega), caballaw13_great.j1]
        exact ⟨_, rfl, fun _ => ⟨by omega, fun t ht => by rw [List.drop_eq_nil_of_le (by omega)] at ht; cases ht⟩⟩
    | succ m ih =>
      intro i n y hi hm
      obtain ⟨n, rfl⟩ : ∃ q, n = q + 1 := ⟨n - 1, by omega⟩
      rw [caballaw13_great.l1]
      by_cases c : i < l.length
      · have hnext : iadd .i64 (i : Int) 1 = ((i + 1 : Nat) : Int) := by rw [add64 (by omega)]; omega
        rw [if_pos (decide_eq_true (by omega)), at_get c, List.drop_eq_getElem_cons c]
        simp only [Option.bind_some, hnext]
        by_cases c2 : (if decide ((l[i].length : Int) > 2000) = true then true else decide ((i : Int) > 20)) = true
        · rw [if_pos c2]; exact ⟨true, rfl, fun h => by cases h⟩
        · rw [if_neg c2]
          obtain ⟨b, e, h⟩ := ih (i + 1) n (iadd .i64 y (l[i].length : Int)) (by omega) (by omega)
          refine ⟨b, e, fun hb => ?_⟩
          obtain ⟨h1, h2⟩ := h hb
          refine ⟨h1, fun t ht => ?_⟩
          rcases List.mem_cons.1 ht with q | q
          · rw [q]
            by_cases c3 : (l[i].length : Int) > 2000
            · exact absurd (by rw [if_pos (decide_eq_true c3)]) c2
            · omega
          · exact h2 t q
      · rw [if_neg (by simp; omega), caballaw13_great.j1]
        exact ⟨_, rfl, fun _ => ⟨by omega, fun t ht => by rw [List.drop_eq_nil_of_le (by omega)] at ht; cases ht⟩⟩
  have := key 22 0 4000 0 (by omega) (by omega)
  rw [show ((0 : Nat) : Int) = 0 from rfl, List.drop_zero] at this
  exact this
end Go.Proofs.Pure
end
section
namespace Go.Proofs.Pure
open Go Go.RowKit Go.Proofs.Kit
set_option linter.unusedVariables false
set_option linter.unusedSimpArgs false
theorem alive13 : caballaw13_alive 4000 = some true := by decide +kernel
structure ActOk (x : caballaw13_Act) : Prop where
  texts : ∀ t ∈ x.L, Byt t
  keep : ∀ c ∈ x.Keep, 0 ≤ c ∧ c < 256
theorem act_ok {x : caballaw13_Act} (h : Fine k_caballaw13_Act x) : ActOk x := by
  have h1 := Fine.iso h
  obtain ⟨_, h2⟩ := Fine.pair h1
  obtain ⟨_, h3⟩ := Fine.pair h2
  obtain ⟨h4, h5⟩ := Fine.pair h3
  obtain ⟨h6, _⟩ := Fine.pair h5
  refine ⟨fun t ht => (Fine.str ((Fine.sl h4).2 t ht)).2, fun c hc => ?_⟩
  have := Fine.int ((Fine.sl h6).2 c hc)
  unfold IntKind.has IntKind.min IntKind.max at this; simp [IntKind.signed, IntKind.bits] at this; omega
theorem new_live {n : Nat} (h3 : 3 ≤ n) (hn : n ≤ 1024) : Wf 0 (newD n) ∧ DB (newD n) ∧ View (newD n) 0 [] := by
  refine ⟨newD_wf hn, ⟨fun b hb x hx => ?_, fun w hw => (by cases hw)⟩, ⟨by show 3 ≤ (List.replicate n _).length; rw [List.length_replicate]; exact h3, by omega, fun t ht => (by cases ht), .inl ⟨?_, rfl, rfl⟩⟩⟩
  · have hb' : b ∈ List.replicate n (List.replicate 256 (0 : Int)) := hb
    rw [List.eq_of_mem_replicate hb'] at hx
    rw [List.eq_of_mem_replicate hx]; omega
  · show (last _ [] ((List.replicate n (List.replicate 256 (0 : Int))).getD 0 [])).take 64 = _
    have e : (List.replicate n (List.replicate 256 (0 : Int))).getD 0 [] = List.replicate 256 0 := by
      rw [List.getD_eq_getElem?_getD, List.getElem?_replicate, if_pos (by omega)]; rfl
    rw [e]
    show (List.replicate 256 (0 : Int)).take 64 = List.replicate 64 0
    rw [List.take_replicate, show min 64 256 = 64 from rfl]
end Go.Proofs.Pure
end
