/- Sectors: whatever a crash keeps, each is one of those that were laid. No program in sight. -/
import Derived.Test.YtlcddcamnkgeeaaSEAll
namespace Go.Proofs.Pure
open Go Go.RowKit Go.Proofs.Kit
set_option linter.unusedVariables false
set_option linter.unusedSimpArgs false

theorem gd_lt {l : List Int} {i : Nat} (h : i < l.length) : l.getD i 0 = l[i] := by rw [List.getD_eq_getElem?_getD, List.getElem?_eq_getElem h]; rfl
theorem gd_ltl {l : List (List Int)} {i : Nat} (h : i < l.length) : l.getD i [] = l[i] := by rw [List.getD_eq_getElem?_getD, List.getElem?_eq_getElem h]; rfl
theorem gd_set {l : List (List Int)} {i j : Nat} {x : List Int} (h : i < l.length) : (l.set i x).getD j [] = if i = j then x else l.getD j [] := by
  rw [List.getD_eq_getElem?_getD, List.getElem?_set, List.getD_eq_getElem?_getD]
  by_cases e : i = j
  · subst e; rw [if_pos rfl, if_pos rfl, if_pos h]; rfl
  · rw [if_neg e, if_neg e]
/-- a block of four sectors, each of one byte -/
def Uni (b : List Int) : Prop := b.length = 256 ∧ ∀ q, q < 4 → ∀ n, n < 64 → b.getD (64 * q + n) 0 = b.getD (64 * q) 0
/-- and each of these bytes is one that may be -/
def FitB (may : List (List Int)) (p : Nat) (b : List Int) : Prop := Uni b ∧ ∀ q, q < 4 → b.getD (64 * q) 0 ∈ may.getD (4 * p + q) []
theorem mix_getD {a b : List Int} {n : Nat} (ha : a.length = 256) (hb : b.length = 256) (hn : n ≤ 256) (j : Nat) : (a.take n ++ b.drop n).getD j 0 = if j < n then a.getD j 0 else b.getD j 0 := by
  have hl : (a.take n).length = n := by rw [List.length_take]; omega
  rw [List.getD_eq_getElem?_getD]
  by_cases c : j < n
  · rw [if_pos c, List.getElem?_append_left (by omega), List.getElem?_take_of_lt c, List.getD_eq_getElem?_getD]
  · rw [if_neg c, List.getElem?_append_right (by omega), hl, List.getElem?_drop, show n + (j - n) = j by omega, List.getD_eq_getElem?_getD]
theorem mix_fit {may : List (List Int)} {p : Nat} {a b : List Int} (ha : FitB may p a) (hb : FitB may p b) {c : Nat} (hc : c ≤ 4) : FitB may p (a.take (64 * c) ++ b.drop (64 * c)) := by
  have g := mix_getD ha.1.1 hb.1.1 (show 64 * c ≤ 256 by omega)
  refine ⟨⟨mix_len _ ha.1.1 hb.1.1 (by omega), fun q hq n hn => ?_⟩, fun q hq => ?_⟩
  · rw [g, g]
    by_cases e : q < c
    · rw [if_pos (by omega), if_pos (by omega)]; exact ha.1.2 q hq n hn
    · rw [if_neg (by omega), if_neg (by omega)]; exact hb.1.2 q hq n hn
  · rw [g]
    by_cases e : q < c
    · rw [if_pos (by omega)]; exact ha.2 q hq
    · rw [if_neg (by omega)]; exact hb.2 q hq
theorem sett_fit {may : List (List Int)} (ns : Nat → Nat) (hns : ∀ i, ∃ c, c ≤ 4 ∧ ns i = 64 * c) (l : List disk_write) : ∀ (i : Nat) (f : List (List Int)), f.length = 3 → (∀ w ∈ l, 0 ≤ w.at_ ∧ w.at_ < 3 ∧ FitB may w.at_.toNat w.data) →
    (∀ p, p < 3 → FitB may p (f.getD p [])) → ∀ p, p < 3 → FitB may p ((sett ns i l f).getD p []) := by
  induction l with
  | nil => intro i f _ _ hf; exact hf
  | cons w l ih =>
    intro i f hl hw hf
    obtain ⟨a, b, c⟩ := hw w (by simp)
    obtain ⟨k, hk, e⟩ := hns i
    refine ih (i + 1) _ (by rw [List.length_set]; exact hl) (fun x hx => hw x (by simp [hx])) (fun p hp => ?_)
    rw [gd_set (by omega)]
    by_cases q : w.at_.toNat = p
    · rw [if_pos q, e]
      subst q
      exact mix_fit c (hf _ hp) hk
    · rw [if_neg q]; exact hf p hp
/-- more may be: what fits still fits -/
def Wid (may may' : List (List Int)) : Prop := ∀ k x, x ∈ may.getD k [] → x ∈ may'.getD k []
theorem FitB.wid {may may' : List (List Int)} {p : Nat} {b : List Int} (h : FitB may p b) (w : Wid may may') : FitB may' p b := ⟨h.1, fun q hq => w _ _ (h.2 q hq)⟩

theorem data_val_l1 (b : Int) : ∀ (m i n : Nat) (l : List Int), l.length = 256 → i + m = 256 → m < n → (∀ j, j < i → l.getD j 0 = iadd .u8 b (IntKind.wrap .u8 ((j / 64 : Nat) : Int))) →
    ∃ d, caballaw12_data.l1 4000 0 b n (i : Int) l = some d ∧ d.length = 256 ∧ ∀ j, j < 256 → d.getD j 0 = iadd .u8 b (IntKind.wrap .u8 ((j / 64 : Nat) : Int)) := by
  have hN : iadd .i64 256 (IntKind.wrap .i64 0) = 256 := by decide
  intro m
  induction m with
  | zero =>
    intro i n l hl hi hm hd
    obtain ⟨n, rfl⟩ : ∃ q, n = q + 1 := ⟨n - 1, by omega⟩
    rw [caballaw12_data.l1, hN, if_neg (by simp; omega)]
    exact ⟨l, rfl, hl, fun j hj => hd j (by omega)⟩
  | succ m ih =>
    intro i n l hl hi hm hd
    obtain ⟨n, rfl⟩ : ∃ q, n = q + 1 := ⟨n - 1, by omega⟩
    rw [caballaw12_data.l1, hN, if_pos (by simp; omega), if_pos (by omega), set_ok (by omega), Option.bind_some, add64 (by omega), show ((i : Int) + 1) = ((i + 1 : Nat) : Int) by omega, quo64 (by omega) (by omega)]
    refine ih (i + 1) n _ (by simp [hl]) (by omega) (by omega) (fun j hj => ?_)
    rw [List.getD_eq_getElem?_getD, List.getElem?_set]
    by_cases c : i = j
    · subst c; rw [if_pos rfl, if_pos (by omega)]; show iadd .u8 b _ = _; rw [show ((i : Int) / 64) = ((i / 64 : Nat) : Int) by omega]
    · rw [if_neg c, ← List.getD_eq_getElem?_getD]; exact hd j (by omega)
theorem data_val (b : Int) : ∃ d, caballaw12_data 4000 b 0 = some d ∧ Uni d ∧ ∀ q, q < 4 → d.getD (64 * q) 0 = iadd .u8 b (IntKind.wrap .u8 (q : Int)) := by
  obtain ⟨d, h1, h2, h3⟩ := data_val_l1 b 256 0 4000 (List.replicate 256 0) (by rw [List.length_replicate]) (by omega) (by omega) (fun j hj => by omega)
  refine ⟨d, ?_, ⟨h2, fun q hq n hn => ?_⟩, fun q hq => ?_⟩
  · unfold caballaw12_data
    have hN : iadd .i64 256 (IntKind.wrap .i64 0) = 256 := by decide
    rw [hN, if_pos ⟨by omega, by unfold lim; decide⟩]
    exact h1
  · rw [h3 _ (by omega), h3 _ (by omega), show (64 * q + n) / 64 = 64 * q / 64 by omega]
  · rw [h3 _ (by omega), show 64 * q / 64 = q by omega]

theorem sec_l6 (a : caballaw12_Act) (y : Int) (x : Int × disk_Disk) (K : Int → Int → Bool → (List (List Int)) → (List (List Int)) → (List disk_write) → Option Bool) (p : Nat) (hp : p < 3)
    (ha : IntKind.wrap .i64 (irem (IntKind.wrap .u64 a.At) 3) = (p : Int)) : ∀ (m i n L : Nat) (may : List (List Int)), i + m = 4 → m < n → may.length = 12 → (∀ r ∈ may, r.length ≤ L) → L + m ≤ 1000 →
    ∃ may', caballaw12_DiskSectors.l6 4000 a y x K n (i : Int) may = caballaw12_DiskSectors.j7 4000 y K x.2.fuse x.2.dead may' x.2.firm x.2.loose ∧ may'.length = 12 ∧ (∀ r ∈ may', r.length ≤ L + m) ∧ Wid may may' ∧
      ∀ q, i ≤ q → q < 4 → iadd .u8 a.B (IntKind.wrap .u8 (q : Int)) ∈ may'.getD (4 * p + q) [] := by
  have hL : (1000000 : Nat) ≤ lim := by unfold lim; omega
  intro m
  induction m with
  | zero =>
    intro i n L may hi hn hl hr hLm
    obtain ⟨n, rfl⟩ : ∃ q, n = q + 1 := ⟨n - 1, by omega⟩
    rw [caballaw12_DiskSectors.l6, if_neg (by simp; omega)]
    exact ⟨may, rfl, hl, fun r h => hr r h, fun k x h => h, fun q h1 h2 => by omega⟩
  | succ m ih =>
    intro i n L may hi hn hl hr hLm
    obtain ⟨n, rfl⟩ : ∃ q, n = q + 1 := ⟨n - 1, by omega⟩
    have hk : 4 * p + i < may.length := by omega
    have hrow := hr _ (List.getElem_mem hk)
    have e1 : iadd .i64 (imul .i64 4 (p : Int)) (i : Int) = ((4 * p + i : Nat) : Int) := by rw [mul64 (by omega), add64 (by omega)]; omega
    have hset : set? may ((4 * p + i : Nat) : Int) (may[4 * p + i] ++ [iadd .u8 a.B (IntKind.wrap .u8 (i : Int))]) = some (may.set (4 * p + i) (may[4 * p + i] ++ [iadd .u8 a.B (IntKind.wrap .u8 (i : Int))])) := set_ok hk
    obtain ⟨may', g1, g2, g3, g4, g5⟩ := ih (i + 1) n (L + 1) (may.set (4 * p + i) (may[4 * p + i] ++ [iadd .u8 a.B (IntKind.wrap .u8 (i : Int))])) (by omega) (by omega) (by rw [List.length_set]; exact hl) (fun r h => by
      rcases List.mem_or_eq_of_mem_set h with e | e
      · have := hr r e; omega
      · rw [e, List.length_append, List.length_singleton]; omega) (by omega)
    have hw : Wid may (may.set (4 * p + i) (may[4 * p + i] ++ [iadd .u8 a.B (IntKind.wrap .u8 (i : Int))])) := fun k z hz => by
      rw [gd_set hk]
      by_cases c : 4 * p + i = k
      · subst c; rw [if_pos rfl, List.mem_append]; left; rw [gd_ltl hk] at hz; exact hz
      · rw [if_neg c]; exact hz
    refine ⟨may', ?_, g2, fun r h => by have := g3 r h; omega, fun k z hz => g4 k z (hw k z hz), fun q h1 h2 => ?_⟩
    · rw [caballaw12_DiskSectors.l6, if_pos (by simp; omega), ha, Option.bind_some, e1, if_pos (by omega), at_get hk, Option.bind_some, if_pos (by rw [List.length_singleton]; omega), hset, Option.bind_some, if_pos (by omega), add64 (by omega), show (i : Int) + 1 = ((i + 1 : Nat) : Int) by omega]
      exact g1
    · by_cases c : q = i
      · subst c
        refine g4 _ _ ?_
        rw [gd_set hk, if_pos rfl, List.mem_append]; right; exact List.mem_singleton.2 rfl
      · exact g5 q (by omega) h2
theorem sec_l5 {N : Nat} (hN : N ≤ 1000) (x : Int × disk_Disk) (hx : Live N x.2) (hlo : x.2.loose = []) (y : Int) (K : Int → Int → Bool → (List (List Int)) → (List (List Int)) → (List disk_write) → Option Bool) : ∀ (m i n : Nat) (may : List (List Int)), i + m = 12 → m < n → may.length = 12 →
    (∀ k, k < i → may.getD k [] = [(x.2.firm.getD (k / 4) []).getD (k % 4 * 64) 0]) →
    ∃ may', caballaw12_DiskSectors.l5 4000 x y K n (i : Int) may = caballaw12_DiskSectors.j8 4000 y x K false may' ∧ may'.length = 12 ∧ ∀ k, k < 12 → may'.getD k [] = [(x.2.firm.getD (k / 4) []).getD (k % 4 * 64) 0] := by
  intro m
  induction m with
  | zero =>
    intro i n may hi hn hl hk
    obtain ⟨n, rfl⟩ : ∃ q, n = q + 1 := ⟨n - 1, by omega⟩
    rw [caballaw12_DiskSectors.l5, if_neg (by simp; omega), decide_eq_false (by omega)]
    exact ⟨may, rfl, hl, fun k h => hk k (by omega)⟩
  | succ m ih =>
    intro i n may hi hn hl hk
    obtain ⟨n, rfl⟩ : ∃ q, n = q + 1 := ⟨n - 1, by omega⟩
    have h3 := hx.three
    have hq : i / 4 < x.2.firm.length := by omega
    have r1 := (read_ok hN x.2 hx.wf (i / 4) hq).1
    rw [hlo] at r1
    have hlen := hx.wf.size _ (List.getElem_mem hq)
    have hix : i % 4 * 64 < (x.2.firm[i / 4]).length := by omega
    have e1 : iquo .i64 (i : Int) 4 = ((i / 4 : Nat) : Int) := by rw [quo64 (by omega) (by omega)]; omega
    have e2 : imul .i64 (irem (i : Int) 4) 64 = ((i % 4 * 64 : Nat) : Int) := by rw [rem_pos (by omega), mul64 (by omega)]; omega
    obtain ⟨may', g1, g2, g3⟩ := ih (i + 1) n (may.set i [(x.2.firm[i / 4])[i % 4 * 64]]) (by omega) (by omega) (by rw [List.length_set]; exact hl) (fun k hk2 => by
      rw [gd_set (by omega)]
      by_cases c : i = k
      · subst c; rw [if_pos rfl, gd_ltl hq, gd_lt hix]
      · rw [if_neg c]; exact hk k (by omega))
    refine ⟨may', ?_, g2, g3⟩
    rw [caballaw12_DiskSectors.l5, if_pos (by simp; omega), e1, r1, Option.bind_some]
    show ((at? (x.2.firm[i / 4]) (imul .i64 (irem (i : Int) 4) 64)).bind _) = _
    rw [e2, at_get hix, Option.bind_some, if_pos (by omega), set_ok (by omega), Option.bind_some, add64 (by omega), show (i : Int) + 1 = ((i + 1 : Nat) : Int) by omega]
    exact g1
theorem sec_l2 (s : List Int) (hs : Uni s) (k : Nat) (hk : k < 12) (K : Int → Option Bool) : ∀ (m i n : Nat), i + m = 64 → m < n → caballaw12_DiskSectors.l2 4000 s (k : Int) K n true (i : Int) = caballaw12_DiskSectors.j6 4000 (k : Int) K true := by
  intro m
  induction m with
  | zero =>
    intro i n hi hn
    obtain ⟨n, rfl⟩ : ∃ q, n = q + 1 := ⟨n - 1, by omega⟩
    rw [caballaw12_DiskSectors.l2, if_neg (by simp; omega)]
  | succ m ih =>
    intro i n hi hn
    obtain ⟨n, rfl⟩ : ∃ q, n = q + 1 := ⟨n - 1, by omega⟩
    have hl := hs.1
    have e2 : imul .i64 (irem (k : Int) 4) 64 = ((64 * (k % 4) : Nat) : Int) := by rw [rem_pos (by omega), mul64 (by omega)]; omega
    have e3 : iadd .i64 ((64 * (k % 4) : Nat) : Int) (i : Int) = ((64 * (k % 4) + i : Nat) : Int) := by rw [add64 (by omega)]; omega
    have h1 : 64 * (k % 4) < s.length := by omega
    have h2 : 64 * (k % 4) + i < s.length := by omega
    have hu := hs.2 (k % 4) (by omega) i (by omega)
    rw [gd_lt h1, gd_lt h2] at hu
    rw [caballaw12_DiskSectors.l2, if_pos (by simp; omega), if_pos (by rfl), if_pos (by rfl), e2, e3, at_get h2, at_get h1, Option.bind_some, Option.bind_some, if_pos rfl, hu, beq_self_eq_true, add64 (by omega), show (i : Int) + 1 = ((i + 1 : Nat) : Int) by omega]
    exact ih (i + 1) n (by omega) (by omega)
theorem sec_l3 (may : List (List Int)) (s : List Int) (hs : s.length = 256) (k : Nat) (hk : k < 12) (hm : may.length = 12) (K : Int → Option Bool) : ∀ (m i n : Nat) (acc : Bool), i + m = (may.getD k []).length → m < n → (may.getD k []).length ≤ 1000 →
    (acc = true ∨ ∃ j, i ≤ j ∧ j < (may.getD k []).length ∧ (may.getD k []).getD j 0 = s.getD (64 * (k % 4)) 0) → caballaw12_DiskSectors.l3 4000 (k : Int) may s K n acc (i : Int) = caballaw12_DiskSectors.j5 4000 s (k : Int) K true := by
  have hkl : k < may.length := by omega
  rw [gd_ltl hkl]
  intro m
  induction m with
  | zero =>
    intro i n acc hi hn hl h
    obtain ⟨n, rfl⟩ : ∃ q, n = q + 1 := ⟨n - 1, by omega⟩
    rw [caballaw12_DiskSectors.l3, if_pos (by omega), at_get hkl, Option.bind_some, if_neg (by simp; omega)]
    rcases h with h | ⟨j, h1, h2, _⟩
    · rw [h]
    · omega
  | succ m ih =>
    intro i n acc hi hn hl h
    obtain ⟨n, rfl⟩ : ∃ q, n = q + 1 := ⟨n - 1, by omega⟩
    have e2 : imul .i64 (irem (k : Int) 4) 64 = ((64 * (k % 4) : Nat) : Int) := by rw [rem_pos (by omega), mul64 (by omega)]; omega
    have h1 : 64 * (k % 4) < s.length := by omega
    have hil : i < (may[k]).length := by omega
    rw [caballaw12_DiskSectors.l3, if_pos (by omega), at_get hkl, Option.bind_some, if_pos (by simp; omega), if_pos (fun _ => by omega), e2, at_get h1]
    have hnext : iadd .i64 (i : Int) 1 = ((i + 1 : Nat) : Int) := by rw [add64 (by omega)]; omega
    cases acc with
    | true =>
      rw [if_neg (by simp), Option.bind_some, if_neg (by simp), Option.bind_some, if_neg (by simp), Option.bind_some, hnext]
      exact ih (i + 1) n true (by omega) (by omega) hl (.inl rfl)
    | false =>
      rw [if_pos (by rfl), Option.bind_some, if_pos (by rfl), at_get hil, Option.bind_some, if_pos (by rfl), Option.bind_some, hnext]
      show caballaw12_DiskSectors.l3 4000 (k : Int) may s K n (((may[k])[i]) == s[64 * (k % 4)]) _ = _
      refine ih (i + 1) n _ (by omega) (by omega) hl ?_
      by_cases c : (may[k])[i] = s[64 * (k % 4)]
      · left; simp [c]
      · right
        rcases h with h | ⟨j, g1, g2, g3⟩
        · cases h
        · refine ⟨j, ?_, g2, g3⟩
          rcases Nat.lt_or_ge i j with q | q
          · exact q
          · have : j = i := by omega
            subst this
            rw [gd_lt hil, gd_lt h1] at g3
            exact absurd g3 c
theorem sec_l1 (d : disk_Disk) (hd : Wf 0 d) (h3 : d.firm.length = 3) (may : List (List Int)) (hm : may.length = 12) (hr : ∀ r ∈ may, r.length ≤ 1000) (hf : ∀ p, p < 3 → FitB may p (d.firm.getD p [])) : ∀ (m i n : Nat), i + m = 12 → m < n →
    caballaw12_DiskSectors.l1 4000 d may n (i : Int) = some true := by
  intro m
  induction m with
  | zero =>
    intro i n hi hn
    obtain ⟨n, rfl⟩ : ∃ q, n = q + 1 := ⟨n - 1, by omega⟩
    rw [caballaw12_DiskSectors.l1, if_neg (by simp; omega), caballaw12_DiskSectors.j3, alive12]; rfl
  | succ m ih =>
    intro i n hi hn
    obtain ⟨n, rfl⟩ : ∃ q, n = q + 1 := ⟨n - 1, by omega⟩
    have hq : i / 4 < d.firm.length := by omega
    have e1 : iquo .i64 (i : Int) 4 = ((i / 4 : Nat) : Int) := by rw [quo64 (by omega) (by omega)]; omega
    have hfit := hf (i / 4) (by omega)
    rw [gd_ltl hq] at hfit
    have hmem := hfit.2 (i % 4) (by omega)
    rw [show 4 * (i / 4) + i % 4 = i by omega] at hmem
    have hil : i < may.length := by omega
    have hlen : (may.getD i []).length ≤ 1000 := by rw [gd_ltl hil]; exact hr _ (List.getElem_mem hil)
    obtain ⟨j, hj, ej⟩ := List.getElem_of_mem hmem
    have g3 := sec_l3 may d.firm[i / 4] hfit.1.1 i (by omega) hm (caballaw12_DiskSectors.l1 4000 d may n) (may.getD i []).length 0 4000 false (by omega) (by omega) hlen (.inr ⟨j, by omega, hj, by rw [gd_lt hj]; exact ej⟩)
    have g2 := sec_l2 d.firm[i / 4] hfit.1 i (by omega) (caballaw12_DiskSectors.l1 4000 d may n) 64 0 4000 (by omega) (by omega)
    rw [caballaw12_DiskSectors.l1, if_pos (by simp; omega), e1, settled_ok d hd (i / 4) hq, Option.bind_some]
    have g3' : caballaw12_DiskSectors.l3 4000 (i : Int) may d.firm[i / 4] (caballaw12_DiskSectors.l1 4000 d may n) 4000 false 0 = caballaw12_DiskSectors.j5 4000 d.firm[i / 4] (i : Int) (caballaw12_DiskSectors.l1 4000 d may n) true := g3
    have g2' : caballaw12_DiskSectors.l2 4000 d.firm[i / 4] (i : Int) (caballaw12_DiskSectors.l1 4000 d may n) 4000 true 0 = caballaw12_DiskSectors.j6 4000 (i : Int) (caballaw12_DiskSectors.l1 4000 d may n) true := g2
    rw [g3', caballaw12_DiskSectors.j5, g2', caballaw12_DiskSectors.j6, if_neg (by simp), caballaw12_DiskSectors.j4, add64 (by omega), show (i : Int) + 1 = ((i + 1 : Nat) : Int) by omega]
    exact ih (i + 1) n (by omega) (by omega)


end Go.Proofs.Pure
