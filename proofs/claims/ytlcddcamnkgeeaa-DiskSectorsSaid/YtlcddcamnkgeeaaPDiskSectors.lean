/- DiskSectors over its plain functions: no program in sight. -/
import Derived.Test.YtlcddcamnkgeeaaSSec
namespace Go.Proofs.Pure
open Go Go.RowKit Go.Proofs.Kit
set_option linter.unusedVariables false
set_option linter.unusedSimpArgs false

structure FitD (may : List (List Int)) (d : disk_Disk) : Prop where
  len : may.length = 12
  firm : ∀ p, p < 3 → FitB may p (d.firm.getD p [])
  loose : ∀ w ∈ d.loose, 0 ≤ w.at_ ∧ w.at_ < 3 ∧ FitB may w.at_.toNat w.data
theorem Live.mono {n m : Nat} {d : disk_Disk} (h : Live n d) (hm : n ≤ m) : Live m d := ⟨⟨h.wf.blocks, h.wf.size, h.wf.each, Nat.le_trans h.wf.few hm⟩, h.three, h.fuse, h.dead⟩
theorem keepN_c (keep : List Int) (i : Nat) : ∃ c, c ≤ 4 ∧ keepN keep i = 64 * c := by
  unfold keepN
  split
  · exact ⟨_, by omega, rfl⟩
  · exact ⟨0, by omega, rfl⟩
theorem sec_j2 (keep : List Int) (hk : ∀ c ∈ keep, 0 ≤ c ∧ c < 256) (d : disk_Disk) {N : Nat} (hN : N ≤ 1000) (h : Live N d) (may : List (List Int)) (hf : FitD may d) (hr : ∀ r ∈ may, r.length ≤ 1000) :
    caballaw12_DiskSectors.j2 4000 keep d.fuse d.dead may d.firm d.loose = some true := by
  obtain ⟨c1, _, c3, c4⟩ := crash_ok hN d h.wf keep hk
  have h3 : (sett (keepN keep) 0 d.loose d.firm).length = 3 := by rw [c4]; exact h.three
  unfold caballaw12_DiskSectors.j2
  rw [show (⟨d.firm, d.loose, d.fuse, d.dead⟩ : disk_Disk) = d from rfl, c1, Option.bind_some]
  exact sec_l1 _ c3 h3 may hf.len hr (sett_fit (keepN keep) (keepN_c keep) d.loose 0 d.firm h.three hf.loose hf.firm) 12 0 4000 (by omega) (by omega)
theorem sec_l4 (acts : List caballaw12_Act) (keep : List Int) (hk : ∀ c ∈ keep, 0 ≤ c ∧ c < 256) : ∀ (m i n : Nat) (d : disk_Disk) (may : List (List Int)), i + m = 60 → m < n → Live i d → FitD may d → (∀ r ∈ may, r.length ≤ 4 * i + 1) →
    caballaw12_DiskSectors.l4 4000 acts keep n (i : Int) d.fuse d.dead may d.firm d.loose = some true := by
  intro m
  induction m with
  | zero =>
    intro i n d may hi hn hl hf hr
    obtain ⟨n, rfl⟩ : ∃ q, n = q + 1 := ⟨n - 1, by omega⟩
    have hc : (if decide ((i : Int) < (acts.length : Int)) = true then decide ((i : Int) < 60) else false) = false := by
      rw [decide_eq_false (show ¬ (i : Int) < 60 by omega)]; split <;> rfl
    rw [caballaw12_DiskSectors.l4, hc, Option.bind_some, if_neg Bool.false_ne_true]
    exact sec_j2 keep hk d (by omega) hl may hf (fun r h => by have := hr r h; omega)
  | succ m ih =>
    intro i n d may hi hn hl hf hr
    obtain ⟨n, rfl⟩ : ∃ q, n = q + 1 := ⟨n - 1, by omega⟩
    by_cases c : i < acts.length
    · have hc : (if decide ((i : Int) < (acts.length : Int)) = true then decide ((i : Int) < 60) else false) = true := by
        rw [if_pos (decide_eq_true (by omega))]; exact decide_eq_true (by omega)
      rw [caballaw12_DiskSectors.l4, hc, Option.bind_some, if_pos rfl, at_get c, Option.bind_some, show (⟨d.firm, d.loose, d.fuse, d.dead⟩ : disk_Disk) = d from rfl]
      have hnext : iadd .i64 (i : Int) 1 = ((i + 1 : Nat) : Int) := by rw [add64 (by omega)]; omega
      by_cases cs : (irem (acts[i]).Kind 5 == 1) = true
      · obtain ⟨s1, s2⟩ := live_sync (show i ≤ 1000 by omega) d hl
        rw [if_pos cs, s1, Option.bind_some, if_neg (by simp)]
        have hfit := sett_fit (may := may) (fun _ => 256) (fun _ => ⟨4, by omega, rfl⟩) d.loose 0 d.firm hl.three hf.loose hf.firm
        obtain ⟨may', g1, g2, g3⟩ := sec_l5 (show i ≤ 1000 by omega) (0, ⟨sett (fun _ => 256) 0 d.loose d.firm, [], -1, false⟩) s2 rfl (i : Int) (caballaw12_DiskSectors.l4 4000 acts keep n) 12 0 4000 may (by omega) (by omega) hf.len (fun k h => by omega)
        have g1' : caballaw12_DiskSectors.l5 4000 (0, ⟨sett (fun _ => 256) 0 d.loose d.firm, [], -1, false⟩) (i : Int) (caballaw12_DiskSectors.l4 4000 acts keep n) 4000 0 may = caballaw12_DiskSectors.j8 4000 (i : Int) (0, ⟨sett (fun _ => 256) 0 d.loose d.firm, [], -1, false⟩) (caballaw12_DiskSectors.l4 4000 acts keep n) false may' := g1
        rw [g1', caballaw12_DiskSectors.j8, caballaw12_DiskSectors.j7, hnext]
        refine ih (i + 1) n ⟨sett (fun _ => 256) 0 d.loose d.firm, [], -1, false⟩ may' (by omega) (by omega) (s2.mono (by omega)) ⟨g2, fun p hp => ⟨(hfit p hp).1, fun q hq => ?_⟩, fun w hw => by cases hw⟩ (fun r h => ?_)
        · rw [g3 _ (by omega), show (4 * p + q) / 4 = p by omega, show (4 * p + q) % 4 * 64 = 64 * q by omega]
          exact List.mem_singleton.2 rfl
        · obtain ⟨k, hk1, rfl⟩ := List.getElem_of_mem h
          have := g3 k (by omega)
          rw [gd_ltl hk1] at this
          rw [this, List.length_singleton]; omega
      · obtain ⟨dat, d1, d2, d3⟩ := data_val (acts[i]).B
        have hsp := spot_ok (acts[i]).At
        obtain ⟨p, hp⟩ : ∃ p : Nat, IntKind.wrap .i64 (irem (IntKind.wrap .u64 (acts[i]).At) 3) = (p : Int) := ⟨(IntKind.wrap .i64 (irem (IntKind.wrap .u64 (acts[i]).At) 3)).toNat, by omega⟩
        have hp3 : p < 3 := by omega
        obtain ⟨w1, w2⟩ := live_write (show i ≤ 1000 by omega) d hl (p : Int) (by omega) dat d2.1
        obtain ⟨may', g1, g2, g3, g4, g5⟩ := sec_l6 acts[i] (i : Int) (0, ⟨d.firm, d.loose ++ [⟨(p : Int), dat⟩], -1, false⟩) (caballaw12_DiskSectors.l4 4000 acts keep n) p hp3 hp 4 0 4000 (4 * i + 1) may (by omega) (by omega) hf.len hr (by omega)
        have g1' : caballaw12_DiskSectors.l6 4000 acts[i] (i : Int) (0, ⟨d.firm, d.loose ++ [⟨(p : Int), dat⟩], -1, false⟩) (caballaw12_DiskSectors.l4 4000 acts keep n) 4000 0 may = caballaw12_DiskSectors.j7 4000 (i : Int) (caballaw12_DiskSectors.l4 4000 acts keep n) (-1) false may' d.firm (d.loose ++ [⟨(p : Int), dat⟩]) := g1
        rw [if_neg cs, d1, Option.bind_some, hp, w1, Option.bind_some, if_neg (by simp), g1', caballaw12_DiskSectors.j7, hnext]
        refine ih (i + 1) n ⟨d.firm, d.loose ++ [⟨(p : Int), dat⟩], -1, false⟩ may' (by omega) (by omega) w2 ⟨g2, fun p hp => (hf.firm p hp).wid g4, fun w hw => ?_⟩ (fun r h => by have := g3 r h; omega)
        rcases List.mem_append.1 hw with q | q
        · obtain ⟨a, b, e⟩ := hf.loose w q
          exact ⟨a, b, e.wid g4⟩
        · rw [List.mem_singleton.1 q]
          refine ⟨by show 0 ≤ (p : Int); omega, by show (p : Int) < 3; omega, d2, fun q hq => ?_⟩
          rw [d3 q hq]
          exact g5 q (by omega) hq
    · have hc : (if decide ((i : Int) < (acts.length : Int)) = true then decide ((i : Int) < 60) else false) = false := by
        rw [decide_eq_false (show ¬ (i : Int) < (acts.length : Int) by omega)]; rfl
      rw [caballaw12_DiskSectors.l4, hc, Option.bind_some, if_neg Bool.false_ne_true]
      exact sec_j2 keep hk d (by omega) hl may hf (fun r h => by have := hr r h; omega)
theorem sec_l7 (acts : List caballaw12_Act) (keep : List Int) (x : disk_Disk) : ∀ (m i n : Nat) (may : List (List Int)), i + m = 12 → m < n → may.length = 12 → (∀ k, k < i → may.getD k [] = [0]) →
    ∃ may', caballaw12_DiskSectors.l7 4000 acts keep x n (i : Int) may = caballaw12_DiskSectors.j1 4000 acts keep x may' ∧ may'.length = 12 ∧ ∀ k, k < 12 → may'.getD k [] = [0] := by
  intro m
  induction m with
  | zero =>
    intro i n may hi hn hl hk
    obtain ⟨n, rfl⟩ : ∃ q, n = q + 1 := ⟨n - 1, by omega⟩
    rw [caballaw12_DiskSectors.l7, if_neg (by simp; omega)]
    exact ⟨may, rfl, hl, fun k h => hk k (by omega)⟩
  | succ m ih =>
    intro i n may hi hn hl hk
    obtain ⟨n, rfl⟩ : ∃ q, n = q + 1 := ⟨n - 1, by omega⟩
    obtain ⟨may', g1, g2, g3⟩ := ih (i + 1) n (may.set i [0]) (by omega) (by omega) (by rw [List.length_set]; exact hl) (fun k hk2 => by
      rw [gd_set (by omega)]
      by_cases c : i = k
      · rw [if_pos c]
      · rw [if_neg c]; exact hk k (by omega))
    refine ⟨may', ?_, g2, g3⟩
    rw [caballaw12_DiskSectors.l7, if_pos (by simp; omega), if_pos (by omega), set_ok (by omega), Option.bind_some, add64 (by omega), show (i : Int) + 1 = ((i + 1 : Nat) : Int) by omega]
    exact g1
theorem zero_gd (n : Nat) : (List.replicate 256 (0 : Int)).getD n 0 = 0 := by
  rw [List.getD_eq_getElem?_getD, List.getElem?_replicate]; split <;> rfl
theorem DiskSectors (x0 : (List caballaw12_Act)) (x1 : (List Int)) (g0 : Fine (ksl k_caballaw12_Act) x0) (g1 : Fine (ksl (kint .u8)) x1) : ∃ k, caballaw12_DiskSectors k x0 x1 = some true := by
  refine ⟨4000, ?_⟩
  have hk : ∀ c ∈ x1, 0 ≤ c ∧ c < 256 := fun c hc => by have := Fine.int (g1.sl.2 c hc); exact ⟨this.1, Int.lt_of_le_of_lt this.2 (by decide)⟩
  obtain ⟨n, hn, h1, _, h3⟩ := new_ok 3
  have : n = 3 := by have := h3 (by omega) (by omega); omega
  subst this
  obtain ⟨may, l1, l2, l3⟩ := sec_l7 x0 x1 (newD 3) 12 0 4000 (List.replicate 12 []) (by omega) (by omega) (by rw [List.length_replicate]) (fun k h => by omega)
  have l1' : caballaw12_DiskSectors.l7 4000 x0 x1 (newD 3) 4000 0 (List.replicate 12 []) = caballaw12_DiskSectors.j1 4000 x0 x1 (newD 3) may := l1
  unfold caballaw12_DiskSectors
  rw [alive12, Option.bind_some, if_neg (by simp), h1, Option.bind_some, l1', caballaw12_DiskSectors.j1]
  have hlive : Live 0 (newD 3) := ⟨newD_wf (by omega), by unfold newD; rw [List.length_replicate], rfl, rfl⟩
  have hfirm : ∀ p, p < 3 → (newD 3).firm.getD p [] = List.replicate 256 0 := fun p hp => by
    unfold newD
    rw [List.getD_eq_getElem?_getD, List.getElem?_replicate, if_pos hp]; rfl
  refine sec_l4 x0 x1 hk 60 0 4000 (newD 3) may (by omega) (by omega) hlive ⟨l2, fun p hp => ?_, fun w hw => by cases hw⟩ (fun r h => ?_)
  · rw [hfirm p hp]
    refine ⟨⟨List.length_replicate, fun q hq n hn => by rw [zero_gd, zero_gd]⟩, fun q hq => ?_⟩
    rw [zero_gd, l3 _ (by omega)]
    exact List.mem_singleton.2 rfl
  · obtain ⟨k, hk1, rfl⟩ := List.getElem_of_mem h
    have := l3 k (by omega)
    rw [gd_ltl hk1] at this
    rw [this, List.length_singleton]; omega


end Go.Proofs.Pure
