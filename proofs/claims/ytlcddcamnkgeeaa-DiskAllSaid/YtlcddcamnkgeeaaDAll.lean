/- Three disks that get the same writes: crashed with all kept, settled twice, crashed with nothing kept. No program in sight. -/
import Derived.Test.YtlcddcamnkgeeaaDPlay
namespace Go.Proofs.Pure
open Go Go.RowKit Go.Proofs.Kit
set_option linter.unusedVariables false

/-- a disk that was never fused -/
structure Live (n : Nat) (d : disk_Disk) : Prop where
  wf : Wf n d
  three : d.firm.length = 3
  fuse : d.fuse = -1
  dead : d.dead = false
theorem live_write {n : Nat} (hn : n ≤ 1000) (d : disk_Disk) (h : Live n d) (p : Int) (hp : 0 ≤ p ∧ p < 3) (dat : List Int) (hd : dat.length = 256) :
    disk_Disk_Write 4000 d p dat = some (0, ⟨d.firm, d.loose ++ [⟨p, dat⟩], -1, false⟩) ∧ Live (n + 1) ⟨d.firm, d.loose ++ [⟨p, dat⟩], -1, false⟩ := by
  obtain ⟨c, d', w1, _, w3, _, w5⟩ := write_ok hn d h.wf p dat
  obtain ⟨q1, q2⟩ := w5 h.dead h.fuse hp.1 (by rw [h.three]; omega) hd
  subst q1 q2
  exact ⟨w1, ⟨w3, h.three, rfl, rfl⟩⟩
theorem live_sync {n : Nat} (hn : n ≤ 1000) (d : disk_Disk) (h : Live n d) :
    disk_Disk_Sync 4000 d = some (0, ⟨sett (fun _ => 256) 0 d.loose d.firm, [], -1, false⟩) ∧ Live n ⟨sett (fun _ => 256) 0 d.loose d.firm, [], -1, false⟩ := by
  obtain ⟨c, d', w1, _, w3, w4, w5⟩ := sync_ok hn d h.wf
  obtain ⟨q1, q2⟩ := w5 h.dead h.fuse
  subst q1 q2
  exact ⟨w1, ⟨w3, by rw [w4]; exact h.three, rfl, rfl⟩⟩
theorem Live.same {n : Nat} {d : disk_Disk} (h : Live n d) : (⟨d.firm, d.loose, d.fuse, d.dead⟩ : disk_Disk) = d := rfl

/-- where a write goes -/
theorem spot_ok (a : Int) : 0 ≤ IntKind.wrap .i64 (irem (IntKind.wrap .u64 a) 3) ∧ IntKind.wrap .i64 (irem (IntKind.wrap .u64 a) 3) < 3 := by
  have h : 0 ≤ IntKind.wrap .u64 a := by rw [wu64]; exact Int.emod_nonneg _ (by decide)
  have h1 := Int.emod_nonneg (IntKind.wrap .u64 a) (b := 3) (by decide)
  have h2 := Int.emod_lt_of_pos (IntKind.wrap .u64 a) (b := 3) (by decide)
  rw [rem_pos h, wi64 (by omega)]
  exact ⟨h1, h2⟩

/-- the end: what was settled is there, what was kept whole is the same as what was synced -/
theorem all_l1 (x8 x7 : disk_Disk) (x5 : Int × disk_Disk) (N : Nat) (h8 : Live N x8) (hl : x8.loose = []) (h7 : Live N x7) (h5 : Live N x5.2) (e : x7.firm = x5.2.firm) (h0 : x5.1 = 0) (hN : N ≤ 1000) : ∀ (m i n : Nat), i + m = 3 → m < n →
    caballaw12_DiskAll.l1 4000 x8 x7 x5 x8.firm n (i : Int) = some true := by
  intro m
  induction m with
  | zero =>
    intro i n hi hm
    obtain ⟨n, rfl⟩ : ∃ q, n = q + 1 := ⟨n - 1, by omega⟩
    rw [caballaw12_DiskAll.l1, if_neg (by simp; omega)]
    simp [caballaw12_DiskAll.j4, alive12, h0]
  | succ m ih =>
    intro i n hi hm
    obtain ⟨n, rfl⟩ : ∃ q, n = q + 1 := ⟨n - 1, by omega⟩
    have i8 : i < x8.firm.length := by rw [h8.three]; omega
    have i7 : i < x7.firm.length := by rw [h7.three]; omega
    have i5 : i < x5.2.firm.length := by rw [h5.three]; omega
    have hnext : iadd .i64 (i : Int) 1 = ((i + 1 : Nat) : Int) := by rw [add64 (by omega)]; omega
    have r1 := (read_ok hN x8 h8.wf i i8).1
    rw [hl] at r1
    have e2 : x7.firm[i] = x5.2.firm[i] := by simp only [e]
    have t := ih (i + 1) n (by omega) (by omega)
    rw [caballaw12_DiskAll.l1, if_pos (by simp; omega)]
    simp only [r1, settled_ok x7 h7.wf i i7, settled_ok x5.2 h5.wf i i5, settled_ok x8 h8.wf i i8, at_get i8, e2, Option.bind_some, decide_true, Bool.not_true, beq_self_eq_true, if_true, Bool.false_eq_true, if_false, last, bne_self_eq_false, hnext]
    rw [if_pos (fun _ => ⟨by omega, by omega⟩), if_pos (fun _ => ⟨by omega, by omega⟩)]
    exact t

theorem keep4 {j n : Nat} (h : j < n) : keepN (List.replicate n 4) j = 256 := by
  unfold keepN
  have e : (List.replicate n (4 : Int)).getD j 0 = 4 := by simp [List.getD, h]
  rw [if_pos (by simpa using h), e]; rfl
theorem keep0 : keepN [] = fun _ => 0 := by funext i; simp [keepN]

/-- .. of what was done by then -/
theorem all_j3 (a c : disk_Disk) (x5 : Int × disk_Disk) (N : Nat) (hN : N ≤ 1000) (ha : Live N a) (hc : Live N c) (h5 : Live N x5.2) (h0 : x5.1 = 0) (e : x5.2.firm = sett (fun _ => 256) 0 a.loose a.firm) :
    caballaw12_DiskAll.j3 4000 a.firm a.loose a.fuse a.dead (List.replicate a.loose.length 4) c.firm c.loose c.fuse c.dead x5 c.firm = some true := by
  unfold caballaw12_DiskAll.j3
  rw [ha.same, hc.same]
  obtain ⟨w1, _, w3, w4⟩ := crash_ok hN a ha.wf (List.replicate a.loose.length 4) (fun x hx => by rw [List.eq_of_mem_replicate hx]; omega)
  obtain ⟨z1, _, z3, z4⟩ := crash_ok hN c hc.wf [] (fun x hx => by cases hx)
  rw [w1, z1]
  simp only [Option.bind_some]
  rw [keep0, sett_zero] at z3 z4 ⊢
  have e2 : sett (keepN (List.replicate a.loose.length 4)) 0 a.loose a.firm = sett (fun _ => 256) 0 a.loose a.firm := sett_congr _ _ _ _ _ (fun j _ hj => keep4 (by omega))
  rw [e2] at w3 w4 ⊢
  have l7 : Live N ⟨sett (fun _ => 256) 0 a.loose a.firm, [], -1, false⟩ := ⟨⟨w3.blocks, w3.size, w3.each, Nat.zero_le _⟩, by show (sett _ 0 a.loose a.firm).length = 3; rw [w4]; exact ha.three, rfl, rfl⟩
  have l8 : Live N ⟨c.firm, [], -1, false⟩ := ⟨⟨z3.blocks, z3.size, z3.each, Nat.zero_le _⟩, hc.three, rfl, rfl⟩
  have := all_l1 ⟨c.firm, [], -1, false⟩ ⟨sett (fun _ => 256) 0 a.loose a.firm, [], -1, false⟩ x5 N l8 rfl l7 h5 e.symm h0 hN 3 0 4000 (by omega) (by omega)
  rw [show ((0 : Nat) : Int) = 0 from rfl] at this
  exact this

theorem all_l2 (a c : disk_Disk) (x5 : Int × disk_Disk) (ks : List Int) (N : Nat) (hc : Live N c) : ∀ (m i n : Nat) (f : List (List Int)), i + m = 3 → m < n → f.length = 3 → f.take i = c.firm.take i →
    caballaw12_DiskAll.l2 4000 c.firm c.loose c.fuse c.dead a.firm a.loose a.fuse a.dead ks x5 n (i : Int) f = caballaw12_DiskAll.j3 4000 a.firm a.loose a.fuse a.dead ks c.firm c.loose c.fuse c.dead x5 c.firm := by
  have h3 := hc.three
  intro m
  induction m with
  | zero =>
    intro i n f hi hm hf ht
    obtain ⟨n, rfl⟩ : ∃ q, n = q + 1 := ⟨n - 1, by omega⟩
    have e : f = c.firm := by
      have : i = 3 := by omega
      subst this
      rw [List.take_of_length_le (by omega), List.take_of_length_le (by omega)] at ht
      exact ht
    rw [caballaw12_DiskAll.l2, if_neg (by simp; omega), e]
  | succ m ih =>
    intro i n f hi hm hf ht
    obtain ⟨n, rfl⟩ : ∃ q, n = q + 1 := ⟨n - 1, by omega⟩
    have ic : i < c.firm.length := by omega
    have hnext : iadd .i64 (i : Int) 1 = ((i + 1 : Nat) : Int) := by rw [add64 (by omega)]; omega
    rw [caballaw12_DiskAll.l2, if_pos (by simp; omega), hc.same, settled_ok c hc.wf i ic]
    simp only [Option.bind_some]
    rw [if_pos (by omega), set_ok (by omega)]
    simp only [Option.bind_some, hnext]
    refine ih (i + 1) n _ (by omega) (by omega) (by simp [hf]) ?_
    rw [List.take_add_one, List.take_add_one, List.take_set_of_le (by omega), ht, List.getElem?_set_self (by omega), List.getElem?_eq_getElem ic]

theorem all_l3 (acts : List caballaw12_Act) (a : disk_Disk) (x5 : Int × disk_Disk) (N : Nat) (hN : N ≤ 500) (ha : Live N a) (h5 : Live N x5.2) (h0 : x5.1 = 0) (e : x5.2.firm = sett (fun _ => 256) 0 a.loose a.firm) : ∀ (m i n : Nat) (c : disk_Disk), i + m = 60 → m < n → Live (N + i) c →
    caballaw12_DiskAll.l3 4000 acts a.firm a.loose a.fuse a.dead (List.replicate a.loose.length 4) x5 n (i : Int) c.fuse c.dead c.firm c.loose = some true := by
  have stop : ∀ (c : disk_Disk) (M : Nat), M ≤ 1000 → N ≤ M → Live M c → caballaw12_DiskAll.j2 4000 a.firm a.loose a.fuse a.dead (List.replicate a.loose.length 4) x5 c.fuse c.dead c.firm c.loose = some true := fun c M hM hNM hc => by
    have up : ∀ d, Live N d → Live M d := fun d h => ⟨⟨h.wf.blocks, h.wf.size, h.wf.each, by have := h.wf.few; omega⟩, h.three, h.fuse, h.dead⟩
    have t := all_l2 a c x5 (List.replicate a.loose.length 4) M hc 3 0 4000 (List.replicate 3 []) (by omega) (by omega) rfl rfl
    rw [show ((0 : Nat) : Int) = 0 from rfl] at t
    unfold caballaw12_DiskAll.j2
    rw [t]
    exact all_j3 a c x5 M hM (up _ ha) hc (up _ h5) h0 e
  intro m
  induction m with
  | zero =>
    intro i n c hi hm hc
    obtain ⟨n, rfl⟩ : ∃ q, n = q + 1 := ⟨n - 1, by omega⟩
    have e : (if decide ((i : Int) < (acts.length : Int)) = true then decide ((i : Int) < 60) else false) = false := by
      have : decide ((i : Int) < 60) = false := decide_eq_false (by omega)
      rw [this]; split <;> rfl
    rw [caballaw12_DiskAll.l3, e]
    simp only [Option.bind_some, Bool.false_eq_true, if_false]
    exact stop c _ (by omega) (by omega) hc
  | succ m ih =>
    intro i n c hi hm hc
    obtain ⟨n, rfl⟩ : ∃ q, n = q + 1 := ⟨n - 1, by omega⟩
    by_cases hil : i < acts.length
    · have e : (if decide ((i : Int) < (acts.length : Int)) = true then decide ((i : Int) < 60) else false) = true := by
        rw [decide_eq_true (by omega), decide_eq_true (by omega)]; rfl
      have hnext : iadd .i64 (i : Int) 1 = ((i + 1 : Nat) : Int) := by rw [add64 (by omega)]; omega
      rw [caballaw12_DiskAll.l3, e]
      simp only [Option.bind_some, if_true]
      rw [at_get hil, hc.same]
      obtain ⟨dat, q1, q2⟩ := data_ok acts[i].B 0 (by omega)
      obtain ⟨w1, w2⟩ := live_write (by omega) c hc _ (spot_ok acts[i].At) dat (by omega)
      simp only [Option.bind_some, q1, w1, hnext]
      exact ih (i + 1) n ⟨_, _, -1, false⟩ (by omega) (by omega) w2
    · have e : (if decide ((i : Int) < (acts.length : Int)) = true then decide ((i : Int) < 60) else false) = false := by
        rw [decide_eq_false (by omega)]; rfl
      rw [caballaw12_DiskAll.l3, e]
      simp only [Option.bind_some, Bool.false_eq_true, if_false]
      exact stop c _ (by omega) (by omega) hc

theorem all_j1 (acts : List caballaw12_Act) (a c : disk_Disk) (N : Nat) (hN : N ≤ 200) (ha : Live N a) (hc : Live N c) :
    caballaw12_DiskAll.j1 4000 acts a.fuse a.dead a.fuse a.dead c.fuse c.dead (List.replicate a.loose.length 4) a.firm a.loose a.firm a.loose c.firm c.loose = some true := by
  unfold caballaw12_DiskAll.j1
  rw [ha.same, hc.same]
  obtain ⟨s1, s2⟩ := live_sync (by omega) a ha
  obtain ⟨t1, t2⟩ := live_sync (by omega) c hc
  rw [s1, t1]
  simp only [Option.bind_some]
  have t3 : Live (N + 20) ⟨sett (fun _ => 256) 0 c.loose c.firm, [], -1, false⟩ := ⟨⟨t2.wf.blocks, t2.wf.size, t2.wf.each, Nat.zero_le _⟩, t2.three, rfl, rfl⟩
  have := all_l3 acts a (0, ⟨sett (fun _ => 256) 0 a.loose a.firm, [], -1, false⟩) N (by omega) ha s2 rfl rfl 40 20 4000 ⟨sett (fun _ => 256) 0 c.loose c.firm, [], -1, false⟩ (by omega) (by omega) t3
  rw [show ((20 : Nat) : Int) = 20 from rfl] at this
  exact this

theorem all_l4 (acts : List caballaw12_Act) : ∀ (m i n : Nat) (a c : disk_Disk), i + m = 60 → m < n → Live i a → Live i c → a.loose.length = i →
    caballaw12_DiskAll.l4 4000 acts n (i : Int) a.fuse a.dead a.fuse a.dead c.fuse c.dead (List.replicate a.loose.length 4) a.firm a.loose a.firm a.loose c.firm c.loose = some true := by
  have hL : (1000000 : Nat) ≤ lim := by unfold lim; omega
  intro m
  induction m with
  | zero =>
    intro i n a c hi hm ha hc hal
    obtain ⟨n, rfl⟩ : ∃ q, n = q + 1 := ⟨n - 1, by omega⟩
    have e : (if decide ((i : Int) < (acts.length : Int)) = true then decide ((i : Int) < 60) else false) = false := by
      have : decide ((i : Int) < 60) = false := decide_eq_false (by omega)
      rw [this]; split <;> rfl
    rw [caballaw12_DiskAll.l4, e]
    simp only [Option.bind_some, Bool.false_eq_true, if_false]
    exact all_j1 acts a c i (by omega) ha hc
  | succ m ih =>
    intro i n a c hi hm ha hc hal
    obtain ⟨n, rfl⟩ : ∃ q, n = q + 1 := ⟨n - 1, by omega⟩
    by_cases hil : i < acts.length
    · have e : (if decide ((i : Int) < (acts.length : Int)) = true then decide ((i : Int) < 60) else false) = true := by
        rw [decide_eq_true (by omega), decide_eq_true (by omega)]; rfl
      have hnext : iadd .i64 (i : Int) 1 = ((i + 1 : Nat) : Int) := by rw [add64 (by omega)]; omega
      obtain ⟨dat, q1, q2⟩ := data_ok acts[i].B 0 (by omega)
      obtain ⟨w1, w2⟩ := live_write (by omega) a ha _ (spot_ok acts[i].At) dat (by omega)
      obtain ⟨z1, z2⟩ := live_write (by omega) c hc _ (spot_ok acts[i].At) dat (by omega)
      rw [caballaw12_DiskAll.l4, e]
      simp only [Option.bind_some, if_true]
      rw [at_get hil, ha.same, hc.same]
      simp only [Option.bind_some, q1, w1, z1]
      have er : List.replicate a.loose.length (4 : Int) ++ [4] = List.replicate (a.loose ++ [(⟨IntKind.wrap .i64 (irem (IntKind.wrap .u64 acts[i].At) 3), dat⟩ : disk_write)]).length 4 := by rw [List.length_append, List.length_singleton, List.replicate_succ']
      have rlen : (List.replicate a.loose.length (4 : Int)).length + [(4 : Int)].length ≤ lim := by rw [List.length_replicate, List.length_singleton]; omega
      by_cases c20 : (i : Int) < 20
      · rw [if_pos (decide_eq_true c20)]
        unfold caballaw12_DiskAll.j5
        rw [if_pos rlen, hnext, er]
        exact ih (i + 1) n ⟨_, _, -1, false⟩ ⟨_, _, -1, false⟩ (by omega) (by omega) w2 z2 (by simp [hal])
      · rw [if_neg (by simpa using c20)]
        unfold caballaw12_DiskAll.j5
        rw [if_pos rlen, hnext, er]
        exact ih (i + 1) n ⟨_, _, -1, false⟩ c (by omega) (by omega) w2 ⟨⟨hc.wf.blocks, hc.wf.size, hc.wf.each, by have := hc.wf.few; omega⟩, hc.three, hc.fuse, hc.dead⟩ (by simp [hal])
    · have e : (if decide ((i : Int) < (acts.length : Int)) = true then decide ((i : Int) < 60) else false) = false := by
        rw [decide_eq_false (by omega)]; rfl
      rw [caballaw12_DiskAll.l4, e]
      simp only [Option.bind_some, Bool.false_eq_true, if_false]
      exact all_j1 acts a c i (by omega) ha hc

end Go.Proofs.Pure
