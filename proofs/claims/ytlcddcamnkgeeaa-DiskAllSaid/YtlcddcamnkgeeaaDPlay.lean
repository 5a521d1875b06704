/- What is done to a disk; that its two keepers show the same. No program in sight. -/
import Derived.Test.YtlcddcamnkgeeaaDDisk
namespace Go.Proofs.Pure
open Go Go.RowKit Go.Proofs.Kit
set_option linter.unusedVariables false

/-- an act's parts are of their kinds -/
structure ActOk (x : caballaw12_Act) : Prop where
  long : -128 ≤ x.Long ∧ x.Long ≤ 127
  keep : ∀ c ∈ x.Keep, 0 ≤ c ∧ c < 256
theorem act_ok {x : caballaw12_Act} (h : Fine k_caballaw12_Act x) : ActOk x := by
  have h1 := Fine.iso h
  obtain ⟨_, h2⟩ := Fine.pair h1
  obtain ⟨_, h3⟩ := Fine.pair h2
  obtain ⟨_, h4⟩ := Fine.pair h3
  obtain ⟨_, h5⟩ := Fine.pair h4
  obtain ⟨h6, h7⟩ := Fine.pair h5
  obtain ⟨h8, _⟩ := Fine.pair h7
  constructor
  · have := Fine.int h6
    unfold IntKind.has IntKind.min IntKind.max at this; simp [IntKind.signed, IntKind.bits] at this
    exact this
  · intro c hc
    have := Fine.int ((Fine.sl h8).2 c hc)
    unfold IntKind.has IntKind.min IntKind.max at this; simp [IntKind.signed, IntKind.bits] at this; omega

theorem plays_l2 {N : Nat} (hN : N ≤ 1000) (d : disk_Disk) (h : Wf N d) (y : Int) (L : Int → Int → Bool → Int → Bool → (List (List Int)) → (List disk_write) → (List (List Int)) → (List Int) → (List (List Int)) → Option Bool) : ∀ (m i n : Nat), i + m = d.firm.length + 2 → m < n →
    caballaw12_DiskPlays.l2 4000 d.firm d.firm d.loose d.fuse d.dead (d.loose.map (·.at_)) (d.loose.map (·.data)) d.fuse d.dead y L n ((i : Int) - 1) = L (iadd .i64 y 1) d.fuse d.dead d.fuse d.dead d.firm d.loose d.firm (d.loose.map (·.at_)) (d.loose.map (·.data)) := by
  have hbl := h.blocks
  intro m
  induction m with
  | zero =>
    intro i n hi hm
    obtain ⟨n, rfl⟩ : ∃ q, n = q + 1 := ⟨n - 1, by omega⟩
    rw [caballaw12_DiskPlays.l2, if_neg (by simp; omega)]; rfl
  | succ m ih =>
    intro i n hi hm
    obtain ⟨n, rfl⟩ : ∃ q, n = q + 1 := ⟨n - 1, by omega⟩
    have e1 : (⟨d.firm, d.loose, d.fuse, d.dead⟩ : disk_Disk) = d := rfl
    have e2 : (⟨d.firm, d.loose.map (·.at_), d.loose.map (·.data), d.fuse, d.dead⟩ : cabalref12_Disk) = twin d := rfl
    have hnext : iadd .i64 ((i : Int) - 1) 1 = ((i + 1 : Nat) : Int) - 1 := by rw [add64 (by omega)]; omega
    have t := ih (i + 1) n (by omega) (by omega)
    rw [caballaw12_DiskPlays.l2, if_pos (by simp; omega), e1, e2, has_ref]
    by_cases c : 0 ≤ (i : Int) - 1 ∧ (i : Int) - 1 < d.firm.length
    · obtain ⟨q, hq⟩ : ∃ q : Nat, (i : Int) - 1 = q := ⟨((i : Int) - 1).toNat, by omega⟩
      have hql : q < d.firm.length := by omega
      obtain ⟨r1, r2⟩ := read_ok hN d h q hql
      rw [decide_eq_true c]
      rw [hq] at hnext ⊢
      simp only [r1, r2, Option.bind_some, Bool.not_true, Bool.false_eq_true, if_false, bne_self_eq_false, beq_self_eq_true, if_true, decide_true, settled_ok d h q hql, at_get hql]
      rw [if_pos (fun _ => ⟨by omega, by omega⟩)]
      simp only [caballaw12_DiskPlays.j5, hnext]
      exact t
    · rw [read_out d _ c, decide_eq_false c]
      simp only [Option.bind_some, Bool.not_false, if_true, decide_true, Bool.not_true, Bool.false_eq_true, if_false, bne_self_eq_false, beq_self_eq_true, settled_out d _ c, caballaw12_DiskPlays.j5, hnext]
      exact t

theorem plays_j4 {N : Nat} (hN : N ≤ 1000) (d : disk_Disk) (h : Wf N d) (y : Int) (L : Int → Int → Bool → Int → Bool → (List (List Int)) → (List disk_write) → (List (List Int)) → (List Int) → (List (List Int)) → Option Bool) :
    caballaw12_DiskPlays.j4 4000 y L true d.fuse d.dead d.fuse d.dead d.firm d.loose d.firm (d.loose.map (·.at_)) (d.loose.map (·.data)) = L (iadd .i64 y 1) d.fuse d.dead d.fuse d.dead d.firm d.loose d.firm (d.loose.map (·.at_)) (d.loose.map (·.data)) := by
  have hbl := h.blocks
  unfold caballaw12_DiskPlays.j4
  simp only [Bool.not_true, beq_self_eq_true, if_true, disk_Disk_Dead, disk_Disk_Blocks, Option.bind_some, Bool.false_eq_true, if_false, decide_true, bne_self_eq_false]
  have := plays_l2 hN d h y L (d.firm.length + 2) 0 4000 (by omega) (by omega)
  rw [show ((0 : Nat) : Int) - 1 = -1 from rfl] at this
  exact this

theorem plays_l1 (acts : List caballaw12_Act) (hacts : ∀ x ∈ acts, ActOk x) : ∀ (m i n : Nat) (d : disk_Disk), i + m = 80 → m < n → Wf i d →
    caballaw12_DiskPlays.l1 4000 acts n (i : Int) d.fuse d.dead d.fuse d.dead d.firm d.loose d.firm (d.loose.map (·.at_)) (d.loose.map (·.data)) = some true := by
  intro m
  induction m with
  | zero =>
    intro i n d hi hm h
    obtain ⟨n, rfl⟩ : ∃ q, n = q + 1 := ⟨n - 1, by omega⟩
    have e : (if decide ((i : Int) < (acts.length : Int)) = true then decide ((i : Int) < 80) else false) = false := by
      have : decide ((i : Int) < 80) = false := decide_eq_false (by omega)
      rw [this]; split <;> rfl
    rw [caballaw12_DiskPlays.l1, e]
    simp only [Option.bind_some, Bool.false_eq_true, if_false, caballaw12_DiskPlays.j2, alive12]
  | succ m ih =>
    intro i n d hi hm h
    obtain ⟨n, rfl⟩ : ∃ q, n = q + 1 := ⟨n - 1, by omega⟩
    by_cases hil : i < acts.length
    · have e : (if decide ((i : Int) < (acts.length : Int)) = true then decide ((i : Int) < 80) else false) = true := by
        rw [decide_eq_true (by omega), decide_eq_true (by omega)]; rfl
      have ha := hacts _ (List.getElem_mem hil)
      have hnext : iadd .i64 (i : Int) 1 = ((i + 1 : Nat) : Int) := by rw [add64 (by omega)]; omega
      have e1 : (⟨d.firm, d.loose, d.fuse, d.dead⟩ : disk_Disk) = d := rfl
      have e2 : (⟨d.firm, d.loose.map (·.at_), d.loose.map (·.data), d.fuse, d.dead⟩ : cabalref12_Disk) = twin d := rfl
      have goal : ∀ d' : disk_Disk, Wf (i + 1) d' → caballaw12_DiskPlays.j4 4000 (i : Int) (caballaw12_DiskPlays.l1 4000 acts n) true d'.fuse d'.dead d'.fuse d'.dead d'.firm d'.loose d'.firm (d'.loose.map (·.at_)) (d'.loose.map (·.data)) = some true := fun d' h' => by
        rw [plays_j4 (by omega) d' h', hnext]
        exact ih (i + 1) n d' (by omega) (by omega) h'
      have h1 : Wf (i + 1) d := ⟨h.blocks, h.size, h.each, by have := h.few; omega⟩
      rw [caballaw12_DiskPlays.l1, e]
      simp only [Option.bind_some, if_true]
      rw [at_get hil]
      simp only [Option.bind_some]
      rw [e1, e2]
      by_cases c0 : irem acts[i].Kind 5 = 0
      · rw [if_pos (by simp [c0])]
        obtain ⟨dat, q1, _⟩ := data_ok acts[i].B acts[i].Long ha.long
        obtain ⟨c, d', w1, w2, w3, _⟩ := write_ok (by omega) d h acts[i].At dat
        simp only [q1, Option.bind_some, w1, w2, beq_self_eq_true]
        exact goal d' w3
      rw [if_neg (by simp [c0])]
      by_cases c1 : irem acts[i].Kind 5 = 1
      · rw [if_pos (by simp [c1])]
        obtain ⟨c, d', w1, w2, w3, _⟩ := sync_ok (by omega) d h1
        simp only [Option.bind_some, w1, w2, beq_self_eq_true]
        exact goal d' w3
      rw [if_neg (by simp [c1])]
      by_cases c2 : irem acts[i].Kind 5 = 2
      · rw [if_pos (by simp [c2])]
        obtain ⟨d', w1, w2, w3, _⟩ := fuse_ok d h1 acts[i].N
        simp only [Option.bind_some, w1, w2]
        exact goal d' w3
      rw [if_neg (by simp [c2])]
      by_cases c3 : irem acts[i].Kind 5 = 3
      · rw [if_pos (by simp [c3])]
        obtain ⟨w1, w2, w3, _⟩ := crash_ok (by omega) d h1 acts[i].Keep ha.keep
        simp only [Option.bind_some, w1, w2]
        exact goal ⟨_, [], -1, false⟩ ⟨w3.blocks, w3.size, w3.each, by have := w3.few; omega⟩
      rw [if_neg (by simp [c3])]
      exact goal d h1
    · have e : (if decide ((i : Int) < (acts.length : Int)) = true then decide ((i : Int) < 80) else false) = false := by
        rw [decide_eq_false (by omega)]; rfl
      rw [caballaw12_DiskPlays.l1, e]
      simp only [Option.bind_some, Bool.false_eq_true, if_false, caballaw12_DiskPlays.j2, alive12]

end Go.Proofs.Pure
