/- Disks: the two ways of keeping them come to the same. No program in sight. -/
import Derived.Test.YtlcddcamnkgeeaaSPure
import Derived.Test.YtlcddcamnkgeeaaNum
namespace Go.Proofs.Pure
open Go Go.RowKit Go.Proofs.Kit
set_option linter.unusedVariables false

theorem alive12 : caballaw12_alive 4000 = some true := by decide +kernel

theorem set_ok {α : Type} {l : List α} {i : Nat} {x : α} (h : i < l.length) : set? l (i : Int) x = some (l.set i x) := by
  unfold set?; rw [if_pos ⟨by omega, by omega⟩]; simp

/-- a disk as it should be, with not more than n loose writes -/
structure Wf (n : Nat) (d : disk_Disk) : Prop where
  blocks : d.firm.length ≤ 1024
  size : ∀ b ∈ d.firm, b.length = 256
  each : ∀ w ∈ d.loose, 0 ≤ w.at_ ∧ w.at_ < d.firm.length ∧ w.data.length = 256
  few : d.loose.length ≤ n
/-- the same disk as the other program keeps it -/
def twin (d : disk_Disk) : cabalref12_Disk := ⟨d.firm, d.loose.map (·.at_), d.loose.map (·.data), d.fuse, d.dead⟩

theorem has_eq (d : disk_Disk) (p : Int) : disk_Disk_has 4000 d p = some (decide (0 ≤ p ∧ p < d.firm.length)) := by
  unfold disk_Disk_has disk_Disk_Blocks
  by_cases h : 0 ≤ p
  · simp [h]
  · simp [h]
theorem has_ref (d : disk_Disk) (p : Int) : cabalref12_Disk_Has 4000 (twin d) p = some (decide (0 ≤ p ∧ p < d.firm.length)) := by
  unfold cabalref12_Disk_Has twin
  by_cases h : 0 ≤ p
  · simp [h]
  · simp [h]

theorem burn_ok (d : disk_Disk) (hd : d.dead = false) : ∃ b fu de, disk_Disk_burn 4000 d = some (b, ⟨d.firm, d.loose, fu, de⟩) ∧ cabalref12_Disk_burn 4000 (twin d) = some (b, ⟨d.firm, d.loose.map (·.at_), d.loose.map (·.data), fu, de⟩) ∧ (d.fuse = -1 → b = true ∧ fu = -1 ∧ de = false) := by
  unfold disk_Disk_burn cabalref12_Disk_burn
  by_cases h : d.fuse = 0
  · have t : (d.fuse == 0) = true := by simp [h]
    simp only [twin, t, if_true, disk_Disk_burn.j1]
    exact ⟨false, d.fuse, true, rfl, rfl, fun e => by omega⟩
  · have t : (d.fuse == 0) = false := by simp [h]
    by_cases g : d.fuse > 0
    · have t2 : decide (d.fuse > 0) = true := decide_eq_true g
      simp only [twin, t, t2, Bool.false_eq_true, if_false, if_true, disk_Disk_burn.j1, cabalref12_Disk_burn.j1, hd]
      exact ⟨true, isub .i64 d.fuse 1, false, rfl, rfl, fun e => by omega⟩
    · have t2 : decide (d.fuse > 0) = false := decide_eq_false g
      simp only [twin, t, t2, Bool.false_eq_true, if_false, disk_Disk_burn.j1, cabalref12_Disk_burn.j1, hd]
      exact ⟨true, d.fuse, false, rfl, rfl, fun e => ⟨rfl, e, rfl⟩⟩

theorem write_ok {n : Nat} (hn : n ≤ 1000) (d : disk_Disk) (h : Wf n d) (p : Int) (dat : List Int) : ∃ c d', disk_Disk_Write 4000 d p dat = some (c, d') ∧ cabalref12_Disk_Write 4000 (twin d) p dat = some (c, twin d') ∧ Wf (n + 1) d' ∧ d'.firm = d.firm ∧
    (d.dead = false → d.fuse = -1 → 0 ≤ p → p < d.firm.length → dat.length = 256 → c = 0 ∧ d' = ⟨d.firm, d.loose ++ [⟨p, dat⟩], -1, false⟩) := by
  have hL : (1000000 : Nat) ≤ lim := by unfold lim; omega
  unfold disk_Disk_Write cabalref12_Disk_Write
  rw [has_eq, has_ref]
  simp only [Option.bind_some]
  have wf1 : Wf (n + 1) d := ⟨h.blocks, h.size, h.each, by have := h.few; omega⟩
  by_cases h1 : 0 ≤ p ∧ p < d.firm.length
  · by_cases h2 : dat.length = 256
    · have e : (if (!decide (0 ≤ p ∧ p < (d.firm.length : Int))) = true then true else (dat.length : Int) != 256) = false := by simp [h1, h2]
      rw [e]
      simp only [Bool.false_eq_true, if_false]
      by_cases h3 : d.dead = true
      · rw [if_pos h3, if_pos (show (twin d).Dead = true from h3)]
        exact ⟨7, d, rfl, rfl, wf1, rfl, fun e => by rw [h3] at e; cases e⟩
      · have h3' : d.dead = false := by simpa using h3
        have hfew := h.few
        have r1 : (twin d).Dead = false := h3'
        have r2 : (twin d).At.length + [p].length ≤ lim := by simp [twin]; omega
        have r3 : (twin d).Data.length + [dat].length ≤ lim := by simp [twin]; omega
        have r4 : dat.length ≤ (256 : Int).toNat - (0 : Int).toNat := by rw [h2]; decide
        rw [if_neg h3, if_pos r4, r1]
        simp only [Bool.false_eq_true, if_false]
        rw [if_pos r2, if_pos r3]
        have e2 : ({ (⟨p, List.replicate 256 (0 : Int)⟩ : disk_write) with data := (((⟨p, List.replicate 256 (0 : Int)⟩ : disk_write).data).take (0 : Int).toNat ++ dat ++ ((⟨p, List.replicate 256 (0 : Int)⟩ : disk_write).data).drop ((0 : Int).toNat + dat.length)) } : disk_write) = ⟨p, dat⟩ := by
          rw [List.drop_eq_nil_of_le (by rw [h2, List.length_replicate]; decide), Int.toNat_zero, List.take_zero, List.nil_append, List.append_nil]
        rw [e2]
        rw [if_pos (by simp; omega)]
        obtain ⟨b, fu, de, b1, b2, b3⟩ := burn_ok ⟨d.firm, d.loose ++ [⟨p, dat⟩], d.fuse, d.dead⟩ h3'
        have e3 : (⟨(twin d).Firm, (twin d).At ++ [p], (twin d).Data ++ [dat], (twin d).Fuse, false⟩ : cabalref12_Disk) = twin ⟨d.firm, d.loose ++ [⟨p, dat⟩], d.fuse, d.dead⟩ := by simp [twin, h3']
        rw [e3, b1, b2]
        simp only [Option.bind_some]
        have wf2 : ∀ f e, Wf (n + 1) ⟨d.firm, d.loose ++ [⟨p, dat⟩], f, e⟩ := fun f e => ⟨h.blocks, h.size, fun w hw => by
          rcases List.mem_append.1 hw with q | q
          · exact h.each w q
          · simp at q; subst q; exact ⟨h1.1, h1.2, h2⟩, by simp; omega⟩
        cases b with
        | true => exact ⟨0, _, rfl, rfl, wf2 _ _, rfl, fun _ hf _ _ _ => by obtain ⟨_, q1, q2⟩ := b3 hf; subst q1 q2; exact ⟨rfl, rfl⟩⟩
        | false => exact ⟨7, _, rfl, rfl, wf2 _ _, rfl, fun _ hf _ _ _ => by obtain ⟨q, _⟩ := b3 hf; cases q⟩
    · have e : (if (!decide (0 ≤ p ∧ p < (d.firm.length : Int))) = true then true else (dat.length : Int) != 256) = true := by simp [h1]; omega
      rw [e]
      simp only [if_true]
      exact ⟨1, d, rfl, rfl, wf1, rfl, fun _ _ _ _ q => absurd q h2⟩
  · have e : (if (!decide (0 ≤ p ∧ p < (d.firm.length : Int))) = true then true else (dat.length : Int) != 256) = true := by simp [h1]
    rw [e]
    simp only [if_true]
    exact ⟨1, d, rfl, rfl, wf1, rfl, fun _ _ q1 q2 _ => absurd ⟨q1, q2⟩ h1⟩

/-- the last loose write of a block -/
def last (p : Int) : List disk_write → List Int → List Int
  | [], y => y
  | w :: l, y => last p l (if w.at_ = p then w.data else y)
theorem last_append (p : Int) (a b : List disk_write) (y : List Int) : last p (a ++ b) y = last p b (last p a y) := by
  induction a generalizing y with
  | nil => rfl
  | cons w a ih => exact ih _
theorem cut256 {y : List Int} (h : y.length = 256) : cut? y 0 (256 : Int) = some y := by
  have := cut_pre (l := y) (n := 256) (by omega)
  rw [List.take_of_length_le (by omega)] at this; exact this

theorem read_l1 {N : Nat} (hN : N ≤ 1000) (d : disk_Disk) (h : Wf N d) (p : Int) : ∀ (m i n : Nat) (y : List Int), i + m = d.loose.length → m < n → y.length = 256 →
    disk_Disk_Read.l1 4000 d p n (i : Int) y = some (last p (d.loose.drop i) y, 0) := by
  have hfew := h.few
  intro m
  induction m with
  | zero =>
    intro i n y hi hm hy
    obtain ⟨n, rfl⟩ : ∃ q, n = q + 1 := ⟨n - 1, by omega⟩
    rw [disk_Disk_Read.l1, if_neg (by simp; omega), List.drop_eq_nil_of_le (by omega), disk_Disk_Read.j1, cut256 hy]
    rfl
  | succ m ih =>
    intro i n y hi hm hy
    obtain ⟨n, rfl⟩ : ∃ q, n = q + 1 := ⟨n - 1, by omega⟩
    have hil : i < d.loose.length := by omega
    have hd : d.loose.drop i = d.loose[i] :: d.loose.drop (i + 1) := List.drop_eq_getElem_cons hil
    have hnext : iadd .i64 (i : Int) 1 = ((i + 1 : Nat) : Int) := by rw [add64 (by omega)]; omega
    rw [disk_Disk_Read.l1, if_pos (by simp; omega), at_get hil, hd]
    simp only [Option.bind_some, disk_Disk_Read.j2, hnext]
    unfold last
    by_cases c : d.loose[i].at_ = p
    · rw [if_pos (by simpa using c), if_pos c]
      exact ih (i + 1) n _ (by omega) (by omega) (h.each _ (List.getElem_mem hil)).2.2
    · rw [if_neg (by simpa using c), if_neg c]
      exact ih (i + 1) n _ (by omega) (by omega) hy
theorem ref_read_l1 {N : Nat} (hN : N ≤ 1000) (d : disk_Disk) (h : Wf N d) (p : Int) (q : Nat) (hp : p = (q : Int)) (hq : q < d.firm.length) : ∀ (i n : Nat), i ≤ d.loose.length → i < n →
    cabalref12_Disk_Read.l1 4000 (twin d) p n ((i : Int) - 1) = some (last p (d.loose.take i) d.firm[q]) := by
  have hfew := h.few
  intro i
  induction i with
  | zero =>
    intro n hi hm
    obtain ⟨n, rfl⟩ : ∃ q, n = q + 1 := ⟨n - 1, by omega⟩
    rw [cabalref12_Disk_Read.l1, if_neg (by simp), cabalref12_Disk_Read.j1]
    simp only [twin]
    rw [hp, at_get hq]
    rfl
  | succ i ih =>
    intro n hi hm
    obtain ⟨n, rfl⟩ : ∃ q, n = q + 1 := ⟨n - 1, by omega⟩
    have hil : i < d.loose.length := by omega
    have ht : d.loose.take (i + 1) = d.loose.take i ++ [d.loose[i]] := by rw [List.take_add_one]; simp [hil]
    have e : ((i + 1 : Nat) : Int) - 1 = (i : Int) := by omega
    rw [e, cabalref12_Disk_Read.l1, if_pos (by simp)]
    have a1 : at? (twin d).At (i : Int) = some d.loose[i].at_ := by rw [at_get (by simp [twin]; omega)]; simp [twin]
    have a2 : at? (twin d).Data (i : Int) = some d.loose[i].data := by rw [at_get (by simp [twin]; omega)]; simp [twin]
    rw [a1, ht, last_append]
    simp only [Option.bind_some, a2]
    by_cases c : d.loose[i].at_ = p
    · rw [if_pos (by simpa using c)]
      simp [last, c]
    · rw [if_neg (by simpa using c), sub64 (by omega), ih n (by omega) (by omega)]
      simp [last, c]
theorem read_ok {N : Nat} (hN : N ≤ 1000) (d : disk_Disk) (h : Wf N d) (q : Nat) (hq : q < d.firm.length) : disk_Disk_Read 4000 d (q : Int) = some (last (q : Int) d.loose d.firm[q], 0) ∧ cabalref12_Disk_Read 4000 (twin d) (q : Int) = some (last (q : Int) d.loose d.firm[q]) := by
  have hfew := h.few
  constructor
  · unfold disk_Disk_Read
    rw [has_eq]
    simp only [Option.bind_some]
    rw [if_neg (by simp; omega), at_get hq]
    simp only [Option.bind_some]
    exact read_l1 hN d h q d.loose.length 0 4000 _ (by omega) (by omega) (h.size _ (List.getElem_mem hq))
  · unfold cabalref12_Disk_Read
    have e : ((twin d).At.length : Int) = (d.loose.length : Int) := by simp [twin]
    rw [e, sub64 (by omega), ref_read_l1 hN d h q q rfl hq d.loose.length 4000 (by omega) (by omega), List.take_of_length_le (by omega)]
theorem settled_ok {N : Nat} (d : disk_Disk) (h : Wf N d) (q : Nat) (hq : q < d.firm.length) : disk_Disk_Settled 4000 d (q : Int) = some d.firm[q] := by
  unfold disk_Disk_Settled
  rw [has_eq]
  simp only [Option.bind_some]
  rw [if_neg (by simp; omega), at_get hq]
  simp only [Option.bind_some]
  rw [cut256 (h.size _ (List.getElem_mem hq))]
  rfl
/-- loose writes are laid down, so much of each -/
def sett (ns : Nat → Nat) : Nat → List disk_write → List (List Int) → List (List Int)
  | _, [], f => f
  | i, w :: l, f => sett ns (i + 1) l (f.set w.at_.toNat (w.data.take (ns i) ++ (f.getD w.at_.toNat []).drop (ns i)))
def keepN (keep : List Int) (i : Nat) : Nat := if i < keep.length then 64 * ((keep.getD i 0).toNat % 5) else 0
theorem keepN_le (keep : List Int) (i : Nat) : keepN keep i ≤ 256 := by unfold keepN; split <;> omega

/-- blocks of their size -/
def Blk (n : Nat) (f : List (List Int)) : Prop := f.length = n ∧ ∀ b ∈ f, b.length = 256
theorem Blk.get {n : Nat} {f : List (List Int)} (h : Blk n f) (i : Nat) (hi : i < n) : (f.getD i []).length = 256 ∧ at? f (i : Int) = some (f.getD i []) := by
  have hl : i < f.length := by rw [h.1]; exact hi
  have e : f.getD i [] = f[i] := by simp [List.getD, hl]
  rw [e]
  exact ⟨h.2 _ (List.getElem_mem hl), at_get hl⟩
theorem Blk.set {n : Nat} {f : List (List Int)} (h : Blk n f) (i : Nat) {b : List Int} (hb : b.length = 256) : Blk n (f.set i b) := by
  refine ⟨by rw [List.length_set]; exact h.1, fun x hx => ?_⟩
  rcases List.mem_or_eq_of_mem_set hx with q | q
  · exact h.2 x q
  · rw [q]; exact hb
theorem mix_len {a b : List Int} (n : Nat) (ha : a.length = 256) (hb : b.length = 256) (hn : n ≤ 256) : (a.take n ++ b.drop n).length = 256 := by
  rw [List.length_append, List.length_take, List.length_drop]; omega
theorem sett_blk {n : Nat} (ns : Nat → Nat) (hns : ∀ i, ns i ≤ 256) (l : List disk_write) : ∀ (i : Nat) (f : List (List Int)), (∀ w ∈ l, 0 ≤ w.at_ ∧ w.at_ < n ∧ w.data.length = 256) → Blk n f → Blk n (sett ns i l f) := by
  induction l with
  | nil => intro i f _ hf; exact hf
  | cons w l ih =>
    intro i f hw hf
    obtain ⟨a, b, c⟩ := hw w (by simp)
    exact ih (i + 1) _ (fun x hx => hw x (by simp [hx])) (hf.set _ (mix_len _ c (hf.get w.at_.toNat (by omega)).1 (hns i)))
theorem set_getD {f : List (List Int)} {i : Nat} : f.set i (f.getD i []) = f := by
  by_cases h : i < f.length
  · simp [List.getD, h]
  · rw [List.set_eq_of_length_le (by omega)]
/-- one write's bytes in the first way -/
theorem mix_first {w : disk_write} {f : List (List Int)} {n c : Nat} (hf : Blk n f) (a : 0 ≤ w.at_ ∧ w.at_ < n ∧ w.data.length = 256) (hc : c ≤ 256) {R : Type} (K : List (List Int) → Option R) :
    (cut? w.data 0 (c : Int)).bind (fun x3 => if x3.length ≤ ((c : Int).toNat - (0 : Int).toNat) then (at? f w.at_).bind fun x4 => (set? f w.at_ (x4.take (0 : Int).toNat ++ x3 ++ x4.drop ((0 : Int).toNat + x3.length))).bind K else none) = K (f.set w.at_.toNat (w.data.take c ++ (f.getD w.at_.toNat []).drop c)) := by
  obtain ⟨a1, a2, a3⟩ := a
  obtain ⟨q, hq⟩ : ∃ q : Nat, w.at_ = q := ⟨w.at_.toNat, by omega⟩
  obtain ⟨g1, g2⟩ := hf.get q (by omega)
  rw [cut_pre (by omega)]
  simp only [Option.bind_some]
  rw [if_pos (by rw [List.length_take, Int.toNat_natCast, Int.toNat_zero]; omega), hq, g2]
  simp only [Option.bind_some, Int.toNat_natCast]
  rw [set_ok (by have := hf.1; omega)]
  simp only [Option.bind_some, Int.toNat_zero, List.take_zero, List.nil_append, Nat.zero_add, List.length_take]
  rw [Nat.min_eq_left (by omega)]

theorem crash_1 (keep : List Int) (hk : ∀ c ∈ keep, 0 ≤ c ∧ c < 256) (i : Nat) (hi : i < 100000) : ∃ v, disk_Disk_Crash_1 4000 (i : Int) keep = some v ∧ imul .i64 v 64 = ((keepN keep i : Nat) : Int) := by
  unfold disk_Disk_Crash_1 keepN
  by_cases h : i < keep.length
  · have hb := hk _ (List.getElem_mem h)
    have e : keep.getD i 0 = keep[i] := by simp [List.getD, h]
    rw [if_pos (by simp; omega), at_get h, if_pos h, e]
    simp only [Option.bind_some]
    refine ⟨_, rfl, ?_⟩
    rw [rem_pos hb.1, wi64 (by omega), mul64 (by omega)]
    omega
  · rw [if_neg (by simp; omega), if_neg h]
    exact ⟨0, rfl, by rw [mul64 (by omega)]; rfl⟩

theorem crash_l1 {N : Nat} (hN : N ≤ 1000) (d : disk_Disk) (h : Wf N d) (keep : List Int) (hk : ∀ c ∈ keep, 0 ≤ c ∧ c < 256) : ∀ (m i n : Nat) (f : List (List Int)), i + m = d.loose.length → m < n → Blk d.firm.length f →
    disk_Disk_settle_disk_Disk_Crash_1.l1 4000 d keep n (i : Int) f = some ⟨sett (keepN keep) i (d.loose.drop i) f, [], d.fuse, d.dead⟩ := by
  have hfew := h.few
  intro m
  induction m with
  | zero =>
    intro i n f hi hm hf
    obtain ⟨n, rfl⟩ : ∃ q, n = q + 1 := ⟨n - 1, by omega⟩
    rw [disk_Disk_settle_disk_Disk_Crash_1.l1, if_neg (by simp; omega), List.drop_eq_nil_of_le (by omega)]; rfl
  | succ m ih =>
    intro i n f hi hm hf
    obtain ⟨n, rfl⟩ : ∃ q, n = q + 1 := ⟨n - 1, by omega⟩
    have hil : i < d.loose.length := by omega
    have hd : d.loose.drop i = d.loose[i] :: d.loose.drop (i + 1) := List.drop_eq_getElem_cons hil
    have hnext : iadd .i64 (i : Int) 1 = ((i + 1 : Nat) : Int) := by rw [add64 (by omega)]; omega
    have hw := h.each _ (List.getElem_mem hil)
    obtain ⟨v, hv, hv2⟩ := crash_1 keep hk i (by omega)
    have hkn := keepN_le keep i
    rw [disk_Disk_settle_disk_Disk_Crash_1.l1, if_pos (by simp; omega), if_pos (by omega), at_get hil]
    simp only [Option.bind_some, hv, hv2, hnext]
    rw [if_pos (by rw [hf.1]; exact ⟨hw.1, hw.2.1⟩), if_pos (by omega), if_pos (by omega), mix_first hf hw hkn, hd]
    exact ih (i + 1) n _ (by omega) (by omega) (hf.set _ (mix_len _ hw.2.2 (hf.get _ (by omega)).1 hkn))
theorem sync_l1 {N : Nat} (hN : N ≤ 1000) (d : disk_Disk) (h : Wf N d) : ∀ (m i n : Nat) (f : List (List Int)), i + m = d.loose.length → m < n → Blk d.firm.length f →
    disk_Disk_settle_disk_Disk_Sync_1.l1 4000 d n (i : Int) f = some ⟨sett (fun _ => 256) i (d.loose.drop i) f, [], d.fuse, d.dead⟩ := by
  have hfew := h.few
  intro m
  induction m with
  | zero =>
    intro i n f hi hm hf
    obtain ⟨n, rfl⟩ : ∃ q, n = q + 1 := ⟨n - 1, by omega⟩
    rw [disk_Disk_settle_disk_Disk_Sync_1.l1, if_neg (by simp; omega), List.drop_eq_nil_of_le (by omega)]; rfl
  | succ m ih =>
    intro i n f hi hm hf
    obtain ⟨n, rfl⟩ : ∃ q, n = q + 1 := ⟨n - 1, by omega⟩
    have hil : i < d.loose.length := by omega
    have hd : d.loose.drop i = d.loose[i] :: d.loose.drop (i + 1) := List.drop_eq_getElem_cons hil
    have hnext : iadd .i64 (i : Int) 1 = ((i + 1 : Nat) : Int) := by rw [add64 (by omega)]; omega
    have hw := h.each _ (List.getElem_mem hil)
    have hv2 : imul .i64 4 64 = ((256 : Nat) : Int) := by decide
    rw [disk_Disk_settle_disk_Disk_Sync_1.l1, if_pos (by simp; omega), if_pos (by omega), at_get hil]
    simp only [Option.bind_some, disk_Disk_Sync_1, hv2, hnext]
    rw [if_pos (by rw [hf.1]; exact ⟨hw.1, hw.2.1⟩), if_pos (by omega), if_pos (by omega), mix_first hf hw (Nat.le_refl 256), hd]
    exact ih (i + 1) n _ (by omega) (by omega) (hf.set _ (mix_len _ hw.2.2 (hf.get _ (by omega)).1 (by omega)))

/-- one write's bytes in the other way -/
theorem ref_settle {N : Nat} (d : disk_Disk) (h : Wf N d) (f : List (List Int)) (hf : Blk d.firm.length f) (fu : Int) (de : Bool) (i : Nat) (hi : i < d.loose.length) (c : Nat) (hc : c ≤ 256) (hfew : N ≤ 1000) :
    cabalref12_Disk_settle 4000 ⟨f, d.loose.map (·.at_), d.loose.map (·.data), fu, de⟩ (i : Int) (c : Int) = some ⟨f.set d.loose[i].at_.toNat (d.loose[i].data.take c ++ (f.getD d.loose[i].at_.toNat []).drop c), d.loose.map (·.at_), d.loose.map (·.data), fu, de⟩ := by
  have hL : (1000000 : Nat) ≤ lim := by unfold lim; omega
  have hw := h.each _ (List.getElem_mem hi)
  obtain ⟨a1, a2, a3⟩ := hw
  have e1 : at? (d.loose.map (·.at_)) (i : Int) = some d.loose[i].at_ := by rw [at_get (by simp; omega)]; simp
  have e2 : at? (d.loose.map (·.data)) (i : Int) = some d.loose[i].data := by rw [at_get (by simp; omega)]; simp
  generalize d.loose[i] = w at *
  obtain ⟨q, hq⟩ : ∃ q : Nat, w.at_ = q := ⟨w.at_.toNat, by omega⟩
  obtain ⟨g1, g2⟩ := hf.get q (by omega)
  unfold cabalref12_Disk_settle
  rw [if_pos (by simp; omega), e1]
  simp only [Option.bind_some]
  rw [if_pos (by simp; omega), e2]
  simp only [Option.bind_some]
  rw [cut_pre (by omega)]
  simp only [Option.bind_some]
  have hfl : (0 : Int) ≤ w.at_ ∧ w.at_ < (f.length : Int) := by rw [hf.1]; exact ⟨a1, a2⟩
  rw [if_pos hfl, hq, g2]
  simp only [Option.bind_some]
  rw [cut_suf (by omega)]
  simp only [Option.bind_some]
  rw [if_pos (by rw [List.length_take, List.length_drop]; omega), if_pos (by rw [← hq]; exact hfl), set_ok (by have := hf.1; omega)]
  simp only [Option.bind_some, Int.toNat_natCast]

theorem ref_sync_l1 {N : Nat} (hN : N ≤ 1000) (d : disk_Disk) (h : Wf N d) (fu : Int) (de : Bool) : ∀ (m i n : Nat) (f : List (List Int)), i + m = d.loose.length → m < n → Blk d.firm.length f →
    cabalref12_Disk_Sync.l1 4000 n (i : Int) fu de f (d.loose.map (·.at_)) (d.loose.map (·.data)) = some (0, ⟨sett (fun _ => 256) i (d.loose.drop i) f, [], [], fu, de⟩) := by
  have hfew := h.few
  intro m
  induction m with
  | zero =>
    intro i n f hi hm hf
    obtain ⟨n, rfl⟩ : ∃ q, n = q + 1 := ⟨n - 1, by omega⟩
    rw [cabalref12_Disk_Sync.l1, if_neg (by simp; omega), List.drop_eq_nil_of_le (by omega)]; rfl
  | succ m ih =>
    intro i n f hi hm hf
    obtain ⟨n, rfl⟩ : ∃ q, n = q + 1 := ⟨n - 1, by omega⟩
    have hil : i < d.loose.length := by omega
    have hd : d.loose.drop i = d.loose[i] :: d.loose.drop (i + 1) := List.drop_eq_getElem_cons hil
    have hnext : iadd .i64 (i : Int) 1 = ((i + 1 : Nat) : Int) := by rw [add64 (by omega)]; omega
    have hw := h.each _ (List.getElem_mem hil)
    have := ref_settle d h f hf fu de i hil 256 (by omega) hN
    rw [show ((256 : Nat) : Int) = 256 from rfl] at this
    rw [cabalref12_Disk_Sync.l1, if_pos (by simp; omega), this, hd]
    simp only [Option.bind_some, hnext]
    exact ih (i + 1) n _ (by omega) (by omega) (hf.set _ (mix_len _ hw.2.2 (hf.get _ (by omega)).1 (by omega)))
theorem ref_crash_l1 {N : Nat} (hN : N ≤ 1000) (d : disk_Disk) (h : Wf N d) (fu : Int) (de : Bool) (keep : List Int) (hk : ∀ c ∈ keep, 0 ≤ c ∧ c < 256) : ∀ (m i n : Nat) (f : List (List Int)), i + m = d.loose.length → m < n → Blk d.firm.length f →
    cabalref12_Disk_Crash.l1 4000 keep n (i : Int) fu de f (d.loose.map (·.at_)) (d.loose.map (·.data)) = some ⟨sett (keepN keep) i (d.loose.drop i) f, [], [], -1, false⟩ := by
  have hfew := h.few
  intro m
  induction m with
  | zero =>
    intro i n f hi hm hf
    obtain ⟨n, rfl⟩ : ∃ q, n = q + 1 := ⟨n - 1, by omega⟩
    rw [cabalref12_Disk_Crash.l1, if_neg (by simp; omega), List.drop_eq_nil_of_le (by omega)]; rfl
  | succ m ih =>
    intro i n f hi hm hf
    obtain ⟨n, rfl⟩ : ∃ q, n = q + 1 := ⟨n - 1, by omega⟩
    have hil : i < d.loose.length := by omega
    have hd : d.loose.drop i = d.loose[i] :: d.loose.drop (i + 1) := List.drop_eq_getElem_cons hil
    have hnext : iadd .i64 (i : Int) 1 = ((i + 1 : Nat) : Int) := by rw [add64 (by omega)]; omega
    have hw := h.each _ (List.getElem_mem hil)
    rw [cabalref12_Disk_Crash.l1, if_pos (by simp; omega), hd]
    by_cases c : i < keep.length
    · have hb := hk _ (List.getElem_mem c)
      have e : keep.getD i 0 = keep[i] := by simp [List.getD, c]
      have hkn : ((keepN keep i : Nat) : Int) = imul .i64 64 (IntKind.wrap .i64 (irem keep[i] 5)) := by
        unfold keepN
        rw [if_pos c, e, rem_pos hb.1, wi64 (by omega), mul64 (by omega)]; omega
      rw [if_pos (by simp; omega), at_get c]
      simp only [Option.bind_some]
      rw [← hkn, ref_settle d h f hf fu de i hil _ (keepN_le keep i) hN]
      simp only [Option.bind_some, cabalref12_Disk_Crash.j2, hnext]
      exact ih (i + 1) n _ (by omega) (by omega) (hf.set _ (mix_len _ hw.2.2 (hf.get _ (by omega)).1 (keepN_le keep i)))
    · rw [if_neg (by simp; omega)]
      simp only [cabalref12_Disk_Crash.j2, hnext]
      have e0 : keepN keep i = 0 := by unfold keepN; rw [if_neg c]
      unfold sett
      rw [e0, List.take_zero, List.drop_zero, List.nil_append, set_getD]
      exact ih (i + 1) n _ (by omega) (by omega) hf

theorem Wf.blk {N : Nat} {d : disk_Disk} (h : Wf N d) : Blk d.firm.length d.firm := ⟨rfl, h.size⟩
theorem crash_ok {N : Nat} (hN : N ≤ 1000) (d : disk_Disk) (h : Wf N d) (keep : List Int) (hk : ∀ c ∈ keep, 0 ≤ c ∧ c < 256) :
    disk_Disk_Crash 4000 d keep = some ⟨sett (keepN keep) 0 d.loose d.firm, [], -1, false⟩ ∧ cabalref12_Disk_Crash 4000 (twin d) keep = some ⟨sett (keepN keep) 0 d.loose d.firm, [], [], -1, false⟩ ∧ Wf 0 ⟨sett (keepN keep) 0 d.loose d.firm, [], -1, false⟩ ∧ (sett (keepN keep) 0 d.loose d.firm).length = d.firm.length := by
  have hfew := h.few
  have hb := sett_blk (n := d.firm.length) (keepN keep) (keepN_le keep) d.loose 0 d.firm h.each h.blk
  refine ⟨?_, ?_, ⟨by rw [show (⟨sett (keepN keep) 0 d.loose d.firm, [], -1, false⟩ : disk_Disk).firm = sett (keepN keep) 0 d.loose d.firm from rfl, hb.1]; exact h.blocks, hb.2, fun w hw => (by cases hw), Nat.zero_le _⟩, hb.1⟩
  · unfold disk_Disk_Crash disk_Disk_settle_disk_Disk_Crash_1
    have := crash_l1 hN d h keep hk d.loose.length 0 4000 d.firm (by omega) (by omega) h.blk
    rw [show ((0 : Nat) : Int) = 0 from rfl, List.drop_zero] at this
    rw [this]; rfl
  · unfold cabalref12_Disk_Crash
    have := ref_crash_l1 hN d h d.fuse d.dead keep hk d.loose.length 0 4000 d.firm (by omega) (by omega) h.blk
    rw [show ((0 : Nat) : Int) = 0 from rfl, List.drop_zero] at this
    exact this
theorem sync_ok {N : Nat} (hN : N ≤ 1000) (d : disk_Disk) (h : Wf N d) : ∃ c d', disk_Disk_Sync 4000 d = some (c, d') ∧ cabalref12_Disk_Sync 4000 (twin d) = some (c, twin d') ∧ Wf N d' ∧ d'.firm.length = d.firm.length ∧
    (d.dead = false → d.fuse = -1 → c = 0 ∧ d' = ⟨sett (fun _ => 256) 0 d.loose d.firm, [], -1, false⟩) := by
  have hfew := h.few
  unfold disk_Disk_Sync cabalref12_Disk_Sync
  cases hd : d.dead with
  | true =>
    have e : (twin d).Dead = true := hd
    simp only [e]
    exact ⟨7, d, rfl, rfl, h, rfl, fun q => by cases q⟩
  | false =>
    have e : (twin d).Dead = false := hd
    obtain ⟨b, fu, de, b1, b2, b3⟩ := burn_ok d hd
    simp only [e, b1, b2]
    cases b with
    | false => exact ⟨7, ⟨d.firm, d.loose, fu, de⟩, rfl, rfl, ⟨h.blocks, h.size, h.each, h.few⟩, rfl, fun _ q => by obtain ⟨z, _⟩ := b3 q; cases z⟩
    | true =>
      have h2 : Wf N ⟨d.firm, d.loose, fu, de⟩ := ⟨h.blocks, h.size, h.each, h.few⟩
      have hb := sett_blk (n := d.firm.length) (fun _ => 256) (fun _ => Nat.le_refl _) d.loose 0 d.firm h.each h.blk
      have t1 := sync_l1 hN ⟨d.firm, d.loose, fu, de⟩ h2 d.loose.length 0 4000 d.firm (Nat.zero_add _) (by omega) h.blk
      have t2 := ref_sync_l1 hN d h fu de d.loose.length 0 4000 d.firm (Nat.zero_add _) (by omega) h.blk
      rw [show ((0 : Nat) : Int) = 0 from rfl, List.drop_zero] at t1 t2
      simp only [Bool.false_eq_true, if_false, beq_self_eq_true, if_true, Option.bind_some, Bool.not_true, disk_Disk_settle_disk_Disk_Sync_1, t1, t2]
      exact ⟨0, _, rfl, rfl, ⟨by show (sett _ 0 d.loose d.firm).length ≤ _; rw [hb.1]; exact h.blocks, hb.2, fun w hw => (by cases hw), Nat.zero_le _⟩, hb.1, fun _ q => by obtain ⟨_, q1, q2⟩ := b3 q; subst q1 q2; exact ⟨rfl, rfl⟩⟩

/-- a new disk -/
def newD (n : Nat) : disk_Disk := ⟨List.replicate n (List.replicate 256 0), [], -1, false⟩
theorem newD_wf {n : Nat} (hn : n ≤ 1024) : Wf 0 (newD n) := ⟨by rw [newD, List.length_replicate]; exact hn, fun b hb => (by rw [List.eq_of_mem_replicate hb, List.length_replicate]), fun w hw => (by cases hw), Nat.zero_le _⟩
theorem new_l1 (N : Nat) (hN : N ≤ 1024) : ∀ (m i n : Nat), i + m = N → m < n → cabalref12_New.l1 4000 (N : Int) n (i : Int) (List.replicate i (List.replicate 256 0)) = some (twin (newD N)) := by
  have hL : (1000000 : Nat) ≤ lim := by unfold lim; omega
  intro m
  induction m with
  | zero =>
    intro i n hi hm
    obtain ⟨n, rfl⟩ : ∃ q, n = q + 1 := ⟨n - 1, by omega⟩
    have : i = N := by omega
    subst this
    rw [cabalref12_New.l1, if_neg (by simp)]; rfl
  | succ m ih =>
    intro i n hi hm
    obtain ⟨n, rfl⟩ : ∃ q, n = q + 1 := ⟨n - 1, by omega⟩
    rw [cabalref12_New.l1, if_pos (by simp; omega), if_pos ⟨by omega, by show 256 ≤ lim; omega⟩, if_pos (by rw [List.length_replicate, List.length_singleton]; omega), add64 (by omega), show ((i : Int) + 1) = ((i + 1 : Nat) : Int) by omega]
    have e : List.replicate i (List.replicate 256 (0 : Int)) ++ [List.replicate (256 : Int).toNat (0 : Int)] = List.replicate (i + 1) (List.replicate 256 0) := by rw [List.replicate_succ' (n := i)]; rfl
    rw [e]
    exact ih (i + 1) n (by omega) (by omega)
theorem new_ok (p : Int) : ∃ n : Nat, n ≤ 1024 ∧ disk_New 4000 p = some (newD n) ∧ cabalref12_New 4000 p = some (twin (newD n)) ∧ (1 ≤ p → p ≤ 1024 → (n : Int) = p) := by
  have hL : (1000000 : Nat) ≤ lim := by unfold lim; omega
  have key : ∀ n : Nat, n ≤ 1024 → cabalref12_New.l1 4000 (n : Int) 4000 0 [] = some (twin (newD n)) := fun n hn => by
    have := new_l1 n hn n 0 4000 (by omega) (by omega)
    rw [show ((0 : Nat) : Int) = 0 from rfl] at this
    exact this
  unfold disk_New cabalref12_New
  by_cases c1 : p < 1
  · refine ⟨1, by omega, ?_, ?_, fun _ _ => by omega⟩
    · rw [if_pos (show (1 : Int) > p by omega), if_neg (by omega)]
      simp only [Option.bind_some]
      rw [if_pos ⟨by omega, by show 1 ≤ lim; omega⟩]; rfl
    · rw [if_pos (by simpa using c1), cabalref12_New.j1, if_neg (by simp), cabalref12_New.j2]
      exact key 1 (by omega)
  · by_cases c2 : p ≤ 1024
    · obtain ⟨n, rfl⟩ : ∃ n : Nat, p = n := ⟨p.toNat, by omega⟩
      refine ⟨n, by omega, ?_, ?_, fun _ _ => rfl⟩
      · rw [if_neg (show ¬ (1 : Int) > n by omega), if_neg (by omega)]
        simp only [Option.bind_some]
        rw [if_pos ⟨by omega, by simp; omega⟩]; rfl
      · rw [if_neg (by simpa using c1), cabalref12_New.j1, if_neg (by simp; omega), cabalref12_New.j2]
        exact key n (by omega)
    · refine ⟨1024, by omega, ?_, ?_, fun _ _ => by omega⟩
      · rw [if_neg (show ¬ (1 : Int) > p by omega), if_pos (by omega)]
        simp only [Option.bind_some]
        rw [if_pos ⟨by omega, by show 1024 ≤ lim; omega⟩]; rfl
      · rw [if_neg (by simpa using c1), cabalref12_New.j1, if_pos (by simp; omega), cabalref12_New.j2]
        exact key 1024 (by omega)


end Go.Proofs.Pure
