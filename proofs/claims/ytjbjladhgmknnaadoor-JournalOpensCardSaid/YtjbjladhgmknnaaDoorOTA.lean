/- Several parts of this proof in one file. No condition. -/
import Derived.Test.YtjbjladhgmknnaaDoorOPur
section
namespace Go.Proofs.Pure
open Go Go.RowKit Go.Proofs.Kit
set_option linter.unusedVariables false
theorem set_ok {α : Type} {l : List α} {i : Nat} {x : α} (h : i < l.length) : set? l (i : Int) x = some (l.set i x) := by
  unfold set?; rw [if_pos ⟨by omega, by omega⟩]; simp
structure Wf (n : Nat) (d : disk_Disk) : Prop where
  blocks : d.firm.length ≤ 1024
  size : ∀ b ∈ d.firm, b.length = 256
  each : ∀ w ∈ d.loose, 0 ≤ w.at_ ∧ w.at_ < d.firm.length ∧ w.data.length = 256
  few : d.loose.length ≤ n
def twin (d : disk_Disk) : cabalref12_Disk := ⟨d.firm, d.loose.map (·.at_), d.loose.map (·.data), d.fuse, d.dead⟩
theorem has_eq (d : disk_Disk) (p : Int) : disk_Disk_has 4000 d p = some (decide (0 ≤ p ∧ p < d.firm.length)) := by
  unfold disk_Disk_has disk_Disk_Blocks
  by_cases h : 0 ≤ p
  · simp [h]
  · simp [h]
theorem has_ref (d : disk_Disk) (p : Int) : cabalref12_Disk_Has 4000 (twin d) p = some (decide (0 ≤ p ∧ p < d.firm.length)) := by
  unfold cabalref12_Disk_Has twin
  by_cases h : 0 ≤ p
  · simp [h]
  · simp [h]
def last (p : Int) : List disk_write → List Int → List Int
  | [], y => y
  | w :: l, y => last p l (if w.at_ = p then w.data else y)
theorem last_append (p : Int) (a b : List disk_write) (y : List Int) : last p (a ++ b) y = last p b (last p a y) := by
  induction a generalizing y with
  | nil => rfl
  | cons w a ih => exact ih _
theorem last_len {p : Int} {l : List disk_write} {y : List Int} (hl : ∀ w ∈ l, w.data.length = 256) (hy : y.length = 256) : (last p l y).length = 256 := by
  induction l generalizing y with
  | nil => exact hy
  | cons w l ih =>
    unfold last
    refine ih (fun x hx => hl x (by simp [hx])) ?_
    split
    · exact hl w (by simp)
    · exact hy
theorem cut256 {y : List Int} (h : y.length = 256) : cut? y 0 (256 : Int) = some y := by
  have := cut_pre (l := y) (n := 256) (by omega)
  rw [List.take_of_length_le (by omega)] at this; exact this
theorem read_l1 {N : Nat} (hN : N ≤ 1000) (d : disk_Disk) (h : Wf N d) (p : Int) : ∀ (m i n : Nat) (y : List Int), i + m = d.loose.length → m < n → y.length = 256 →
    disk_Disk_Read.l1 4000 d p n (i : Int) y = some (last p (d.loose.drop i) y, 0) := by
  have hfew := h.few
  intro m
  induction m with
  | zero =>
    intro i n y hi hm hy
    obtain ⟨n, rfl⟩ : ∃ q, n = q + 1 := ⟨n - 1, by omega⟩
    rw [disk_Disk_Read.l1, if_neg (by simp; omega), List.drop_eq_nil_of_le (by omega), disk_Disk_Read.j1, cut256 hy]
    rfl
  | succ m ih =>
    intro i n y hi hm hy
    obtain ⟨n, rfl⟩ : ∃ q, n = q + 1 := ⟨n - 1, by omega⟩
    have hil : i < d.loose.length := by omega
    have hd : d.loose.drop i = d.loose[i] :: d.loose.drop (i + 1) := List.drop_eq_getElem_cons hil
    have hnext : iadd .i64 (i : Int) 1 = ((i + 1 : Nat) : Int) := by rw [add64 (by omega)]; omega
    rw [disk_Disk_Read.l1, if_pos (by simp; omega), at_get hil, hd]
    simp only [Option.bind_some, disk_Disk_Read.j2, hnext]
    unfold last
    by_cases c : d.loose[i].at_ = p
    · rw [if_pos (by simpa using c), if_pos c]
      exact ih (i + 1) n _ (by omega) (by omega) (h.each _ (List.getElem_mem hil)).2.2
    · rw [if_neg (by simpa using c), if_neg c]
      exact ih (i + 1) n _ (by omega) (by omega) hy
theorem ref_read_l1 {N : Nat} (hN : N ≤ 1000) (d : disk_Disk) (h : Wf N d) (p : Int) (q : Nat) (hp : p = (q : Int)) (hq : q < d.firm.length) : ∀ (i n : Nat), i ≤ d.loose.length → i < n →
    cabalref12_Disk_Read.l1 4000 (twin d) p n ((i : Int) - 1) = some (last p (d.loose.take i) d.firm[q]) := by
  have hfew := h.few
  intro i
  induction i with
  | zero =>
    intro n hi hm
    obtain ⟨n, rfl⟩ : ∃ q, n = q + 1 := ⟨n - 1, by omega⟩
    rw [cabalref12_Disk_Read.l1, if_neg (by simp), cabalref12_Disk_Read.j1]
    simp only [twin]
    rw [hp, at_get hq]
    rfl
  | succ i ih =>
    intro n hi hm
    obtain ⟨n, rfl⟩ : ∃ q, n = q + 1 := ⟨n - 1, by omega⟩
    have hil : i < d.loose.length := by omega
    have ht : d.loose.take (i + 1) = d.loose.take i ++ [d.loose[i]] := by rw [List.take_add_one]; simp [hil]
    have e : ((i + 1 : Nat) : Int) - 1 = (i : Int) := by omega
    rw [e, cabalref12_Disk_Read.l1, if_pos (by simp)]
    have a1 : at? (twin d).At (i : Int) = some d.loose[i].at_ := by rw [at_get (by simp [twin]; omega)]; simp [twin]
    have a2 : at? (twin d).Data (i : Int) = some d.loose[i].data := by rw [at_get (by simp [twin]; omega)]; simp [twin]
    rw [a1, ht, last_append]
    simp only [Option.bind_some, a2]
    by_cases c : d.loose[i].at_ = p
    · rw [if_pos (by simpa using c)]
      simp [last, c]
    · rw [if_neg (by simpa using c), sub64 (by omega), ih n (by omega) (by omega)]
      simp [last, c]
theorem read_ok {N : Nat} (hN : N ≤ 1000) (d : disk_Disk) (h : Wf N d) (q : Nat) (hq : q < d.firm.length) : disk_Disk_Read 4000 d (q : Int) = some (last (q : Int) d.loose d.firm[q], 0) ∧ cabalref12_Disk_Read 4000 (twin d) (q : Int) = some (last (q : Int) d.loose d.firm[q]) := by
  have hfew := h.few
  constructor
  · unfold disk_Disk_Read
    rw [has_eq]
    simp only [Option.bind_some]
    rw [if_neg (by simp; omega), at_get hq]
    simp only [Option.bind_some]
    exact read_l1 hN d h q d.loose.length 0 4000 _ (by omega) (by omega) (h.size _ (List.getElem_mem hq))
  · unfold cabalref12_Disk_Read
    have e : ((twin d).At.length : Int) = (d.loose.length : Int) := by simp [twin]
    rw [e, sub64 (by omega), ref_read_l1 hN d h q q rfl hq d.loose.length 4000 (by omega) (by omega), List.take_of_length_le (by omega)]
def sett (ns : Nat → Nat) : Nat → List disk_write → List (List Int) → List (List Int)
  | _, [], f => f
  | i, w :: l, f => sett ns (i + 1) l (f.set w.at_.toNat (w.data.take (ns i) ++ (f.getD w.at_.toNat []).drop (ns i)))
def keepN (keep : List Int) (i : Nat) : Nat := if i < keep.length then 64 * ((keep.getD i 0).toNat % 5) else 0
def Blk (n : Nat) (f : List (List Int)) : Prop := f.length = n ∧ ∀ b ∈ f, b.length = 256
theorem Blk.get {n : Nat} {f : List (List Int)} (h : Blk n f) (i : Nat) (hi : i < n) : (f.getD i []).length = 256 ∧ at? f (i : Int) = some (f.getD i []) := by
  have hl : i < f.length := by rw [h.1]; exact hi
  have e : f.getD i [] = f[i] := by simp [List.getD, hl]
  rw [e]
  exact ⟨h.2 _ (List.getElem_mem hl), at_get hl⟩
theorem Blk.set {n : Nat} {f : List (List Int)} (h : Blk n f) (i : Nat) {b : List Int} (hb : b.length = 256) : Blk n (f.set i b) := by
  refine ⟨by rw [List.length_set]; exact h.1, fun x hx => ?_⟩
  rcases List.mem_or_eq_of_mem_set hx with q | q
  · exact h.2 x q
  · rw [q]; exact hb
theorem mix_len {a b : List Int} (n : Nat) (ha : a.length = 256) (hb : b.length = 256) (hn : n ≤ 256) : (a.take n ++ b.drop n).length = 256 := by
  rw [List.length_append, List.length_take, List.length_drop]; omega
theorem sett_blk {n : Nat} (ns : Nat → Nat) (hns : ∀ i, ns i ≤ 256) (l : List disk_write) : ∀ (i : Nat) (f : List (List Int)), (∀ w ∈ l, 0 ≤ w.at_ ∧ w.at_ < n ∧ w.data.length = 256) → Blk n f → Blk n (sett ns i l f) := by
  induction l with
  | nil => intro i f _ hf; exact hf
  | cons w l ih =>
    intro i f hw hf
    obtain ⟨a, b, c⟩ := hw w (by simp)
    exact ih (i + 1) _ (fun x hx => hw x (by simp [hx])) (hf.set _ (mix_len _ c (hf.get w.at_.toNat (by omega)).1 (hns i)))
theorem mix_first {w : disk_write} {f : List (List Int)} {n c : Nat} (hf : Blk n f) (a : 0 ≤ w.at_ ∧ w.at_ < n ∧ w.data.length = 256) (hc : c ≤ 256) {R : Type} (K : List (List Int) → Option R) :
    (cut? w.data 0 (c : Int)).bind (fun x3 => if x3.length ≤ ((c : Int).toNat - (0 : Int).toNat) then (at? f w.at_).bind fun x4 => (set? f w.at_ (x4.take (0 : Int).toNat ++ x3 ++ x4.drop ((0 : Int).toNat + x3.length))).bind K else none) = K (f.set w.at_.toNat (w.data.take c ++ (f.getD w.at_.toNat []).drop c)) := by
  obtain ⟨a1, a2, a3⟩ := a
  obtain ⟨q, hq⟩ : ∃ q : Nat, w.at_ = q := ⟨w.at_.toNat, by omega⟩
  obtain ⟨g1, g2⟩ := hf.get q (by omega)
  rw [cut_pre (by omega)]
  simp only [Option.bind_some]
  rw [if_pos (by rw [List.length_take, Int.toNat_natCast, Int.toNat_zero]; omega), hq, g2]
  simp only [Option.bind_some, Int.toNat_natCast]
  rw [set_ok (by have := hf.1; omega)]
  simp only [Option.bind_some, Int.toNat_zero, List.take_zero, List.nil_append, Nat.zero_add, List.length_take]
  rw [Nat.min_eq_left (by omega)]
theorem sync_l1 {N : Nat} (hN : N ≤ 1000) (d : disk_Disk) (h : Wf N d) : ∀ (m i n : Nat) (f : List (List Int)), i + m = d.loose.length → m < n → Blk d.firm.length f →
    disk_Disk_settle_disk_Disk_Sync_1.l1 4000 d n (i : Int) f = some ⟨sett (fun _ => 256) i (d.loose.drop i) f, [], d.fuse, d.dead⟩ := by
  have hfew := h.few
  intro m
  induction m with
  | zero =>
    intro i n f hi hm hf
    obtain ⟨n, rfl⟩ : ∃ q, n = q + 1 := ⟨n - 1, by omega⟩
    rw [disk_Disk_settle_disk_Disk_Sync_1.l1, if_neg (by simp; omega), List.drop_eq_nil_of_le (by omega)]; rfl
  | succ m ih =>
    intro i n f hi hm hf
    obtain ⟨n, rfl⟩ : ∃ q, n = q + 1 := ⟨n - 1, by omega⟩
    have hil : i < d.loose.length := by omega
    have hd : d.loose.drop i = d.loose[i] :: d.loose.drop (i + 1) := List.drop_eq_getElem_cons hil
    have hnext : iadd .i64 (i : Int) 1 = ((i + 1 : Nat) : Int) := by rw [add64 (by omega)]; omega
    have hw := h.each _ (List.getElem_mem hil)
    have hv2 : imul .i64 4 64 = ((256 : Nat) : Int) := by decide
    rw [disk_Disk_settle_disk_Disk_Sync_1.l1, if_pos (by simp; omega), if_pos (by omega), at_get hil]
    simp only [Option.bind_some, disk_Disk_Sync_1, hv2, hnext]
    rw [if_pos (by rw [hf.1]; exact ⟨hw.1, hw.2.1⟩), if_pos (by omega), if_pos (by omega), mix_first hf hw (Nat.le_refl 256), hd]
    exact ih (i + 1) n _ (by omega) (by omega) (hf.set _ (mix_len _ hw.2.2 (hf.get _ (by omega)).1 (by omega)))
theorem ref_settle {N : Nat} (d : disk_Disk) (h : Wf N d) (f : List (List Int)) (hf : Blk d.firm.length f) (fu : Int) (de : Bool) (i : Nat) (hi : i < d.loose.length) (c : Nat) (hc : c ≤ 256) (hfew : N ≤ 1000) :
    cabalref12_Disk_settle 4000 ⟨f, d.loose.map (·.at_), d.loose.map (·.data), fu, de⟩ (i : Int) (c : Int) = some ⟨f.set d.loose[i].at_.toNat (d.loose[i].data.take c ++ (f.getD d.loose[i].at_.toNat []).drop c), d.loose.map (·.at_), d.loose.map (·.data), fu, de⟩ := by
  have hL : (1000000 : Nat) ≤ lim := by unfold lim; omega
  have hw := h.each _ (List.getElem_mem hi)
  obtain ⟨a1, a2, a3⟩ := hw
  have e1 : at? (d.loose.map (·.at_)) (i : Int) = some d.loose[i].at_ := by rw [at_get (by simp; omega)]; simp
  have e2 : at? (d.loose.map (·.data)) (i : Int) = some d.loose[i].data := by rw [at_get (by simp; omega)]; simp
  generalize d.loose[i] = w at *
  obtain ⟨q, hq⟩ : ∃ q : Nat, w.at_ = q := ⟨w.at_.toNat, by omega⟩
  obtain ⟨g1, g2⟩ := hf.get q (by omega)
  unfold cabalref12_Disk_settle
  rw [if_pos (by simp; omega), e1]
  simp only [Option.bind_some]
  rw [if_pos (by simp; omega), e2]
  simp only [Option.bind_some]
  rw [cut_pre (by omega)]
  simp only [Option.bind_some]
  have hfl : (0 : Int) ≤ w.at_ ∧ w.at_ < (f.length : Int) := by rw [hf.1]; exact ⟨a1, a2⟩
  rw [if_pos hfl, hq, g2]
  simp only [Option.bind_some]
  rw [cut_suf (by omega)]
  simp only [Option.bind_some]
  rw [if_pos (by rw [List.length_take, List.length_drop]; omega), if_pos (by rw [← hq]; exact hfl), set_ok (by have := hf.1; omega)]
  simp only [Option.bind_some, Int.toNat_natCast]
theorem ref_sync_l1 {N : Nat} (hN : N ≤ 1000) (d : disk_Disk) (h : Wf N d) (fu : Int) (de : Bool) : ∀ (m i n : Nat) (f : List (List Int)), i + m = d.loose.length → m < n → Blk d.firm.length f →
    cabalref12_Disk_Sync.l1 4000 n (i : Int) fu de f (d.loose.map (·.at_)) (d.loose.map (·.data)) = some (0, ⟨sett (fun _ => 256) i (d.loose.drop i) f, [], [], fu, de⟩) := by
  have hfew := h.few
  intro m
  induction m with
  | zero =>
    intro i n f hi hm hf
    obtain ⟨n, rfl⟩ : ∃ q, n = q + 1 := ⟨n - 1, by omega⟩
    rw [cabalref12_Disk_Sync.l1, if_neg (by simp; omega), List.drop_eq_nil_of_le (by omega)]; rfl
  | succ m ih =>
    intro i n f hi hm hf
    obtain ⟨n, rfl⟩ : ∃ q, n = q + 1 := ⟨n - 1, by omega⟩
    have hil : i < d.loose.length := by omega
    have hd : d.loose.drop i = d.loose[i] :: d.loose.drop (i + 1) := List.drop_eq_getElem_cons hil
    have hnext : iadd .i64 (i : Int) 1 = ((i + 1 : Nat) : Int) := by rw [add64 (by omega)]; omega
    have hw := h.each _ (List.getElem_mem hil)
    have := ref_settle d h f hf fu de i hil 256 (by omega) hN
    rw [show ((256 : Nat) : Int) = 256 from rfl] at this
    rw [cabalref12_Disk_Sync.l1, if_pos (by simp; omega), this, hd]
    simp only [Option.bind_some, hnext]
    exact ih (i + 1) n _ (by omega) (by omega) (hf.set _ (mix_len _ hw.2.2 (hf.get _ (by omega)).1 (by omega)))
theorem Wf.blk {N : Nat} {d : disk_Disk} (h : Wf N d) : Blk d.firm.length d.firm := ⟨rfl, h.size⟩
def newD (n : Nat) : disk_Disk := ⟨List.replicate n (List.replicate 256 0), [], -1, false⟩
theorem newD_wf {n : Nat} (hn : n ≤ 1024) : Wf 0 (newD n) := ⟨by rw [newD, List.length_replicate]; exact hn, fun b hb => (by rw [List.eq_of_mem_replicate hb, List.length_replicate]), fun w hw => (by cases hw), Nat.zero_le _⟩
theorem new_l1 (N : Nat) (hN : N ≤ 1024) : ∀ (m i n : Nat), i + m = N → m < n → cabalref12_New.l1 4000 (N : Int) n (i : Int) (List.replicate i (List.replicate 256 0)) = some (twin (newD N)) := by
  have hL : (1000000 : Nat) ≤ lim := by unfold lim; omega
  intro m
  induction m with
  | zero =>
    intro i n hi hm
    obtain ⟨n, rfl⟩ : ∃ q, n = q + 1 := ⟨n - 1, by omega⟩
    have : i = N := by omega
    subst this
    rw [cabalref12_New.l1, if_neg (by simp)]; rfl
  | succ m ih =>
    intro i n hi hm
    obtain ⟨n, rfl⟩ : ∃ q, n = q + 1 := ⟨n - 1, by omega⟩
    rw [cabalref12_New.l1, if_pos (by simp; omega), if_pos ⟨by omega, by show 256 ≤ lim; omega⟩, if_pos (by rw [List.length_replicate, List.length_singleton]; omega), add64 (by omega), show ((i : Int) + 1) = ((i + 1 : Nat) : Int) by omega]
    have e : List.replicate i (List.replicate 256 (0 : Int)) ++ [List.replicate (256 : Int).toNat (0 : Int)] = List.replicate (i + 1) (List.replicate 256 0) := by rw [List.replicate_succ' (n := i)]; rfl
    rw [e]
    exact ih (i + 1) n (by omega) (by omega)
theorem new_ok (p : Int) : ∃ n : Nat, n ≤ 1024 ∧ disk_New 4000 p = some (newD n) ∧ cabalref12_New 4000 p = some (twin (newD n)) ∧ (1 ≤ p → p ≤ 1024 → (n : Int) = p) := by
  have hL : (1000000 : Nat) ≤ lim := by unfold lim; omega
  have key : ∀ n : Nat, n ≤ 1024 → cabalref12_New.l1 4000 (n : Int) 4000 0 [] = some (twin (newD n)) := fun n hn => by
    have := new_l1 n hn n 0 4000 (by omega) (by omega)
    rw [show ((0 : Nat) : Int) = 0 from rfl] at this
    exact this
  unfold disk_New cabalref12_New
  by_cases c1 : p < 1
  · refine ⟨1, by omega, ?_, ?_, fun _ _ => by omega⟩
    · rw [if_pos (show (1 : Int) > p by omega), if_neg (by omega)]
      simp only [Option.bind_some]
      rw [if_pos ⟨by omega, by show 1 ≤ lim; omega⟩]; rfl
    · rw [if_pos (by simpa using c1), cabalref12_New.j1, if_neg (by simp), cabalref12_New.j2]
      exact key 1 (by omega)
  · by_cases c2 : p ≤ 1024
    · obtain ⟨n, rfl⟩ : ∃ n : Nat, p = n := ⟨p.toNat, by omega⟩
      refine ⟨n, by omega, ?_, ?_, fun _ _ => rfl⟩
      · rw [if_neg (show ¬ (1 : Int) > n by omega), if_neg (by omega)]
        simp only [Option.bind_some]
        rw [if_pos ⟨by omega, by simp; omega⟩]; rfl
      · rw [if_neg (by simpa using c1), cabalref12_New.j1, if_neg (by simp; omega), cabalref12_New.j2]
        exact key n (by omega)
    · refine ⟨1024, by omega, ?_, ?_, fun _ _ => by omega⟩
      · rw [if_neg (show ¬ (1 : Int) > p by omega), if_pos (by omega)]
        simp only [Option.bind_some]
        rw [if_pos ⟨by omega, by show 1024 ≤ lim; omega⟩]; rfl
      · rw [if_neg (by simpa using c1), cabalref12_New.j1, if_pos (by simp; omega), cabalref12_New.j2]
        exact key 1024 (by omega)
end Go.Proofs.Pure
end
section
namespace Go.Proofs.Pure
open Go Go.RowKit Go.Proofs.Kit
theorem wrap32 (n : Nat) (h : n < 4294967296) : IntKind.wrap .u32 (n : Int) = n := by rw [IntKind.wrap_u32]; omega
theorem ofInt_wrap (v : BitVec IntKind.u32.bits) : BitVec.ofInt IntKind.u32.bits (IntKind.wrap .u32 (v.toNat : Int)) = v := by
  rw [wrap32 _ v.isLt]; simp
theorem ch_eq (e f g : Int) : ixor .u32 (iand .u32 e f) (iand .u32 (inot .u32 e) g) = ior .u32 (iand .u32 e f) (iand .u32 (inot .u32 e) g) := by
  unfold ixor ior iand inot ixor
  simp only [ofInt_wrap]
  congr 3
  have h : ∀ x y z m : BitVec 32, m = BitVec.allOnes 32 → (x &&& y) ^^^ ((m ^^^ x) &&& z) = (x &&& y) ||| ((m ^^^ x) &&& z) := by
    intro x y z m hm
    subst hm
    ext i hi
    simp only [BitVec.getElem_xor, BitVec.getElem_and, BitVec.getElem_or, BitVec.getElem_allOnes]
    cases x[i] <;> cases y[i] <;> cases z[i] <;> rfl
  exact h _ _ _ _ (by rfl)
theorem maj_eq (a b c : Int) : ixor .u32 (ixor .u32 (iand .u32 a b) (iand .u32 a c)) (iand .u32 b c) = ior .u32 (ior .u32 (iand .u32 a b) (iand .u32 a c)) (iand .u32 b c) := by
  unfold ixor ior iand
  simp only [ofInt_wrap]
  congr 3
  have h : ∀ x y z : BitVec 32, ((x &&& y) ^^^ (x &&& z)) ^^^ (y &&& z) = ((x &&& y) ||| (x &&& z)) ||| (y &&& z) := by
    intro x y z
    ext i hi
    simp only [BitVec.getElem_xor, BitVec.getElem_and, BitVec.getElem_or]
    cases x[i] <;> cases y[i] <;> cases z[i] <;> rfl
  exact h _ _ _
theorem ior_comm (a b : Int) : ior .u32 a b = ior .u32 b a := by unfold ior; rw [BitVec.or_comm]
theorem rot_eq (K : Nat) (x n m : Int) (hm : iand .u64 (IntKind.wrap .u64 (isub .i64 0 n)) 31 = m) (h1 : 0 ≤ m) (h2 : isub .u64 32 m = n) (h3 : 0 ≤ n) (h4 : isub .u64 32 n = m) : math_bits_RotateLeft32 K x (isub .i64 0 n) = cabalref01_Right K x n := by
  unfold math_bits_RotateLeft32 cabalref01_Right
  rw [hm, h2, h4]
  simp only [h1, h3, if_true, Option.bind_some]
  rw [ior_comm]
def rt (x a : Int) : Int := ior .u32 (ishr .u32 x a) (ishl .u32 x (isub .u64 32 a))
theorem right_eq (K : Nat) (x n : Int) (h1 : 0 ≤ n) (h2 : 0 ≤ isub .u64 32 n) : cabalref01_Right K x n = some (rt x n) := by
  unfold cabalref01_Right rt; rw [if_pos h1, if_pos h2]
theorem word4 (a b c d : Int) (ha : 0 ≤ a ∧ a < 256) (hb : 0 ≤ b ∧ b < 256) (hc : 0 ≤ c ∧ c < 256) (hd : 0 ≤ d ∧ d < 256) :
    ior .u32 (ishl .u32 (ior .u32 (ishl .u32 (ior .u32 (ishl .u32 (ior .u32 (ishl .u32 0 8) (IntKind.wrap .u32 a)) 8) (IntKind.wrap .u32 b)) 8) (IntKind.wrap .u32 c)) 8) (IntKind.wrap .u32 d) =
      iadd .u32 (iadd .u32 (iadd .u32 (imul .u32 (IntKind.wrap .u32 a) 16777216) (imul .u32 (IntKind.wrap .u32 b) 65536)) (imul .u32 (IntKind.wrap .u32 c) 256)) (IntKind.wrap .u32 d) := by
  have w : ∀ x : Int, 0 ≤ x → x < 4294967296 → IntKind.wrap .u32 x = x := fun x h1 h2 => by rw [IntKind.wrap_u32]; omega
  have e : ∀ x y : Int, 0 ≤ x → x < 16777216 → 0 ≤ y → y < 256 → ior .u32 (ishl .u32 x 8) y = x * 256 + y := by
    intro x y x0 x1 y0 y1
    have h1 : ishl .u32 x 8 = x * 256 := by
      unfold ishl; rw [w _ (by show 0 ≤ x * 256; omega) (by show x * 256 < _; omega)]; rfl
    rw [h1]
    unfold ior
    obtain ⟨m, rfl⟩ : ∃ m : Nat, x = m := ⟨x.toNat, by omega⟩
    obtain ⟨n, rfl⟩ : ∃ n : Nat, y = n := ⟨y.toNat, by omega⟩
    have h2 : (BitVec.ofInt IntKind.u32.bits ((m : Int) * 256) ||| BitVec.ofInt IntKind.u32.bits (n : Int)).toNat = m * 256 + n := by
      show (BitVec.ofInt 32 ((m : Int) * 256) ||| BitVec.ofInt 32 (n : Int)).toNat = _
      rw [show ((m : Int) * 256) = ((m * 256 : Nat) : Int) by simp]
      simp only [BitVec.ofInt_natCast, BitVec.toNat_or, BitVec.toNat_ofNat]
      rw [Nat.mod_eq_of_lt (by omega), Nat.mod_eq_of_lt (by omega)]
      have := Nat.shiftLeft_add_eq_or_of_lt (i := 8) (b := n) (by omega) m
      rw [Nat.shiftLeft_eq] at this
      exact this.symm
    rw [h2, w _ (by omega) (by omega)]; simp
  have z : ior .u32 (ishl .u32 0 8) a = a := by rw [e 0 a (by omega) (by omega) ha.1 ha.2]; omega
  rw [w a ha.1 (by omega), w b hb.1 (by omega), w c hc.1 (by omega), w d hd.1 (by omega), z, e a b ha.1 (by omega) hb.1 hb.2, e _ c (by omega) (by omega) hc.1 hc.2, e _ d (by omega) (by omega) hd.1 hd.2]
  unfold iadd imul
  simp only [IntKind.wrap_u32]
  omega
end Go.Proofs.Pure
end
section
namespace Go.Proofs.Pure
open Go Go.RowKit Go.Proofs.Kit
theorem d_at {α : Type} {xs : List α} {i : Nat} (h : i < xs.length) (d : α) : at? xs (i : Int) = some (xs.getD i d) := by
  unfold at?; rw [if_pos (by omega)]; simp [List.getElem?_eq_getElem h]
theorem d_set {α : Type} {xs : List α} {i : Nat} (h : i < xs.length) (y : α) : set? xs (i : Int) y = some (xs.set i y) := by
  unfold set?; rw [if_pos ⟨by omega, by omega⟩]; simp
theorem d_inc (i : Nat) (h : i < 1000000000) : iadd .i64 (i : Int) 1 = ((i + 1 : Nat) : Int) := by unfold iadd; rw [IntKind.wrap_i64]; omega
theorem d_sub (i j : Nat) (h : j ≤ i) (h2 : i < 1000000000) : isub .i64 (i : Int) (j : Int) = ((i - j : Nat) : Int) := by unfold isub; rw [IntKind.wrap_i64]; omega
def upd (p : digest_Hash) (s : List Int) : digest_Hash := { p with state := s, many := 0 }
theorem spin6 (K : Nat) (x : Int) : digest_spin K x 6 11 25 = some (ixor .u32 (ixor .u32 (rt x 6) (rt x 11)) (rt x 25)) := by
  unfold digest_spin
  rw [rot_eq K x 6 26 (by decide) (by decide) (by decide) (by decide) (by decide), rot_eq K x 11 21 (by decide) (by decide) (by decide) (by decide) (by decide), rot_eq K x 25 7 (by decide) (by decide) (by decide) (by decide) (by decide)]
  rw [right_eq _ _ _ (by decide) (by decide), right_eq _ _ _ (by decide) (by decide), right_eq _ _ _ (by decide) (by decide)]; rfl
theorem spin2 (K : Nat) (x : Int) : digest_spin K x 2 13 22 = some (ixor .u32 (ixor .u32 (rt x 2) (rt x 13)) (rt x 22)) := by
  unfold digest_spin
  rw [rot_eq K x 2 30 (by decide) (by decide) (by decide) (by decide) (by decide), rot_eq K x 13 19 (by decide) (by decide) (by decide) (by decide) (by decide), rot_eq K x 22 10 (by decide) (by decide) (by decide) (by decide) (by decide)]
  rw [right_eq _ _ _ (by decide) (by decide), right_eq _ _ _ (by decide) (by decide), right_eq _ _ _ (by decide) (by decide)]; rfl
theorem turn17 (K : Nat) (x : Int) : digest_turn K x 17 19 10 = some (ixor .u32 (ixor .u32 (rt x 17) (rt x 19)) (ishr .u32 x 10)) := by
  unfold digest_turn
  rw [rot_eq K x 17 15 (by decide) (by decide) (by decide) (by decide) (by decide), rot_eq K x 19 13 (by decide) (by decide) (by decide) (by decide) (by decide)]
  rw [right_eq _ _ _ (by decide) (by decide), right_eq _ _ _ (by decide) (by decide)]; rfl
theorem turn7 (K : Nat) (x : Int) : digest_turn K x 7 18 3 = some (ixor .u32 (ixor .u32 (rt x 7) (rt x 18)) (ishr .u32 x 3)) := by
  unfold digest_turn
  rw [rot_eq K x 7 25 (by decide) (by decide) (by decide) (by decide) (by decide), rot_eq K x 18 14 (by decide) (by decide) (by decide) (by decide) (by decide)]
  rw [right_eq _ _ _ (by decide) (by decide), right_eq _ _ _ (by decide) (by decide)]; rfl
theorem add8 (K : Nat) (hK : 9 ≤ K) (bg : Bool) (rs : List Int) (mn tk p0 p1 p2 p3 p4 p5 p6 p7 a b c d e f g h : Int) :
    digest_Hash_take.j3 K ⟨bg, [p0, p1, p2, p3, p4, p5, p6, p7], rs, mn, tk⟩ [a, b, c, d, e, f, g, h] =
      some ⟨bg, [iadd .u32 p0 a, iadd .u32 p1 b, iadd .u32 p2 c, iadd .u32 p3 d, iadd .u32 p4 e, iadd .u32 p5 f, iadd .u32 p6 g, iadd .u32 p7 h], rs, 0, tk⟩ := by
  obtain ⟨m, rfl⟩ := Nat.exists_eq_add_of_le' hK
  rfl
theorem right_some (K : Nat) (x n : Int) (h1 : decide (0 ≤ n) = true) (h2 : decide (0 ≤ isub .u64 32 n) = true) : cabalref01_Right K x n = some (rt x n) := right_eq K x n (of_decide_eq_true h1) (of_decide_eq_true h2)
theorem comp_eq (K : Nat) (hK : 9 ≤ K) (bg : Bool) (rs : List Int) (mn tk p0 p1 p2 p3 p4 p5 p6 p7 : Int) (w : List Int) (hw : w.length = 64) :
    ∀ n (i : Nat) (a b c d e f g h : Int), digest_Hash_take.l2 K w ⟨bg, [p0, p1, p2, p3, p4, p5, p6, p7], rs, mn, tk⟩ n (i : Int) [a, b, c, d, e, f, g, h] =
      (cabalref01_Block.l1 K G_digest_rounds w [p0, p1, p2, p3, p4, p5, p6, p7] n a b c d e f g h (i : Int)).map (upd ⟨bg, [p0, p1, p2, p3, p4, p5, p6, p7], rs, mn, tk⟩) := by
  intro n
  induction n with
  | zero => intros; rfl
  | succ n ih =>
    intro i a b c d e f g h
    rw [digest_Hash_take.l2, cabalref01_Block.l1]
    by_cases hi : i < 64
    · have hix : (0 : Int) ≤ (i : Int) ∧ (i : Int) < 64 := by omega
      have hd : decide ((i : Int) < 64) = true := by simp; omega
      rw [if_pos hd, if_pos hd, d_at (xs := G_digest_rounds) (i := i) hi 0, Option.bind_some, if_pos hix.2]
      have e0 : at? [a, b, c, d, e, f, g, h] (0 : Int) = some a := rfl
      have e1 : at? [a, b, c, d, e, f, g, h] (1 : Int) = some b := rfl
      have e2 : at? [a, b, c, d, e, f, g, h] (2 : Int) = some c := rfl
      have e3 : at? [a, b, c, d, e, f, g, h] (3 : Int) = some d := rfl
      have e4 : at? [a, b, c, d, e, f, g, h] (4 : Int) = some e := rfl
      have e5 : at? [a, b, c, d, e, f, g, h] (5 : Int) = some f := rfl
      have e6 : at? [a, b, c, d, e, f, g, h] (6 : Int) = some g := rfl
      have e7 : at? [a, b, c, d, e, f, g, h] (7 : Int) = some h := rfl
      have ew : at? w (i : Int) = some (w.getD i 0) := d_at (by omega) 0
      simp only [e0, e1, e2, e3, e4, e5, e6, e7, ew, Option.bind_some, spin6, spin2, if_pos hix, ch_eq, maj_eq, d_inc i (by omega)]
      rw [ih]
      simp only [right_some K e 6 rfl rfl, right_some K e 11 rfl rfl, right_some K e 25 rfl rfl, right_some K a 2 rfl rfl, right_some K a 13 rfl rfl, right_some K a 22 rfl rfl, Option.bind_some]
    · have hd : ¬ (decide ((i : Int) < 64) = true) := by simp; omega
      rw [if_neg hd, if_neg hd, add8 K hK]
      rfl
theorem sched_eq (K : Nat) (hK : 9 ≤ K) (bg : Bool) (rs : List Int) (mn tk p0 p1 p2 p3 p4 p5 p6 p7 : Int) :
    ∀ n (i : Nat) (w : List Int), w.length = 64 → 16 ≤ i → digest_Hash_take.l3 K ⟨bg, [p0, p1, p2, p3, p4, p5, p6, p7], rs, mn, tk⟩ n (i : Int) w =
      (cabalref01_Block.l2 K [p0, p1, p2, p3, p4, p5, p6, p7] n (i : Int) w).map (upd ⟨bg, [p0, p1, p2, p3, p4, p5, p6, p7], rs, mn, tk⟩) := by
  intro n
  induction n with
  | zero => intros; rfl
  | succ n ih =>
    intro i w hw h16
    rw [digest_Hash_take.l3, cabalref01_Block.l2]
    by_cases hi : i < 64
    · have hix : (0 : Int) ≤ (i : Int) ∧ (i : Int) < 64 := by omega
      have hd : decide ((i : Int) < 64) = true := by simp; omega
      rw [if_pos hd, if_pos hd]
      have s2 : isub .i64 (i : Int) 2 = ((i - 2 : Nat) : Int) := d_sub i 2 (by omega) (by omega)
      have s7 : isub .i64 (i : Int) 7 = ((i - 7 : Nat) : Int) := d_sub i 7 (by omega) (by omega)
      have s15 : isub .i64 (i : Int) 15 = ((i - 15 : Nat) : Int) := d_sub i 15 (by omega) (by omega)
      have s16 : isub .i64 (i : Int) 16 = ((i - 16 : Nat) : Int) := d_sub i 16 (by omega) (by omega)
      have g : ∀ j : Nat, j < 64 → at? w (j : Int) = some (w.getD j 0) := fun j hj => d_at (by omega) 0
      have gi : ∀ j : Nat, j < 64 → ((0 : Int) ≤ (j : Int) ∧ (j : Int) < 64) := fun j hj => by omega
      rw [s2, s7, s15, s16]
      simp only [g (i - 2) (by omega), g (i - 7) (by omega), g (i - 15) (by omega), g (i - 16) (by omega), if_pos (gi (i - 2) (by omega)), if_pos (gi (i - 7) (by omega)), if_pos (gi (i - 15) (by omega)), if_pos (gi (i - 16) (by omega)), if_pos hix, Option.bind_some, turn17, turn7,
        right_some K _ 17 rfl rfl, right_some K _ 19 rfl rfl, right_some K _ 7 rfl rfl, right_some K _ 18 rfl rfl, d_set (show i < w.length by omega), d_inc i (by omega)]
      exact ih (i + 1) _ (by simpa using hw) (by omega)
    · have hd : ¬ (decide ((i : Int) < 64) = true) := by simp; omega
      rw [if_neg hd, if_neg hd]
      exact comp_eq K hK bg rs mn tk p0 p1 p2 p3 p4 p5 p6 p7 w hw K 0 p0 p1 p2 p3 p4 p5 p6 p7
end Go.Proofs.Pure
end
section
namespace Go.Proofs.Pure
open Go Go.RowKit Go.Proofs.Kit
def Bytes (l : List Int) : Prop := ∀ x ∈ l, 0 ≤ x ∧ x < 256
theorem Bytes.at {l : List Int} (h : Bytes l) (i : Nat) : 0 ≤ l.getD i 0 ∧ l.getD i 0 < 256 := by
  rw [List.getD_eq_getElem?_getD]
  cases hq : l[i]? with
  | none => simp
  | some x => exact h x (List.mem_of_getElem? hq)
theorem d_mul4 (i : Nat) (h : i < 1000000) : imul .i64 4 (i : Int) = ((4 * i : Nat) : Int) := by unfold imul; rw [IntKind.wrap_i64]; omega
theorem d_addc (i : Nat) (c : Nat) (h : i < 1000000000) (hc : c < 1000) : iadd .i64 (i : Int) (c : Int) = ((i + c : Nat) : Int) := by unfold iadd; rw [IntKind.wrap_i64]; omega
theorem word_step (K : Nat) (p : digest_Hash) (hr : p.rest.length = 64) (L : Int → List Int → Option digest_Hash) (i j n : Nat) (hi : i < 16) (hj : j < 4) (w : List Int) (hw : w.length = 64) :
    digest_Hash_take.l5 K 4 (i : Int) p L (n + 1) (j : Int) w = digest_Hash_take.l5 K 4 (i : Int) p L n ((j + 1 : Nat) : Int) (w.set i (ior .u32 (ishl .u32 (w.getD i 0) 8) (IntKind.wrap .u32 (p.rest.getD (4 * i + j) 0)))) := by
  rw [digest_Hash_take.l5, if_pos (by simp; omega)]
  have e1 : (((iadd .i64 (imul .i64 (4 : Int) (i : Int)) (4 : Int)).toNat - (imul .i64 (4 : Int) (i : Int)).toNat : Nat) : Int) = 4 := by
    rw [d_mul4 i (by omega), show iadd .i64 ((4 * i : Nat) : Int) (4 : Int) = ((4 * i + 4 : Nat) : Int) from d_addc (4 * i) 4 (by omega) (by omega)]; omega
  rw [if_pos (by rw [e1]; omega), d_mul4 i (by omega), show ((4 * i : Nat) : Int) + (j : Int) = ((4 * i + j : Nat) : Int) by omega, d_at (by omega) 0, Option.bind_some]
  have hix : (0 : Int) ≤ (i : Int) ∧ (i : Int) < 64 := by omega
  simp only [if_pos hix, d_at (show i < w.length by omega) 0, Option.bind_some, d_set (show i < w.length by omega), d_inc j (by omega)]
theorem word_all (K : Nat) (hK : 9 ≤ K) (p : digest_Hash) (hr : p.rest.length = 64) (hb : Bytes p.rest) (L : Int → List Int → Option digest_Hash) (i : Nat) (hi : i < 16) (w : List Int) (hw : w.length = 64) (h0 : w.getD i 0 = 0) :
    digest_Hash_take.l5 K 4 (i : Int) p L K 0 w = L ((i + 1 : Nat) : Int) (w.set i (iadd .u32 (iadd .u32 (iadd .u32 (imul .u32 (IntKind.wrap .u32 (p.rest.getD (4 * i) 0)) 16777216) (imul .u32 (IntKind.wrap .u32 (p.rest.getD (4 * i + 1) 0)) 65536)) (imul .u32 (IntKind.wrap .u32 (p.rest.getD (4 * i + 2) 0)) 256)) (IntKind.wrap .u32 (p.rest.getD (4 * i + 3) 0)))) := by
  obtain ⟨m, rfl⟩ := Nat.exists_eq_add_of_le' (show 5 ≤ K by omega)
  have g : ∀ (v : List Int) (y : Int), v.length = 64 → (v.set i y).getD i 0 = y := fun v y hv => by simp [List.getD_eq_getElem?_getD, hv, show i < 64 by omega]
  refine (word_step (m + 5) p hr L i 0 (m + 4) hi (by omega) w hw).trans ?_
  refine (word_step (m + 5) p hr L i 1 (m + 3) hi (by omega) _ (by simpa using hw)).trans ?_
  refine (word_step (m + 5) p hr L i 2 (m + 2) hi (by omega) _ (by simpa using hw)).trans ?_
  refine (word_step (m + 5) p hr L i 3 (m + 1) hi (by omega) _ (by simpa using hw)).trans ?_
  rw [digest_Hash_take.l5, if_neg (by simp), digest_Hash_take.j5, d_inc i (by omega)]
  congr 1
  simp only [List.set_set, g _ _ hw, h0]
  rw [← word4 _ _ _ _ (hb.at (4 * i)) (hb.at (4 * i + 1)) (hb.at (4 * i + 2)) (hb.at (4 * i + 3))]
  rfl
theorem words_eq (K : Nat) (hK : 9 ≤ K) (bg : Bool) (rs : List Int) (hr : rs.length = 64) (hb : Bytes rs) (mn tk p0 p1 p2 p3 p4 p5 p6 p7 : Int) :
    ∀ n (i : Nat) (w : List Int), w.length = 64 → (∀ j, i ≤ j → j < 64 → w.getD j 0 = 0) → digest_Hash_take.l4 K ⟨bg, [p0, p1, p2, p3, p4, p5, p6, p7], rs, mn, tk⟩ n (i : Int) w =
      (cabalref01_Block.l3 K rs [p0, p1, p2, p3, p4, p5, p6, p7] n (i : Int) w).map (upd ⟨bg, [p0, p1, p2, p3, p4, p5, p6, p7], rs, mn, tk⟩) := by
  intro n
  induction n with
  | zero => intros; rfl
  | succ n ih =>
    intro i w hw h0
    rw [digest_Hash_take.l4, cabalref01_Block.l3]
    by_cases hi : i < 16
    · have hd : decide ((i : Int) < 16) = true := by simp; omega
      rw [if_pos hd, if_pos hd]
      have e4 : iadd .i64 ((4 * i : Nat) : Int) (4 : Int) = ((4 * i + 4 : Nat) : Int) := d_addc (4 * i) 4 (by omega) (by omega)
      have e1 : iadd .i64 ((4 * i : Nat) : Int) (1 : Int) = ((4 * i + 1 : Nat) : Int) := d_addc (4 * i) 1 (by omega) (by omega)
      have e2 : iadd .i64 ((4 * i : Nat) : Int) (2 : Int) = ((4 * i + 2 : Nat) : Int) := d_addc (4 * i) 2 (by omega) (by omega)
      have e3 : iadd .i64 ((4 * i : Nat) : Int) (3 : Int) = ((4 * i + 3 : Nat) : Int) := d_addc (4 * i) 3 (by omega) (by omega)
      have e5 : (((((4 * i + 4 : Nat) : Int)).toNat - (((4 * i : Nat) : Int)).toNat : Nat) : Int) = 4 := by omega
      rw [d_mul4 i (by omega), e4, e1, e2, e3, if_pos (by omega), Option.bind_some, e5]
      rw [word_all K hK _ hr hb _ i hi w hw (h0 i (Nat.le_refl _) (by omega))]
      have hix : (0 : Int) ≤ (i : Int) ∧ (i : Int) < 64 := by omega
      simp only [d_at (show 4 * i < rs.length by omega) 0, d_at (show 4 * i + 1 < rs.length by omega) 0, d_at (show 4 * i + 2 < rs.length by omega) 0, d_at (show 4 * i + 3 < rs.length by omega) 0, Option.bind_some, if_pos hix, d_set (show i < w.length by omega), d_inc i (by omega)]
      refine ih (i + 1) _ (by simpa using hw) (fun j h1 h2 => ?_)
      have := h0 j (by omega) h2
      simpa [List.getD_eq_getElem?_getD, List.getElem?_set, show ¬ i = j by omega] using this
    · have hd : ¬ (decide ((i : Int) < 16) = true) := by simp; omega
      rw [if_neg hd, if_neg hd]
      exact sched_eq K hK bg rs mn tk p0 p1 p2 p3 p4 p5 p6 p7 K 16 w hw (Nat.le_refl _)
theorem d_len8 {α : Type} {xs : List α} (h : xs.length = 8) : ∃ a0 a1 a2 a3 a4 a5 a6 a7, xs = [a0, a1, a2, a3, a4, a5, a6, a7] := by
  match xs, h with
  | [a0, a1, a2, a3, a4, a5, a6, a7], _ => exact ⟨a0, a1, a2, a3, a4, a5, a6, a7, rfl⟩
theorem take_eq (K : Nat) (hK : 9 ≤ K) (p : digest_Hash) (hs : p.state.length = 8) (hr : p.rest.length = 64) (hb : Bytes p.rest) : digest_Hash_take K p = (cabalref01_Block K p.state p.rest).map (upd p) := by
  obtain ⟨bg, st, rs, mn, tk⟩ := p
  obtain ⟨p0, p1, p2, p3, p4, p5, p6, p7, rfl⟩ := d_len8 hs
  exact words_eq K hK bg rs hr hb mn tk p0 p1 p2 p3 p4 p5 p6 p7 K 0 _ (by simp) (fun j _ hj => by rw [List.getD_eq_getElem?_getD, List.getElem?_replicate]; rw [if_pos hj]; rfl)
theorem comp_some (K : Nat) (w : List Int) (hw : w.length = 64) (p0 p1 p2 p3 p4 p5 p6 p7 : Int) : ∀ m n (i : Nat) (a b c d e f g h : Int), i + m = 64 → m < n →
    ∃ s, cabalref01_Block.l1 K G_digest_rounds w [p0, p1, p2, p3, p4, p5, p6, p7] n a b c d e f g h (i : Int) = some s ∧ s.length = 8 := by
  intro m
  induction m with
  | zero =>
    intro n i a b c d e f g h hi hn
    cases n with
    | zero => omega
    | succ n =>
      rw [cabalref01_Block.l1, if_neg (by simp; omega)]
      exact ⟨_, rfl, rfl⟩
  | succ m ih =>
    intro n i a b c d e f g h hi hn
    cases n with
    | zero => omega
    | succ n =>
      have hix : (0 : Int) ≤ (i : Int) ∧ (i : Int) < 64 := by omega
      rw [cabalref01_Block.l1, if_pos (by simp; omega)]
      simp only [right_some K e 6 rfl rfl, right_some K e 11 rfl rfl, right_some K e 25 rfl rfl, right_some K a 2 rfl rfl, right_some K a 13 rfl rfl, right_some K a 22 rfl rfl, Option.bind_some, if_pos hix,
        d_at (xs := G_digest_rounds) (i := i) (show i < 64 by omega) 0, d_at (show i < w.length by omega) 0, d_inc i (by omega)]
      exact ih n (i + 1) _ _ _ _ _ _ _ _ (by omega) (by omega)
theorem sched_some (K : Nat) (hK : 65 ≤ K) (p0 p1 p2 p3 p4 p5 p6 p7 : Int) : ∀ m n (i : Nat) (w : List Int), w.length = 64 → 16 ≤ i → i + m = 64 → m < n →
    ∃ s, cabalref01_Block.l2 K [p0, p1, p2, p3, p4, p5, p6, p7] n (i : Int) w = some s ∧ s.length = 8 := by
  intro m
  induction m with
  | zero =>
    intro n i w hw h16 hi hn
    cases n with
    | zero => omega
    | succ n =>
      rw [cabalref01_Block.l2, if_neg (by simp; omega)]
      exact comp_some K w hw p0 p1 p2 p3 p4 p5 p6 p7 64 K 0 p0 p1 p2 p3 p4 p5 p6 p7 rfl (by omega)
  | succ m ih =>
    intro n i w hw h16 hi hn
    cases n with
    | zero => omega
    | succ n =>
      have hix : (0 : Int) ≤ (i : Int) ∧ (i : Int) < 64 := by omega
      rw [cabalref01_Block.l2, if_pos (by simp; omega)]
      have s2 : isub .i64 (i : Int) 2 = ((i - 2 : Nat) : Int) := d_sub i 2 (by omega) (by omega)
      have s7 : isub .i64 (i : Int) 7 = ((i - 7 : Nat) : Int) := d_sub i 7 (by omega) (by omega)
      have s15 : isub .i64 (i : Int) 15 = ((i - 15 : Nat) : Int) := d_sub i 15 (by omega) (by omega)
      have s16 : isub .i64 (i : Int) 16 = ((i - 16 : Nat) : Int) := d_sub i 16 (by omega) (by omega)
      have g : ∀ j : Nat, j < 64 → at? w (j : Int) = some (w.getD j 0) := fun j hj => d_at (by omega) 0
      have gi : ∀ j : Nat, j < 64 → ((0 : Int) ≤ (j : Int) ∧ (j : Int) < 64) := fun j hj => by omega
      rw [s2, s7, s15, s16]
      simp only [g (i - 2) (by omega), g (i - 7) (by omega), g (i - 15) (by omega), g (i - 16) (by omega), if_pos (gi (i - 2) (by omega)), if_pos (gi (i - 7) (by omega)), if_pos (gi (i - 15) (by omega)), if_pos (gi (i - 16) (by omega)), if_pos hix, Option.bind_some,
        right_some K _ 17 rfl rfl, right_some K _ 19 rfl rfl, right_some K _ 7 rfl rfl, right_some K _ 18 rfl rfl, d_set (show i < w.length by omega), d_inc i (by omega)]
      exact ih n (i + 1) _ (by simpa using hw) (by omega) (by omega) (by omega)
theorem words_some (K : Nat) (hK : 65 ≤ K) (rs : List Int) (hr : rs.length = 64) (p0 p1 p2 p3 p4 p5 p6 p7 : Int) : ∀ m n (i : Nat) (w : List Int), w.length = 64 → i + m = 16 → m < n →
    ∃ s, cabalref01_Block.l3 K rs [p0, p1, p2, p3, p4, p5, p6, p7] n (i : Int) w = some s ∧ s.length = 8 := by
  intro m
  induction m with
  | zero =>
    intro n i w hw hi hn
    cases n with
    | zero => omega
    | succ n =>
      rw [cabalref01_Block.l3, if_neg (by simp; omega)]
      exact sched_some K hK p0 p1 p2 p3 p4 p5 p6 p7 48 K 16 w hw (Nat.le_refl _) rfl (by omega)
  | succ m ih =>
    intro n i w hw hi hn
    cases n with
    | zero => omega
    | succ n =>
      rw [cabalref01_Block.l3, if_pos (by simp; omega)]
      have e1 : iadd .i64 ((4 * i : Nat) : Int) (1 : Int) = ((4 * i + 1 : Nat) : Int) := d_addc (4 * i) 1 (by omega) (by omega)
      have e2 : iadd .i64 ((4 * i : Nat) : Int) (2 : Int) = ((4 * i + 2 : Nat) : Int) := d_addc (4 * i) 2 (by omega) (by omega)
      have e3 : iadd .i64 ((4 * i : Nat) : Int) (3 : Int) = ((4 * i + 3 : Nat) : Int) := d_addc (4 * i) 3 (by omega) (by omega)
      have hix : (0 : Int) ≤ (i : Int) ∧ (i : Int) < 64 := by omega
      rw [d_mul4 i (by omega), e1, e2, e3]
      simp only [d_at (show 4 * i < rs.length by omega) 0, d_at (show 4 * i + 1 < rs.length by omega) 0, d_at (show 4 * i + 2 < rs.length by omega) 0, d_at (show 4 * i + 3 < rs.length by omega) 0, Option.bind_some, if_pos hix, d_set (show i < w.length by omega), d_inc i (by omega)]
      exact ih n (i + 1) _ (by simpa using hw) (by omega) (by omega)
theorem block_some (K : Nat) (hK : 65 ≤ K) (st rs : List Int) (hs : st.length = 8) (hr : rs.length = 64) : ∃ s, cabalref01_Block K st rs = some s ∧ s.length = 8 := by
  obtain ⟨p0, p1, p2, p3, p4, p5, p6, p7, rfl⟩ := d_len8 hs
  exact words_some K hK rs hr p0 p1 p2 p3 p4 p5 p6 p7 16 K 0 _ (by simp) rfl (by omega)
end Go.Proofs.Pure
end
section
namespace Go.Proofs.Pure
open Go Go.RowKit Go.Proofs.Kit
def blocks (K : Nat) : Nat → List Int → List Int → Option (List Int)
  | 0, st, _ => some st
  | q + 1, st, bs => (cabalref01_Block K st (bs.take 64)).bind fun s => blocks K q s (bs.drop 64)
theorem blocks_append (K : Nat) : ∀ q st (m x : List Int), 64 * q ≤ m.length → blocks K q st (m ++ x) = blocks K q st m := by
  intro q
  induction q with
  | zero => intros; rfl
  | succ q ih =>
    intro st m x h
    rw [blocks, blocks, List.take_append_of_le_length (by omega), List.drop_append_of_le_length (by omega)]
    congr 1
    funext s
    exact ih s _ x (by simp; omega)
theorem blocks_snoc (K : Nat) : ∀ q st (m : List Int), blocks K (q + 1) st m = (blocks K q st m).bind fun s => cabalref01_Block K s ((m.drop (64 * q)).take 64) := by
  intro q
  induction q with
  | zero =>
    intro st m
    simp only [blocks, Nat.mul_zero, List.drop_zero, Option.bind_some]
    cases cabalref01_Block K st (m.take 64) <;> rfl
  | succ q ih =>
    intro st m
    have e : ∀ q st m, blocks K (q + 1) st m = (cabalref01_Block K st (m.take 64)).bind fun s => blocks K q s (m.drop 64) := fun _ _ _ => rfl
    rw [e (q + 1), e q]
    simp only [ih]
    cases cabalref01_Block K st (m.take 64) with
    | none => rfl
    | some s =>
      simp only [Option.bind_some]
      rw [List.drop_drop, show 64 + 64 * q = 64 * (q + 1) by omega]
structure Inv (K : Nat) (h : digest_Hash) (m : List Int) : Prop where
  begun : h.begun = true
  st : h.state.length = 8
  rs : h.rest.length = 64
  rb : Bytes h.rest
  many : h.many = ((m.length % 64 : Nat) : Int)
  tail : h.rest.take (m.length % 64) = m.drop (64 * (m.length / 64))
  fold : blocks K (m.length / 64) G_digest_first m = some h.state
theorem Bytes.set {l : List Int} (h : Bytes l) (i : Nat) {b : Int} (hb : 0 ≤ b ∧ b < 256) : Bytes (l.set i b) := fun x hx => by
  rcases List.mem_or_eq_of_mem_set hx with h1 | h1
  · exact h x h1
  · subst h1; exact hb
theorem put_inv (K : Nat) (hK : 65 ≤ K) {h : digest_Hash} {m : List Int} (I : Inv K h m) {b : Int} (hb : 0 ≤ b ∧ b < 256) : ∃ h', digest_Hash_put K h b = some h' ∧ Inv K h' (m ++ [b]) ∧ h'.taken = h.taken := by
  have hr := I.rs
  have hm : m.length % 64 < 64 := Nat.mod_lt _ (by omega)
  have hsp := Nat.div_add_mod m.length 64
  have htl : (m.drop (64 * (m.length / 64))).length = m.length % 64 := by simp; omega
  have hset : h.rest.set (m.length % 64) b = h.rest.take (m.length % 64) ++ [b] ++ h.rest.drop (m.length % 64 + 1) := by
    rw [List.set_eq_take_append_cons_drop, if_pos (by omega)]; simp
  have hdrop : (m ++ [b]).drop (64 * (m.length / 64)) = m.drop (64 * (m.length / 64)) ++ [b] := by rw [List.drop_append_of_le_length (by omega)]
  unfold digest_Hash_put
  rw [I.many, if_pos (by omega), d_set (by omega), Option.bind_some, Option.bind_some, d_inc _ (by omega)]
  by_cases hl : m.length % 64 = 63
  · rw [if_pos (by simp [hl])]
    have hb2 := I.rb.set (m.length % 64) hb
    have T := take_eq K (by omega) { h with rest := h.rest.set (m.length % 64) b, many := ((m.length % 64 + 1 : Nat) : Int) } I.st (by simpa using hr) hb2
    rw [show digest_Hash_take K _ = _ from T]
    obtain ⟨s, hs, hs8⟩ := block_some K hK h.state (h.rest.set (m.length % 64) b) I.st (by simpa using hr)
    refine ⟨upd { h with rest := h.rest.set (m.length % 64) b, many := ((m.length % 64 + 1 : Nat) : Int) } s, by rw [show cabalref01_Block K _ _ = some s from hs]; rfl, ?_, rfl⟩
    have h1 : (m ++ [b]).length % 64 = 0 := by simp; omega
    have h2 : (m ++ [b]).length / 64 = m.length / 64 + 1 := by simp; omega
    refine ⟨I.begun, hs8, by simpa [upd] using hr, hb2, by rw [h1]; rfl, ?_, ?_⟩
    · rw [h1, h2, List.take_zero, List.drop_eq_nil_of_le (by simp; omega)]
    · rw [h2, blocks_snoc, blocks_append K _ _ _ _ (by omega), I.fold, Option.bind_some, hdrop, ← I.tail]
      have : (h.rest.take (m.length % 64) ++ [b]).take 64 = h.rest.set (m.length % 64) b := by
        rw [hset, List.drop_eq_nil_of_le (by omega), List.append_nil, List.take_of_length_le (by simp; omega)]
      rw [this]; exact hs
  · rw [if_neg (by simp; omega)]
    refine ⟨_, rfl, ?_, rfl⟩
    have h1 : (m ++ [b]).length % 64 = m.length % 64 + 1 := by simp; omega
    have h2 : (m ++ [b]).length / 64 = m.length / 64 := by simp; omega
    refine ⟨I.begun, I.st, by simpa using hr, I.rb.set _ hb, by rw [h1], ?_, ?_⟩
    · rw [h1, h2, hdrop, ← I.tail]
      show (h.rest.set (m.length % 64) b).take (m.length % 64 + 1) = _
      rw [hset, List.take_append_of_le_length (by simp; omega), List.take_of_length_le (by simp; omega)]
    · rw [h2, blocks_append K _ _ _ _ (by omega)]; exact I.fold
theorem write_l2 (K : Nat) (hK : 65 ≤ K) (x2 : List Int) (hx : Bytes x2) (hxl : x2.length < 1000000) (y1 : Int) (L : Int → digest_Hash → Option digest_Hash) : ∀ (rest pre : List Int) (n : Nat) (h : digest_Hash) (m : List Int), x2 = pre ++ rest → rest.length < n → Inv K h m →
    ∃ h', digest_Hash_Write.l2 K x2 y1 L n (pre.length : Int) h = digest_Hash_Write.j2 K x2 y1 L h' ∧ Inv K h' (m ++ rest) ∧ h'.taken = h.taken := by
  intro rest
  induction rest with
  | nil =>
    intro pre n h m e hn I
    cases n with
    | zero => omega
    | succ n =>
      refine ⟨h, ?_, by simpa using I, rfl⟩
      rw [digest_Hash_Write.l2, if_neg (by rw [e]; simp)]
  | cons b rest ih =>
    intro pre n h m e hn I
    cases n with
    | zero => omega
    | succ n =>
      have hb : 0 ≤ b ∧ b < 256 := hx b (by rw [e]; simp)
      obtain ⟨h1, p1, I1, t1⟩ := put_inv K hK I hb
      have hpl : pre.length < 1000000 := by rw [e] at hxl; simp at hxl; omega
      obtain ⟨h2, p2, I2, t2⟩ := ih (pre ++ [b]) n h1 (m ++ [b]) (by rw [e]; simp) (by simp at hn; omega) I1
      refine ⟨h2, ?_, by simpa using I2, t2.trans t1⟩
      have hat : at? x2 (pre.length : Int) = some b := by rw [e]; unfold at?; rw [if_pos (by omega)]; simp
      rw [digest_Hash_Write.l2, if_pos (by rw [e]; simp; omega), hat, Option.bind_some, p1, Option.bind_some, d_inc _ (by omega)]
      rw [show (pre ++ [b]).length = pre.length + 1 by simp] at p2
      exact p2
theorem write_l1 (K : Nat) (p2 : List (List Int)) (hb : ∀ x ∈ p2, Bytes x) (hc : p2.length < 100000) : ∀ (rest pre : List (List Int)) (n : Nat) (h : digest_Hash) (m : List Int), p2 = pre ++ rest → rest.length < n → (m ++ rest.flatten).length + 200 ≤ K → K ≤ 900000 → Inv K h m → h.taken = (m.length : Int) →
    ∃ h', digest_Hash_Write.l1 K p2 n (pre.length : Int) h = some h' ∧ Inv K h' (m ++ rest.flatten) ∧ h'.taken = ((m ++ rest.flatten).length : Int) := by
  intro rest
  induction rest with
  | nil =>
    intro pre n h m e hn hK hK2 I ht
    cases n with
    | zero => omega
    | succ n =>
      refine ⟨h, ?_, by simpa using I, by simpa using ht⟩
      rw [digest_Hash_Write.l1, if_neg (by rw [e]; simp)]
  | cons x rest ih =>
    intro pre n h m e hn hK hK2 I ht
    cases n with
    | zero => omega
    | succ n =>
      have hpl : pre.length < 100000 := by rw [e] at hc; simp at hc; omega
      have hxl : x.length ≤ K := by simp at hK; omega
      obtain ⟨h1, q1, I1, t1⟩ := write_l2 K (by omega) x (hb x (by rw [e]; simp)) (by omega) (pre.length : Int) (digest_Hash_Write.l1 K p2 n) x [] K h m rfl (by simp at hK; omega) I
      have hat : at? p2 (pre.length : Int) = some x := by rw [e]; unfold at?; rw [if_pos (by omega)]; simp
      have hlen : (m ++ x).length ≤ K := by simp at hK ⊢; omega
      have ht2 : iadd .u64 h1.taken (IntKind.wrap .u64 (x.length : Int)) = ((m ++ x).length : Int) := by
        rw [t1, ht]; unfold iadd; rw [IntKind.wrap_u64, IntKind.wrap_u64]; simp at hlen ⊢; omega
      obtain ⟨h2, q2, I2, t2⟩ := ih (pre ++ [x]) n { h1 with taken := iadd .u64 h1.taken (IntKind.wrap .u64 (x.length : Int)) } (m ++ x) (by rw [e]; simp) (by simp at hn; omega) (by simp at hK ⊢; omega) hK2
        ⟨I1.begun, I1.st, I1.rs, I1.rb, I1.many, I1.tail, I1.fold⟩ ht2
      refine ⟨h2, ?_, by simpa using I2, by simpa using t2⟩
      rw [digest_Hash_Write.l1, if_pos (by rw [e]; simp; omega), hat, Option.bind_some]
      refine q1.trans ?_
      unfold digest_Hash_Write.j2
      rw [Option.bind_some, digest_Hash_Write.j1, d_inc _ (by omega)]
      rw [show (pre ++ [x]).length = pre.length + 1 by simp] at q2
      exact q2
def Rep (K : Nat) (h : digest_Hash) (m : List Int) : Prop :=
  (h.begun = false ∧ m = [] ∧ h.rest.length = 64 ∧ Bytes h.rest ∧ h.many = 0 ∧ h.taken = 0) ∨ (Inv K h m ∧ h.taken = (m.length : Int))
theorem begin_rep (K : Nat) {h : digest_Hash} {m : List Int} (R : Rep K h m) : ∃ h', digest_Hash_begin K h = some h' ∧ Inv K h' m ∧ h'.taken = (m.length : Int) := by
  rcases R with ⟨hb, rfl, hr, hby, hm, ht⟩ | ⟨I, ht⟩
  · refine ⟨{ { h with begun := true } with state := G_digest_first }, by unfold digest_Hash_begin; rw [if_pos (by simp [hb])], ?_, by simpa using ht⟩
    exact ⟨rfl, rfl, hr, hby, by simpa using hm, by simp, rfl⟩
  · exact ⟨h, by unfold digest_Hash_begin; rw [if_neg (by simp [I.begun])], I, ht⟩
theorem write_rep (K : Nat) {h : digest_Hash} {m : List Int} (R : Rep K h m) (parts : List (List Int)) (hb : ∀ x ∈ parts, Bytes x) (hc : parts.length < 100000) (hc2 : parts.length < K) (hK : (m ++ parts.flatten).length + 200 ≤ K) (hK2 : K ≤ 900000) :
    ∃ h', digest_Hash_Write K h parts = some h' ∧ Rep K h' (m ++ parts.flatten) := by
  obtain ⟨h1, q1, I1, t1⟩ := begin_rep K R
  obtain ⟨h2, q2, I2, t2⟩ := write_l1 K parts hb hc parts [] K h1 m rfl hc2 hK hK2 I1 t1
  exact ⟨h2, by unfold digest_Hash_Write; rw [q1]; exact q2, .inr ⟨I2, t2⟩⟩
theorem fresh_rep (K : Nat) : Rep K ⟨false, List.replicate 8 0, List.replicate 64 0, 0, 0⟩ [] :=
  .inl ⟨rfl, rfl, by simp, fun x hx => by rw [List.eq_of_mem_replicate hx]; omega, rfl, rfl⟩
end Go.Proofs.Pure
end
section
namespace Go.Proofs.Pure
open Go Go.RowKit Go.Proofs.Kit
def outOf : List Int → List Int
  | [s0, s1, s2, s3, s4, s5, s6, s7] => [IntKind.wrap .u8 (ishr .u32 s0 24), IntKind.wrap .u8 (ishr .u32 s0 16), IntKind.wrap .u8 (ishr .u32 s0 8), IntKind.wrap .u8 s0, IntKind.wrap .u8 (ishr .u32 s1 24), IntKind.wrap .u8 (ishr .u32 s1 16), IntKind.wrap .u8 (ishr .u32 s1 8), IntKind.wrap .u8 s1,
      IntKind.wrap .u8 (ishr .u32 s2 24), IntKind.wrap .u8 (ishr .u32 s2 16), IntKind.wrap .u8 (ishr .u32 s2 8), IntKind.wrap .u8 s2, IntKind.wrap .u8 (ishr .u32 s3 24), IntKind.wrap .u8 (ishr .u32 s3 16), IntKind.wrap .u8 (ishr .u32 s3 8), IntKind.wrap .u8 s3,
      IntKind.wrap .u8 (ishr .u32 s4 24), IntKind.wrap .u8 (ishr .u32 s4 16), IntKind.wrap .u8 (ishr .u32 s4 8), IntKind.wrap .u8 s4, IntKind.wrap .u8 (ishr .u32 s5 24), IntKind.wrap .u8 (ishr .u32 s5 16), IntKind.wrap .u8 (ishr .u32 s5 8), IntKind.wrap .u8 s5,
      IntKind.wrap .u8 (ishr .u32 s6 24), IntKind.wrap .u8 (ishr .u32 s6 16), IntKind.wrap .u8 (ishr .u32 s6 8), IntKind.wrap .u8 s6, IntKind.wrap .u8 (ishr .u32 s7 24), IntKind.wrap .u8 (ishr .u32 s7 16), IntKind.wrap .u8 (ishr .u32 s7 8), IntKind.wrap .u8 s7]
  | _ => []
theorem out_impl (K : Nat) (hK : 9 ≤ K) (h : digest_Hash) (hs : h.state.length = 8) : digest_Hash_Sum.j2 K h = some (outOf h.state) := by
  obtain ⟨bg, st, rs, mn, tk⟩ := h
  obtain ⟨p0, p1, p2, p3, p4, p5, p6, p7, rfl⟩ := d_len8 hs
  obtain ⟨m, rfl⟩ := Nat.exists_eq_add_of_le' hK
  kernel_rfl
theorem ishr0 (x : Int) : ishr .u32 x 0 = x := by unfold ishr; simp
def outRef (p0 p1 p2 p3 p4 p5 p6 p7 : Int) : List Int := [IntKind.wrap .u8 (ishr .u32 p0 24), IntKind.wrap .u8 (ishr .u32 p0 16), IntKind.wrap .u8 (ishr .u32 p0 8), IntKind.wrap .u8 (ishr .u32 p0 0), IntKind.wrap .u8 (ishr .u32 p1 24), IntKind.wrap .u8 (ishr .u32 p1 16), IntKind.wrap .u8 (ishr .u32 p1 8), IntKind.wrap .u8 (ishr .u32 p1 0), IntKind.wrap .u8 (ishr .u32 p2 24), IntKind.wrap .u8 (ishr .u32 p2 16), IntKind.wrap .u8 (ishr .u32 p2 8), IntKind.wrap .u8 (ishr .u32 p2 0), IntKind.wrap .u8 (ishr .u32 p3 24), IntKind.wrap .u8 (ishr .u32 p3 16), IntKind.wrap .u8 (ishr .u32 p3 8), IntKind.wrap .u8 (ishr .u32 p3 0), IntKind.wrap .u8 (ishr .u32 p4 24), IntKind.wrap .u8 (ishr .u32 p4 16), IntKind.wrap .u8 (ishr .u32 p4 8), IntKind.wrap .u8 (ishr .u32 p4 0), IntKind.wrap .u8 (ishr .u32 p5 24), IntKind.wrap .u8 (ishr .u32 p5 16), IntKind.wrap .u8 (ishr .u32 p5 8), IntKind.wrap .u8 (ishr .u32 p5 0), IntKind.wrap .u8 (ishr .u32 p6 24), IntKind.wrap .u8 (ishr .u32 p6 16), IntKind.wrap .u8 (ishr .u32 p6 8), IntKind.wrap .u8 (ishr .u32 p6 0), IntKind.wrap .u8 (ishr .u32 p7 24), IntKind.wrap .u8 (ishr .u32 p7 16), IntKind.wrap .u8 (ishr .u32 p7 8), IntKind.wrap .u8 (ishr .u32 p7 0)]
theorem out_ref (K : Nat) (hK : 33 ≤ K) (st : List Int) (hs : st.length = 8) : cabalref01_Sum.j1 K st = some (outOf st) := by
  obtain ⟨p0, p1, p2, p3, p4, p5, p6, p7, rfl⟩ := d_len8 hs
  obtain ⟨m, rfl⟩ := Nat.exists_eq_add_of_le' hK
  have e : outRef p0 p1 p2 p3 p4 p5 p6 p7 = outOf [p0, p1, p2, p3, p4, p5, p6, p7] := by simp only [outRef, ishr0, outOf]
  rw [← e]
  have f : cabalref01_Sum.j1 (m + 33) [p0, p1, p2, p3, p4, p5, p6, p7] = some (outRef p0 p1 p2 p3 p4 p5 p6 p7) := by kernel_rfl
  exact f
theorem pad_impl (K : Nat) (hK : 65 ≤ K) : ∀ z n (h : digest_Hash) (m : List Int), Inv K h m → (m.length + z) % 64 = 56 → z < 64 → z < n →
    ∃ h', digest_Hash_Sum.l3 K n h = digest_Hash_Sum.j1 K h' ∧ Inv K h' (m ++ List.replicate z 0) ∧ h'.taken = h.taken := by
  intro z
  induction z with
  | zero =>
    intro n h m I hm hz hn
    cases n with
    | zero => omega
    | succ n =>
      refine ⟨h, ?_, by simpa using I, rfl⟩
      rw [digest_Hash_Sum.l3, I.many, if_neg (by simp; omega)]
  | succ z ih =>
    intro n h m I hm hz hn
    cases n with
    | zero => omega
    | succ n =>
      obtain ⟨h1, p1, I1, t1⟩ := put_inv K hK I (b := 0) (by omega)
      obtain ⟨h2, p2, I2, t2⟩ := ih n h1 (m ++ [0]) I1 (by simp; omega) (by omega) (by omega)
      refine ⟨h2, ?_, by rw [List.replicate_succ]; simpa using I2, t2.trans t1⟩
      rw [digest_Hash_Sum.l3, I.many, if_pos (by simp; omega), p1, Option.bind_some]
      exact p2
theorem pad_ref (K : Nat) (p1 : List Int) : ∀ z n (y : List Int), (y.length + z) % 64 = 56 → z < 64 → z < n → y.length + z + 10 ≤ lim → cabalref01_Lengthened.l2 K p1 n y = cabalref01_Lengthened.j1 K p1 (y ++ List.replicate z 0) := by
  intro z
  induction z with
  | zero =>
    intro n y hm hz hn hl
    cases n with
    | zero => omega
    | succ n =>
      have e : irem (y.length : Int) 64 = ((y.length % 64 : Nat) : Int) := by unfold irem; rw [Int.tmod_eq_emod_of_nonneg (by omega)]; omega
      rw [cabalref01_Lengthened.l2, e, if_neg (by simp; omega)]; simp
  | succ z ih =>
    intro n y hm hz hn hl
    cases n with
    | zero => omega
    | succ n =>
      have e : irem (y.length : Int) 64 = ((y.length % 64 : Nat) : Int) := by unfold irem; rw [Int.tmod_eq_emod_of_nonneg (by omega)]; omega
      rw [cabalref01_Lengthened.l2, e, if_pos (by clear e; simp; omega), if_pos (by simp; omega), ih n (y ++ [0]) (by simp; omega) (by omega) (by omega) (by simp; omega), List.replicate_succ]
      simp
def len8bytes (N : Int) : List Int := [IntKind.wrap .u8 (ishr .u64 N 56), IntKind.wrap .u8 (ishr .u64 N 48), IntKind.wrap .u8 (ishr .u64 N 40), IntKind.wrap .u8 (ishr .u64 N 32), IntKind.wrap .u8 (ishr .u64 N 24), IntKind.wrap .u8 (ishr .u64 N 16), IntKind.wrap .u8 (ishr .u64 N 8), IntKind.wrap .u8 (ishr .u64 N 0)]
theorem wrap8_rng (x : Int) : 0 ≤ IntKind.wrap .u8 x ∧ IntKind.wrap .u8 x < 256 := by
  have e : IntKind.wrap .u8 x = x % 256 := by unfold IntKind.wrap; rfl
  rw [e]; omega
theorem len_step (K : Nat) (hK : 65 ≤ K) (n : Nat) (i j : Int) (hi : 0 ≤ i) (hj : isub .i64 i 8 = j) {h : digest_Hash} {m : List Int} (I : Inv K h m) :
    ∃ h', digest_Hash_Sum.l2 K (n + 1) i h = digest_Hash_Sum.l2 K n j h' ∧ Inv K h' (m ++ [IntKind.wrap .u8 (ishr .u64 (imul .u64 8 h.taken) i)]) ∧ h'.taken = h.taken := by
  obtain ⟨h1, p1, I1, t1⟩ := put_inv K hK I (b := IntKind.wrap .u8 (ishr .u64 (imul .u64 8 h.taken) i)) (wrap8_rng _)
  refine ⟨h1, ?_, I1, t1⟩
  rw [digest_Hash_Sum.l2, if_pos (by simpa using hi), if_pos hi, p1, Option.bind_some, hj]
theorem len_impl (K : Nat) (hK : 65 ≤ K) {h : digest_Hash} {m : List Int} (I : Inv K h m) :
    ∃ h', digest_Hash_Sum.j1 K h = digest_Hash_Sum.j2 K h' ∧ Inv K h' (m ++ len8bytes (imul .u64 8 h.taken)) := by
  obtain ⟨k, rfl⟩ := Nat.exists_eq_add_of_le' (show 9 ≤ K by omega)
  obtain ⟨h1, p1, I1, t1⟩ := len_step (k + 9) hK (k + 8) 56 48 (by omega) (by decide) I
  obtain ⟨h2, p2, I2, t2⟩ := len_step (k + 9) hK (k + 7) 48 40 (by omega) (by decide) I1
  obtain ⟨h3, p3, I3, t3⟩ := len_step (k + 9) hK (k + 6) 40 32 (by omega) (by decide) I2
  obtain ⟨h4, p4, I4, t4⟩ := len_step (k + 9) hK (k + 5) 32 24 (by omega) (by decide) I3
  obtain ⟨h5, p5, I5, t5⟩ := len_step (k + 9) hK (k + 4) 24 16 (by omega) (by decide) I4
  obtain ⟨h6, p6, I6, t6⟩ := len_step (k + 9) hK (k + 3) 16 8 (by omega) (by decide) I5
  obtain ⟨h7, p7, I7, t7⟩ := len_step (k + 9) hK (k + 2) 8 0 (by omega) (by decide) I6
  obtain ⟨h8, p8, I8, t8⟩ := len_step (k + 9) hK (k + 1) 0 (-8) (by omega) (by decide) I7
  refine ⟨h8, ?_, ?_⟩
  · unfold digest_Hash_Sum.j1
    refine p1.trans (p2.trans (p3.trans (p4.trans (p5.trans (p6.trans (p7.trans (p8.trans ?_)))))))
    rw [digest_Hash_Sum.l2, if_neg (by decide)]
  · simp only [t7, t6, t5, t4, t3, t2, t1] at I8
    simpa [len8bytes] using I8
end Go.Proofs.Pure
end
section
namespace Go.Proofs.Pure
open Go Go.RowKit Go.Proofs.Kit
def refBytes (N : Int) : List Int :=
  let q := fun x => iquo .u64 x 256
  let b := fun x => IntKind.wrap .u8 (irem x 256)
  [b (q (q (q (q (q (q (q N))))))), b (q (q (q (q (q (q N)))))), b (q (q (q (q (q N))))), b (q (q (q (q N)))), b (q (q (q N))), b (q (q N)), b (q N), b N]
theorem refBytes_eq (n : Nat) (h : n < 1000000000) : refBytes (8 * (n : Int)) = len8bytes (8 * (n : Int)) := by
  have q : ∀ x : Int, 0 ≤ x → x < 8000000000 → iquo .u64 x 256 = x / 256 := fun x h1 h2 => by
    unfold iquo; rw [Int.tdiv_eq_ediv_of_nonneg h1, IntKind.wrap_u64]; omega
  have r : ∀ x : Int, 0 ≤ x → irem x 256 = x % 256 := fun x h1 => by unfold irem; rw [Int.tmod_eq_emod_of_nonneg h1]
  have s : ∀ (x : Int) (k : Int) (d : Int), 2 ^ (min k.toNat IntKind.u64.bits) = d → 0 < d → ishr .u64 x k = x / d := fun x k d e hd => by
    unfold ishr; rw [e, Int.fdiv_eq_ediv_of_nonneg _ (by omega)]
  have w : ∀ x : Int, IntKind.wrap .u8 x = x % 256 := fun x => rfl
  have h0 : (0 : Int) ≤ 8 * (n : Int) ∧ 8 * (n : Int) < 8000000000 := by omega
  generalize 8 * (n : Int) = N at h0
  simp only [refBytes, len8bytes]
  rw [s N 56 72057594037927936 (by decide) (by decide), s N 48 281474976710656 (by decide) (by decide), s N 40 1099511627776 (by decide) (by decide), s N 32 4294967296 (by decide) (by decide), s N 24 16777216 (by decide) (by decide), s N 16 65536 (by decide) (by decide), s N 8 256 (by decide) (by decide), s N 0 1 (by decide) (by decide)]
  rw [q (N) (by omega) (by omega), q (N / 256) (by omega) (by omega), q (N / 256 / 256) (by omega) (by omega), q (N / 256 / 256 / 256) (by omega) (by omega), q (N / 256 / 256 / 256 / 256) (by omega) (by omega), q (N / 256 / 256 / 256 / 256 / 256) (by omega) (by omega), q (N / 256 / 256 / 256 / 256 / 256 / 256) (by omega) (by omega)]
  simp only [w, List.cons.injEq, and_true]
  rw [r _ (by omega), r _ (by omega), r _ (by omega), r _ (by omega), r _ (by omega), r _ (by omega), r _ (by omega), r _ (by omega)]
  omega
theorem len_ref (K : Nat) (hK : 9 ≤ K) (p1 y1 : List Int) (hl : y1.length + 8 ≤ lim) : cabalref01_Lengthened.j1 K p1 y1 = some (y1 ++ refBytes (imul .u64 (IntKind.wrap .u64 (p1.length : Int)) 8)) := by
  obtain ⟨m, rfl⟩ := Nat.exists_eq_add_of_le' hK
  unfold cabalref01_Lengthened.j1
  generalize imul .u64 (IntKind.wrap .u64 (p1.length : Int)) 8 = N
  have f : cabalref01_Lengthened.l1 (m + 9) y1 (m + 9) N 0 (List.replicate 8 0) = cabalref01_Lengthened.j2 (m + 9) y1 (refBytes N) := by kernel_rfl
  rw [f]
  unfold cabalref01_Lengthened.j2
  have c : cut? (refBytes N) 0 8 = some (refBytes N) := by kernel_rfl
  rw [c, Option.bind_some, if_pos (by simpa [refBytes] using hl)]
theorem refsum_l2 (K : Nat) (M : List Int) (hM : M.length < 1000000000) : ∀ q n (i : Nat) (st : List Int), M.length = 64 * (i + q) → q < n → cabalref01_Sum.l2 K M n ((64 * i : Nat) : Int) st = (blocks K q st (M.drop (64 * i))).bind (cabalref01_Sum.j1 K) := by
  intro q
  induction q with
  | zero =>
    intro n i st hl hn
    cases n with
    | zero => omega
    | succ n => rw [cabalref01_Sum.l2, if_neg (by simp; omega)]; rfl
  | succ q ih =>
    intro n i st hl hn
    cases n with
    | zero => omega
    | succ n =>
      have e : iadd .i64 ((64 * i : Nat) : Int) 64 = ((64 * (i + 1) : Nat) : Int) := by unfold iadd; rw [IntKind.wrap_i64]; omega
      have c : cut? M ((64 * i : Nat) : Int) ((64 * (i + 1) : Nat) : Int) = some ((M.drop (64 * i)).take 64) := by
        unfold cut?
        rw [if_pos ⟨by omega, by omega, by omega⟩, Int.toNat_natCast, Int.toNat_natCast, List.drop_take, show 64 * (i + 1) - 64 * i = 64 by omega]
      rw [cabalref01_Sum.l2, if_pos (by simp; omega), e, c, Option.bind_some, blocks]
      cases cabalref01_Block K st ((M.drop (64 * i)).take 64) with
      | none => rfl
      | some s =>
        simp only [Option.bind_some]
        rw [ih n (i + 1) s (by omega) (by omega), List.drop_drop, show 64 * i + 64 = 64 * (i + 1) by omega]
theorem sum_eq (K : Nat) (hK2 : K ≤ 900000) {h : digest_Hash} {m : List Int} (R : Rep K h m) (hK : m.length + 200 ≤ K) : ∃ d, digest_Hash_Sum K h = some d ∧ cabalref01_Sum K m = some d ∧ d.length = 32 ∧ Bytes d := by
  obtain ⟨h1, q1, I1, t1⟩ := begin_rep K R
  obtain ⟨h2, q2, I2, t2⟩ := put_inv K (by omega) I1 (b := 128) (by omega)
  obtain ⟨z, hz, hz2⟩ : ∃ z, z < 64 ∧ ((m ++ [128]).length + z) % 64 = 56 := ⟨(119 - m.length % 64) % 64, by omega, by simp; omega⟩
  obtain ⟨h3, q3, I3, t3⟩ := pad_impl K (by omega) z K h2 (m ++ [128]) I2 hz2 hz (by omega)
  obtain ⟨h4, q4, I4⟩ := len_impl K (by omega) I3
  have hN : imul .u64 8 h3.taken = 8 * (m.length : Int) := by rw [t3, t2, t1]; unfold imul; rw [IntKind.wrap_u64]; omega
  rw [hN] at I4
  have hML : (m ++ [128] ++ List.replicate z 0 ++ len8bytes (8 * (m.length : Int))).length = m.length + 1 + z + 8 := by simp [len8bytes]; omega
  have hM64 : (m ++ [128] ++ List.replicate z 0 ++ len8bytes (8 * (m.length : Int))).length % 64 = 0 := by rw [hML]; simp at hz2; omega
  refine ⟨outOf h4.state, ?_, ?_, ?_⟩
  · unfold digest_Hash_Sum
    rw [q1, Option.bind_some, q2, Option.bind_some, q3, q4, out_impl K (by omega) h4 I4.st]
  · unfold cabalref01_Sum cabalref01_Lengthened
    have hlim : lim = 2147483648 := rfl
    rw [if_pos (by rw [hlim]; simp; omega), pad_ref K m z K (m ++ [128]) hz2 hz (by omega) (by rw [hlim]; simp; omega), len_ref K (by omega) _ _ (by rw [hlim]; simp; omega), Option.bind_some, Option.bind_some]
    have hN2 : imul .u64 (IntKind.wrap .u64 (m.length : Int)) 8 = 8 * (m.length : Int) := by unfold imul; rw [IntKind.wrap_u64, IntKind.wrap_u64]; omega
    rw [hN2, refBytes_eq m.length (by omega)]
    have hq := Nat.div_add_mod (m ++ [128] ++ List.replicate z 0 ++ len8bytes (8 * (m.length : Int))).length 64
    refine (refsum_l2 K _ (by rw [hML]; omega) ((m ++ [128] ++ List.replicate z 0 ++ len8bytes (8 * (m.length : Int))).length / 64) K 0 _ (by omega) (by rw [hML]; omega)).trans ?_
    have hf := I4.fold
    rw [List.drop_zero]
    rw [show ([1779033703, 3144134277, 1013904242, 2773480762, 1359893119, 2600822924, 528734635, 1541459225] : List Int) = G_digest_first from rfl, hf, Option.bind_some]
    exact out_ref K (by omega) h4.state I4.st
  · obtain ⟨p0, p1, p2, p3, p4, p5, p6, p7, e⟩ := d_len8 I4.st
    rw [e]
    refine ⟨rfl, ?_⟩
    unfold Bytes outOf
    simp only [List.mem_cons, List.not_mem_nil, or_false, forall_eq_or_imp, forall_eq]
    and_intros <;> first | exact (wrap8_rng _).1 | exact (wrap8_rng _).2
end Go.Proofs.Pure
end
section
namespace Go.Proofs.Pure
open Go Go.RowKit Go.Proofs.Kit
set_option linter.unusedVariables false
def enc (n : Int) : List Int :=
  (if 268435456 ≤ n then [n / 268435456 % 128 + 128] else []) ++ (if 2097152 ≤ n then [n / 2097152 % 128 + 128] else []) ++ (if 16384 ≤ n then [n / 16384 % 128 + 128] else []) ++ (if 128 ≤ n then [n / 128 % 128 + 128] else []) ++ [n % 128]
theorem enc_len (n : Int) : (enc n).length ≤ 5 := by unfold enc; simp only [List.length_append]; split <;> split <;> split <;> split <;> simp
theorem enc_pos (n : Int) : 1 ≤ (enc n).length := by unfold enc; simp only [List.length_append, List.length_cons, List.length_nil]; omega
theorem shr7 {x a : Int} (hx : 0 ≤ x ∧ x < 4294967296) (ha : 0 ≤ a ∧ a ≤ 28) : ishr .u32 x a = x / 2 ^ a.toNat := shr_def (by show a.toNat ≤ 32; omega)
theorem l2_step (k n : Nat) (x y1 a : Int) (L : Int → List Int → Option wire_Writer) (out : List Int) (p : Int) (hp : (2 : Int) ^ a.toNat = p) (hp0 : 0 < p) (hx : 0 ≤ x ∧ x < 4294967296) (ha : 0 < a ∧ a ≤ 28) (hl : out.length + 1 ≤ lim) :
    wire_Writer_Numbers.l2 k x y1 L (n + 1) a out = wire_Writer_Numbers.l2 k x y1 L n (a - 7) (out ++ (if p ≤ x then [x / p % 128 + 128] else [])) := by
  rw [wire_Writer_Numbers.l2]
  have h1 : decide (a > 0) = true := by simp; omega
  have h2 : (0 : Int) ≤ a := by omega
  have hs : ishr .u32 x a = x / p := by rw [shr7 hx ⟨h2, ha.2⟩, hp]
  rw [if_pos h1, if_pos h2, hs]
  have hq : (0 < x / p) ↔ p ≤ x := by
    rw [Int.lt_iff_add_one_le, Int.le_ediv_iff_mul_le hp0]; omega
  have hsub : isub .i64 a 7 = a - 7 := sub64 (by omega)
  by_cases hc : p ≤ x
  · have h3 : decide (x / p > 0) = true := by simp; exact hq.2 hc
    have hb : ior .u8 (IntKind.wrap .u8 (x / p)) 128 = x / p % 128 + 128 := by rw [wu8, or128 (by omega)]; omega
    rw [if_pos h3, hb, if_pos hc]
    simp only [Option.bind_some, List.length_cons, List.length_nil, wire_Writer_Numbers.j3, hsub]
    repeat rw [if_pos (by omega)]
  · have h3 : decide (x / p > 0) = false := by simp; exact Int.not_lt.1 (fun h => hc (hq.1 h))
    rw [if_neg (by rw [h3]; decide), if_neg hc]
    simp only [wire_Writer_Numbers.j3, hsub, List.append_nil]
theorem l2_end (k n : Nat) (x y1 a : Int) (L : Int → List Int → Option wire_Writer) (out : List Int) (hx : 0 ≤ x ∧ x < 4294967296) (ha : a ≤ 0) (hy : 0 ≤ y1 ∧ y1 < 4294967296) (hl : out.length + 1 ≤ lim) :
    wire_Writer_Numbers.l2 k x y1 L (n + 1) a out = L (y1 + 1) (out ++ [x % 128]) := by
  rw [wire_Writer_Numbers.l2]
  have h1 : decide (a > 0) = false := by simp; omega
  have hb : iandn .u8 (IntKind.wrap .u8 x) 128 = x % 128 := by rw [wu8, andn128 (by omega)]; omega
  rw [if_neg (by rw [h1]; decide)]
  simp only [wire_Writer_Numbers.j2, wire_Writer_Numbers.j1, hb, List.length_cons, List.length_nil]
  rw [if_pos (by omega), add64 (by omega)]
theorem l2_all (k n : Nat) (x y1 : Int) (L : Int → List Int → Option wire_Writer) (out : List Int) (hx : 0 ≤ x ∧ x < 4294967296) (hy : 0 ≤ y1 ∧ y1 < 4294967296) (hl : out.length + 5 ≤ lim) :
    wire_Writer_Numbers.l2 k x y1 L (n + 5) 28 out = L (y1 + 1) (out ++ enc x) := by
  have q : ∀ c : Prop, [Decidable c] → ∀ v : Int, (if c then [v] else []).length ≤ 1 := fun c _ v => by split <;> simp
  rw [show n + 5 = (n + 4) + 1 from rfl, l2_step k (n + 4) x y1 28 L out 268435456 (by decide) (by decide) hx (by decide) (by omega)]
  rw [show n + 4 = (n + 3) + 1 from rfl, l2_step k (n + 3) x y1 (28 - 7) L _ 2097152 (by decide) (by decide) hx (by decide) (by have := q (268435456 ≤ x) (x / 268435456 % 128 + 128); simp only [List.length_append]; omega)]
  rw [show n + 3 = (n + 2) + 1 from rfl, l2_step k (n + 2) x y1 (28 - 7 - 7) L _ 16384 (by decide) (by decide) hx (by decide) (by have := q (268435456 ≤ x) (x / 268435456 % 128 + 128); have := q (2097152 ≤ x) (x / 2097152 % 128 + 128); simp only [List.length_append]; omega)]
  rw [show n + 2 = (n + 1) + 1 from rfl, l2_step k (n + 1) x y1 (28 - 7 - 7 - 7) L _ 128 (by decide) (by decide) hx (by decide) (by have := q (268435456 ≤ x) (x / 268435456 % 128 + 128); have := q (2097152 ≤ x) (x / 2097152 % 128 + 128); have := q (16384 ≤ x) (x / 16384 % 128 + 128); simp only [List.length_append]; omega)]
  rw [l2_end k n x y1 _ L _ hx (by decide) hy (by
    have := q (268435456 ≤ x) (x / 268435456 % 128 + 128); have := q (2097152 ≤ x) (x / 2097152 % 128 + 128); have := q (16384 ≤ x) (x / 16384 % 128 + 128); have := q (128 ≤ x) (x / 128 % 128 + 128); simp only [List.length_append]; omega)]
  congr 1
  unfold enc
  simp only [List.append_assoc]
def encs (l : List Int) : List Int := l.flatMap enc
theorem encs_nil : encs [] = [] := rfl
theorem encs_cons (x : Int) (l : List Int) : encs (x :: l) = enc x ++ encs l := rfl
def U32 (l : List Int) : Prop := ∀ x ∈ l, 0 ≤ x ∧ x < 4294967296
theorem numbers_l1 (k : Nat) (l : List Int) (hl : U32 l) (hn : l.length < 1000000) (hk : 5 ≤ k) : ∀ (m i : Nat) (out : List Int) (n : Nat), i + m = l.length → m < n → out.length + 5 * m + 5 ≤ lim →
    wire_Writer_Numbers.l1 k l n (i : Int) out = some ⟨out ++ encs (l.drop i)⟩ := by
  intro m
  induction m with
  | zero =>
    intro i out n hi hm hlim
    obtain ⟨n, rfl⟩ : ∃ q, n = q + 1 := ⟨n - 1, by omega⟩
    rw [wire_Writer_Numbers.l1, if_neg (by simp; omega), List.drop_eq_nil_of_le (by omega), encs_nil, List.append_nil]
  | succ m ih =>
    intro i out n hi hm hlim
    obtain ⟨n, rfl⟩ : ∃ q, n = q + 1 := ⟨n - 1, by omega⟩
    have hil : i < l.length := by omega
    rw [wire_Writer_Numbers.l1, if_pos (by simp; omega), at_get hil]
    simp only [Option.bind_some]
    obtain ⟨k', rfl⟩ : ∃ q, k = q + 5 := ⟨k - 5, by omega⟩
    rw [l2_all _ _ _ _ _ _ (hl _ (List.getElem_mem hil)) (by omega) (by omega)]
    have := ih (i + 1) (out ++ enc l[i]) n (by omega) (by omega) (by have := enc_len l[i]; rw [List.length_append]; omega)
    rw [show ((i : Int) + 1) = ((i + 1 : Nat) : Int) by omega, this, List.drop_eq_getElem_cons hil, encs_cons, List.append_assoc]
theorem numbers_eq (k : Nat) (w : wire_Writer) (l : List Int) (hl : U32 l) (hk : l.length < k) (h5 : 5 ≤ k) (hn : l.length < 1000000) (hlim : w.out.length + 5 * l.length + 5 ≤ lim) : wire_Writer_Numbers k w l = some ⟨w.out ++ encs l⟩ := by
  have := numbers_l1 k l hl hn h5 l.length 0 w.out k (by omega) hk hlim
  simpa [wire_Writer_Numbers] using this
theorem ref_step (k n : Nat) (x : Int) (acc : List Int) (hx : 0 < x ∧ x < 4294967296) (hl : acc.length + 1 ≤ lim) : cabalref10_Number.l1 k (n + 1) x acc = cabalref10_Number.l1 k n (x / 128) ((x % 128 + 128) :: acc) := by
  rw [cabalref10_Number.l1, if_pos (by simp; omega), rem_pos (by omega), add32 (by omega), wu8s (by omega), quo32 (by omega) (by omega)]
  simp only [Option.bind_some, List.length_cons, List.length_nil, List.cons_append, List.nil_append]
  rw [if_pos (by omega)]
theorem ref_end (k n : Nat) (acc : List Int) : cabalref10_Number.l1 k (n + 1) 0 acc = some acc := by
  rw [cabalref10_Number.l1, if_neg (by decide)]; rfl
theorem ref_number (k : Nat) (x : Int) (hx : 0 ≤ x ∧ x < 4294967296) (hk : 6 ≤ k) : cabalref10_Number k x = some (enc x) := by
  obtain ⟨n, rfl⟩ : ∃ q, k = q + 6 := ⟨k - 6, by omega⟩
  unfold cabalref10_Number
  have L : ∀ m : Nat, m ≤ 100 → m ≤ lim := fun m h => by unfold lim; omega
  rw [quo32 hx (by omega), rem_pos hx.1, wu8s (by omega)]
  by_cases h1 : x < 128
  · rw [show x / 128 = 0 by omega, ref_end]
    unfold enc
    rw [if_neg (by omega), if_neg (by omega), if_neg (by omega), if_neg (by omega)]; rfl
  rw [show n + 6 = (n + 5) + 1 from rfl, ref_step _ _ _ _ (by omega) (L _ (by simp))]
  by_cases h2 : x < 16384
  · rw [show x / 128 / 128 = 0 by omega, ref_end]
    unfold enc
    rw [if_neg (by omega), if_neg (by omega), if_neg (by omega), if_pos (by omega)]; rfl
  rw [show n + 5 = (n + 4) + 1 from rfl, ref_step _ _ _ _ (by omega) (L _ (by simp))]
  by_cases h3 : x < 2097152
  · rw [show x / 128 / 128 / 128 = 0 by omega, ref_end]
    unfold enc
    rw [if_neg (by omega), if_neg (by omega), if_pos (by omega), if_pos (by omega), show x / 128 / 128 = x / 16384 by omega]; rfl
  rw [show n + 4 = (n + 3) + 1 from rfl, ref_step _ _ _ _ (by omega) (L _ (by simp))]
  by_cases h4 : x < 268435456
  · rw [show x / 128 / 128 / 128 / 128 = 0 by omega, ref_end]
    unfold enc
    rw [if_neg (by omega), if_pos (by omega), if_pos (by omega), if_pos (by omega), show x / 128 / 128 / 128 = x / 2097152 by omega, show x / 128 / 128 = x / 16384 by omega]; rfl
  rw [show n + 3 = (n + 2) + 1 from rfl, ref_step _ _ _ _ (by omega) (L _ (by simp))]
  rw [show x / 128 / 128 / 128 / 128 / 128 = 0 by omega, ref_end]
  unfold enc
  rw [if_pos (by omega), if_pos (by omega), if_pos (by omega), if_pos (by omega), show x / 128 / 128 / 128 / 128 = x / 268435456 by omega, show x / 128 / 128 / 128 = x / 2097152 by omega, show x / 128 / 128 = x / 16384 by omega]; rfl
def encT (s : List Int) : List Int := enc (s.length : Int) ++ s
theorem texts_l1 (k : Nat) (l : List (List Int)) (hn : l.length < 1000) (hs : ∀ s ∈ l, s.length ≤ 5000) (hk : 6 ≤ k) : ∀ (m i : Nat) (out : List Int) (n : Nat), i + m = l.length → m < n → out.length + 6000 * m + 10 ≤ lim →
    wire_Writer_Texts.l1 k l n (i : Int) out = some ⟨out ++ (l.drop i).flatMap encT⟩ := by
  intro m
  induction m with
  | zero =>
    intro i out n hi hm hlim
    obtain ⟨n, rfl⟩ : ∃ q, n = q + 1 := ⟨n - 1, by omega⟩
    rw [wire_Writer_Texts.l1, if_neg (by simp; omega), List.drop_eq_nil_of_le (by omega)]; simp
  | succ m ih =>
    intro i out n hi hm hlim
    obtain ⟨n, rfl⟩ : ∃ q, n = q + 1 := ⟨n - 1, by omega⟩
    have hil : i < l.length := by omega
    have hsl := hs _ (List.getElem_mem hil)
    rw [wire_Writer_Texts.l1, if_pos (by simp; omega), at_get hil]
    simp only [Option.bind_some]
    rw [wu32s (by omega), numbers_eq k ⟨out⟩ [((l[i].length : Nat) : Int)] (fun x hx => by simp at hx; subst hx; omega) (by simp; omega) (by omega) (by simp) (by simp; omega)]
    simp only [Option.bind_some]
    have he := enc_len (l[i].length : Int)
    have e1 : encs [((l[i].length : Nat) : Int)] = enc (l[i].length : Int) := by simp [encs]
    rw [e1, if_pos (by rw [List.length_append]; omega), add64 (by omega)]
    rw [show ((i : Int) + 1) = ((i + 1 : Nat) : Int) by omega, ih (i + 1) _ n (by omega) (by omega) (by simp only [List.length_append]; omega)]
    rw [List.drop_eq_getElem_cons hil, List.flatMap_cons]
    simp [encT]
theorem texts_eq (k : Nat) (w : wire_Writer) (l : List (List Int)) (hn : l.length < 1000) (hs : ∀ s ∈ l, s.length ≤ 5000) (hk : 6 ≤ k) (hk2 : l.length < k) (hlim : w.out.length + 6000 * l.length + 10 ≤ lim) : wire_Writer_Texts k w l = some ⟨w.out ++ l.flatMap encT⟩ := by
  have := texts_l1 k l hn hs hk l.length 0 w.out k (by omega) hk2 hlim
  simpa [wire_Writer_Texts] using this
theorem ref_text (k : Nat) (s : List Int) (hs : s.length ≤ 5000) (hk : 6 ≤ k) : cabalref10_Text k s = some (encT s) := by
  unfold cabalref10_Text
  rw [wu32s (by omega), ref_number k _ (by omega) hk]
  simp only [Option.bind_some]
  rw [if_pos (by have := enc_len (s.length : Int); unfold lim; omega)]; rfl
end Go.Proofs.Pure
end
section
namespace Go.Proofs.Pure
open Go Go.RowKit Go.Proofs.Kit
set_option linter.unusedVariables false
def Byt (s : List Int) : Prop := ∀ b ∈ s, 0 ≤ b ∧ b < 256
def rd (acc : Int) (i : Nat) : List Int → Int × Int × Int
  | [] => (0, 0, 3)
  | b :: s => if (b = 128 ∧ i = 0) ∨ 4294967296 ≤ acc * 128 + b % 128 ∨ (i = 4 ∧ 128 ≤ b) then (0, 0, 4) else if b < 128 then (acc * 128 + b % 128, (i : Int) + 1, 0) else rd (acc * 128 + b % 128) (i + 1) s
theorem number_l1 (p : wire_Reader) (hs : Byt p.s) : ∀ (n i : Nat) (acc : Int), i ≤ 4 → 6 ≤ n + i → 0 ≤ acc ∧ acc < 4294967296 → wire_Reader_number.l1 4000 p n acc (i : Int) = some (rd acc i (p.s.drop i)) := by
  intro n
  induction n with
  | zero => intro i acc hi hn; omega
  | succ n ih =>
    intro i acc hi hn ha
    by_cases hil : i < p.s.length
    · have hb := hs _ (List.getElem_mem hil)
      have hd : p.s.drop i = p.s[i] :: p.s.drop (i + 1) := List.drop_eq_getElem_cons hil
      rw [wire_Reader_number.l1, if_pos (by simp; omega), at_get hil, hd]
      simp only [Option.bind_some]
      have e1 : iandn .u8 p.s[i] 128 = p.s[i] % 128 := andn128 hb
      have e2 : IntKind.wrap .u64 (p.s[i] % 128) = p.s[i] % 128 := wu64s (by omega)
      have e3 : ior .u64 (ishl .u64 acc 7) (p.s[i] % 128) = acc * 128 + p.s[i] % 128 := shl_or7 (by omega) (by omega)
      rw [e1, e2, e3]
      generalize hx : acc * 128 + p.s[i] % 128 = v
      have hv : 0 ≤ v ∧ v < 549755813888 := by omega
      have hadd : iadd .i64 (i : Int) 1 = (i : Int) + 1 := add64 (by omega)
      rw [rd, hx]
      by_cases c1 : p.s[i] = 128 ∧ i = 0
      · have t : (if p.s[i] == 128 then (i : Int) == 0 else false) = true := by rw [c1.1, c1.2]; rfl
        rw [if_pos t, t, if_pos (Or.inl c1)]; rfl
      · have c1' : ¬ ((if p.s[i] == 128 then (i : Int) == 0 else false) = true) := by
          intro h; split at h
          · rename_i h2; simp at h2 h; exact c1 ⟨h2, by omega⟩
          · cases h
        rw [if_neg c1']
        by_cases c2 : 4294967296 ≤ v
        · have t : decide (v ≥ 4294967296) = true := decide_eq_true c2
          rw [if_pos t, t, if_pos (Or.inr (Or.inl c2))]; rfl
        · have c2' : decide (v ≥ 4294967296) = false := by simp; omega
          have c2n : ¬ (decide (v ≥ 4294967296) = true) := by rw [c2']; decide
          rw [if_neg c2n]
          by_cases c3 : i = 4 ∧ 128 ≤ p.s[i]
          · have t : (if (i : Int) == 4 then decide (p.s[i] ≥ 128) else false) = true := by
              rw [show ((i : Int) == 4) = true by rw [c3.1]; rfl]; exact decide_eq_true c3.2
            rw [t, if_pos (Or.inr (Or.inr c3))]; rfl
          · have cn : ¬ ((p.s[i] = 128 ∧ i = 0) ∨ 4294967296 ≤ v ∨ (i = 4 ∧ 128 ≤ p.s[i])) := by
              rintro (h | h | h)
              · exact c1 h
              · exact c2 h
              · exact c3 h
            rw [if_neg cn]
            have c3' : (if (i : Int) == 4 then decide (p.s[i] ≥ 128) else false) = false := by
              split
              · rename_i h; simp at h ⊢; have : i = 4 := by omega
                exact Int.not_le.1 (fun h2 => c3 ⟨this, h2⟩)
              · rfl
            rw [c3']
            simp only [wire_Reader_number.j2, Bool.false_eq_true, if_false]
            by_cases c4 : p.s[i] < 128
            · rw [if_pos (by simpa using c4), if_pos c4, hadd, wu32s (by omega)]
            · rw [if_neg (by simpa using c4), if_neg c4, hadd]
              have hi4 : i ≠ 4 := fun h => c3 ⟨h, by omega⟩
              have := ih (i + 1) v (by omega) (by omega) (by omega)
              rw [show ((i : Int) + 1) = ((i + 1 : Nat) : Int) by omega]; exact this
    · rw [wire_Reader_number.l1, if_neg (by simp; omega), List.drop_eq_nil_of_le (by omega)]; rfl
theorem number_eq (p : wire_Reader) (hs : Byt p.s) : wire_Reader_number 4000 p = some (rd 0 0 p.s) := by
  have := number_l1 p hs 4000 0 0 (by omega) (by omega) (by omega)
  simpa [wire_Reader_number] using this
theorem rd_more {acc b : Int} {i : Nat} {s : List Int} (h1 : ¬ (b = 128 ∧ i = 0)) (h2 : 128 ≤ b) (h3 : acc * 128 + b % 128 < 4294967296) (h4 : i ≠ 4) : rd acc i (b :: s) = rd (acc * 128 + b % 128) (i + 1) s := by
  rw [rd, if_neg (by rintro (h | h | h); exact h1 h; omega; exact h4 h.1), if_neg (by omega)]
theorem rd_last {acc b : Int} {i : Nat} {s : List Int} (h2 : b < 128) (h0 : 0 ≤ b) (h3 : acc * 128 + b < 4294967296) : rd acc i (b :: s) = (acc * 128 + b, (i : Int) + 1, 0) := by
  have e : b % 128 = b := by omega
  rw [rd, e, if_neg (by rintro (h | h | h) <;> omega), if_pos h2]
theorem rd_enc (n : Int) (hn : 0 ≤ n ∧ n < 4294967296) (rest : List Int) : rd 0 0 (enc n ++ rest) = (n, ((enc n).length : Int), 0) := by
  unfold enc
  by_cases h1 : n < 128
  · rw [if_neg (by omega), if_neg (by omega), if_neg (by omega), if_neg (by omega)]
    simp only [List.nil_append, List.cons_append, List.length_cons, List.length_nil]
    rw [rd_last (by omega) (by omega) (by omega)]
    congr 1 <;> simp; omega
  by_cases h2 : n < 16384
  · rw [if_neg (by omega), if_neg (by omega), if_neg (by omega), if_pos (by omega)]
    simp only [List.nil_append, List.cons_append, List.length_cons, List.length_nil]
    rw [rd_more (by omega) (by omega) (by omega) (by omega), rd_last (by omega) (by omega) (by omega)]
    congr 1 <;> simp; omega
  by_cases h3 : n < 2097152
  · rw [if_neg (by omega), if_neg (by omega), if_pos (by omega), if_pos (by omega)]
    simp only [List.nil_append, List.cons_append, List.length_cons, List.length_nil]
    rw [rd_more (by omega) (by omega) (by omega) (by omega), rd_more (by omega) (by omega) (by omega) (by omega), rd_last (by omega) (by omega) (by omega)]
    congr 1 <;> simp; omega
  by_cases h4 : n < 268435456
  · rw [if_neg (by omega), if_pos (by omega), if_pos (by omega), if_pos (by omega)]
    simp only [List.nil_append, List.cons_append, List.length_cons, List.length_nil]
    rw [rd_more (by omega) (by omega) (by omega) (by omega), rd_more (by omega) (by omega) (by omega) (by omega), rd_more (by omega) (by omega) (by omega) (by omega), rd_last (by omega) (by omega) (by omega)]
    congr 1 <;> simp; omega
  · rw [if_pos (by omega), if_pos (by omega), if_pos (by omega), if_pos (by omega)]
    simp only [List.nil_append, List.cons_append, List.length_cons, List.length_nil]
    rw [rd_more (by omega) (by omega) (by omega) (by omega), rd_more (by omega) (by omega) (by omega) (by omega), rd_more (by omega) (by omega) (by omega) (by omega), rd_more (by omega) (by omega) (by omega) (by omega), rd_last (by omega) (by omega) (by omega)]
    congr 1 <;> simp; omega
theorem rd_inv {acc b n m : Int} {i : Nat} {s : List Int} (h : rd acc i (b :: s) = (n, m, 0)) : ¬ (b = 128 ∧ i = 0) ∧ acc * 128 + b % 128 < 4294967296 ∧ ((b < 128 ∧ n = acc * 128 + b % 128 ∧ m = (i : Int) + 1) ∨ (128 ≤ b ∧ i ≠ 4 ∧ rd (acc * 128 + b % 128) (i + 1) s = (n, m, 0))) := by
  rw [rd] at h
  by_cases c : (b = 128 ∧ i = 0) ∨ 4294967296 ≤ acc * 128 + b % 128 ∨ (i = 4 ∧ 128 ≤ b)
  · rw [if_pos c] at h; cases h
  · rw [if_neg c] at h
    refine ⟨fun q => c (.inl q), by omega, ?_⟩
    by_cases c2 : b < 128
    · rw [if_pos c2] at h; cases h; exact .inl ⟨c2, rfl, rfl⟩
    · rw [if_neg c2] at h; exact .inr ⟨by omega, fun q => c (.inr (.inr ⟨q, by omega⟩)), h⟩
theorem rd_ok {s : List Int} {n m : Int} (hs : Byt s) (h : rd 0 0 s = (n, m, 0)) : 0 ≤ n ∧ n < 4294967296 ∧ m = ((enc n).length : Int) ∧ ∃ rest, s = enc n ++ rest := by
  match s, hs, h with
  | [], _, h => cases h
  | b0 :: s0, hs, h =>
    have g0 := hs b0 (by simp)
    obtain ⟨a0, z0, t0 | ⟨u0, _, h⟩⟩ := rd_inv h
    · obtain ⟨t1, rfl, rfl⟩ := t0
      have e : enc (0 * 128 + b0 % 128) = [b0] := by unfold enc; rw [if_neg (by omega), if_neg (by omega), if_neg (by omega), if_neg (by omega)]; simp; omega
      rw [e]; exact ⟨by omega, by omega, by simp, s0, rfl⟩
    match s0, hs, h with
    | [], _, h => cases h
    | b1 :: s1, hs, h =>
      have g1 := hs b1 (by simp)
      obtain ⟨_, z1, t0 | ⟨u1, _, h⟩⟩ := rd_inv h
      · obtain ⟨t1, rfl, rfl⟩ := t0
        have e : enc ((0 * 128 + b0 % 128) * 128 + b1 % 128) = [b0, b1] := by unfold enc; rw [if_neg (by omega), if_neg (by omega), if_neg (by omega), if_pos (by omega)]; simp; omega
        rw [e]; exact ⟨by omega, by omega, by simp, s1, rfl⟩
      match s1, hs, h with
      | [], _, h => cases h
      | b2 :: s2, hs, h =>
        have g2 := hs b2 (by simp)
        obtain ⟨_, z2, t0 | ⟨u2, _, h⟩⟩ := rd_inv h
        · obtain ⟨t1, rfl, rfl⟩ := t0
          have e : enc (((0 * 128 + b0 % 128) * 128 + b1 % 128) * 128 + b2 % 128) = [b0, b1, b2] := by unfold enc; rw [if_neg (by omega), if_neg (by omega), if_pos (by omega), if_pos (by omega)]; simp; omega
          rw [e]; exact ⟨by omega, by omega, by simp, s2, rfl⟩
        match s2, hs, h with
        | [], _, h => cases h
        | b3 :: s3, hs, h =>
          have g3 := hs b3 (by simp)
          obtain ⟨_, z3, t0 | ⟨u3, _, h⟩⟩ := rd_inv h
          · obtain ⟨t1, rfl, rfl⟩ := t0
            have e : enc ((((0 * 128 + b0 % 128) * 128 + b1 % 128) * 128 + b2 % 128) * 128 + b3 % 128) = [b0, b1, b2, b3] := by unfold enc; rw [if_neg (by omega), if_pos (by omega), if_pos (by omega), if_pos (by omega)]; simp; omega
            rw [e]; exact ⟨by omega, by omega, by simp, s3, rfl⟩
          match s3, hs, h with
          | [], _, h => cases h
          | b4 :: s4, hs, h =>
            have g4 := hs b4 (by simp)
            obtain ⟨_, z4, t0 | ⟨u4, w4, h⟩⟩ := rd_inv h
            · obtain ⟨t1, rfl, rfl⟩ := t0
              have e : enc (((((0 * 128 + b0 % 128) * 128 + b1 % 128) * 128 + b2 % 128) * 128 + b3 % 128) * 128 + b4 % 128) = [b0, b1, b2, b3, b4] := by unfold enc; rw [if_pos (by omega), if_pos (by omega), if_pos (by omega), if_pos (by omega)]; simp; omega
              rw [e]; exact ⟨by omega, by omega, by simp, s4, rfl⟩
            · exact absurd rfl w4
theorem rd_err (s : List Int) : ∀ (acc : Int) (i : Nat), (rd acc i s).2.2 = 0 ∨ ((rd acc i s).1 = 0 ∧ (rd acc i s).2.1 = 0 ∧ ((rd acc i s).2.2 = 3 ∨ (rd acc i s).2.2 = 4)) := by
  induction s with
  | nil => intro acc i; exact .inr ⟨rfl, rfl, .inl rfl⟩
  | cons b s ih =>
    intro acc i
    rw [rd]
    split
    · exact .inr ⟨rfl, rfl, .inr rfl⟩
    · split
      · exact .inl rfl
      · exact ih _ _
theorem enc_byt (n : Int) : Byt (enc n) := by
  intro b hb
  unfold enc at hb
  simp only [List.mem_append] at hb
  rcases hb with (((hb | hb) | hb) | hb) | hb
  all_goals first
    | (split at hb <;> simp at hb <;> omega)
    | (simp at hb; omega)
theorem Number_def (p : wire_Reader) (hs : Byt p.s) (h0 : p.err = 0) (hm : 0 ≤ (rd 0 0 p.s).2.1 ∧ (rd 0 0 p.s).2.1 ≤ p.s.length) : wire_Reader_Number 4000 p = some ((rd 0 0 p.s).1, ⟨p.s.drop (rd 0 0 p.s).2.1.toNat, (rd 0 0 p.s).2.2⟩) := by
  unfold wire_Reader_Number
  rw [if_neg (by simp [h0]), number_eq p hs]
  simp only [Option.bind_some]
  rw [cut_ok ⟨hm.1, by omega, by omega⟩]
  simp only [Option.bind_some]
  congr 2
  simp
theorem Number_enc (n : Int) (hn : 0 ≤ n ∧ n < 4294967296) (rest : List Int) (hr : Byt rest) : wire_Reader_Number 4000 ⟨enc n ++ rest, 0⟩ = some (n, ⟨rest, 0⟩) := by
  have e := rd_enc n hn rest
  rw [Number_def ⟨enc n ++ rest, 0⟩ (fun b hb => by rcases List.mem_append.1 hb with h | h; exact enc_byt n b h; exact hr b h) rfl (by rw [e]; simp; omega)]
  rw [e]; simp
theorem count_enc (n most : Int) (hn : 0 ≤ n ∧ n < 4294967296) (hm : n ≤ most) (rest : List Int) (hr : Byt rest) : wire_Reader_count 4000 ⟨enc n ++ rest, 0⟩ most = some (n, ⟨rest, 0⟩) := by
  unfold wire_Reader_count
  rw [Number_enc n hn rest hr]
  simp only [Option.bind_some]
  rw [wi64 (by omega)]
  have : decide (n > if (0 : Int) > most then 0 else most) = false := by simp; split <;> omega
  simp [this]
theorem take_ok (s : List Int) (n : Nat) (h : n ≤ s.length) (hn : s.length < 9223372036854775808) : wire_Reader_take 4000 ⟨s, 0⟩ (n : Int) = some (s.take n, ⟨s.drop n, 0⟩) := by
  unfold wire_Reader_take
  have : decide ((n : Int) > (s.length : Int)) = false := by simp; omega
  simp only [beq_self_eq_true, if_true, this, Option.bind_some, Bool.false_eq_true, if_false, wire_Reader_take.j1, cut_pre h, cut_suf h]
  simp
theorem take_short (s : List Int) (n : Int) (h : (s.length : Int) < n) : wire_Reader_take 4000 ⟨s, 0⟩ n = some ([], ⟨s, 3⟩) := by
  unfold wire_Reader_take
  have : decide (n > (s.length : Int)) = true := by simp; omega
  simp [this, wire_Reader_take.j1]
theorem take_stuck (p : wire_Reader) (n : Int) (h0 : p.err ≠ 0) : wire_Reader_take 4000 p n = some ([], p) := by
  unfold wire_Reader_take
  simp [h0, wire_Reader_take.j1]
theorem Text_enc (t rest : List Int) (most : Int) (ht : t.length < 100000) (hm : (t.length : Int) ≤ most) (h1 : Byt t) (h2 : Byt rest) (hn : rest.length < 1000000000) : wire_Reader_Text 4000 ⟨encT t ++ rest, 0⟩ most = some (t, ⟨rest, 0⟩) := by
  unfold wire_Reader_Text encT
  rw [List.append_assoc, count_enc _ most (by omega) hm (t ++ rest) (fun b hb => by rcases List.mem_append.1 hb with h | h; exact h1 b h; exact h2 b h)]
  simp only [Option.bind_some]
  rw [take_ok (t ++ rest) t.length (by simp) (by simp; omega)]
  simp [wire_Reader_Text.j1]
end Go.Proofs.Pure
end
section
namespace Go.Proofs.Pure
open Go Go.RowKit Go.Proofs.Kit
set_option linter.unusedVariables false
set_option linter.unusedSimpArgs false
theorem rnumber_l1 (p : cabalref10_Reader) (hs : Byt p.S) : ∀ (n i : Nat) (acc : Int), i ≤ 4 → 6 ≤ n + i → 0 ≤ acc ∧ acc < 4294967296 →
    cabalref10_Reader_Number.l1 4000 p n acc (i : Int) = some (if (rd acc i (p.S.drop i)).2.2 = 0 then ((rd acc i (p.S.drop i)).1, { p with S := p.S.drop (rd acc i (p.S.drop i)).2.1.toNat }) else (0, { p with Err := (rd acc i (p.S.drop i)).2.2 })) := by
  intro n
  induction n with
  | zero => intro i acc hi hn; omega
  | succ n ih =>
    intro i acc hi hn ha
    rw [cabalref10_Reader_Number.l1]
    by_cases hil : i < p.S.length
    · have hb := hs _ (List.getElem_mem hil)
      have hd : p.S.drop i = p.S[i] :: p.S.drop (i + 1) := List.drop_eq_getElem_cons hil
      have hnext : iadd .i64 (i : Int) 1 = ((i + 1 : Nat) : Int) := by rw [add64 (by omega)]; omega
      rw [if_pos (decide_eq_true (by omega)), at_get hil, hd]
      simp only [Option.bind_some]
      have e1 : irem p.S[i] 128 = p.S[i] % 128 := rem_pos hb.1
      have e2 : IntKind.wrap .u64 (p.S[i] % 128) = p.S[i] % 128 := wu64s (by omega)
      have e3 : imul .u64 acc 128 = acc * 128 := mulu64 (by omega)
      have e4 : iadd .u64 (acc * 128) (p.S[i] % 128) = acc * 128 + p.S[i] % 128 := addu64 (by omega)
      rw [e1, e2, e3, e4, hnext]
      have eu : rd acc i (p.S[i] :: p.S.drop (i + 1)) = if (p.S[i] = 128 ∧ i = 0) ∨ 4294967296 ≤ acc * 128 + p.S[i] % 128 ∨ (i = 4 ∧ 128 ≤ p.S[i]) then (0, 0, 4) else if p.S[i] < 128 then (acc * 128 + p.S[i] % 128, (i : Int) + 1, 0) else rd (acc * 128 + p.S[i] % 128) (i + 1) (p.S.drop (i + 1)) := rfl
      generalize hv : acc * 128 + p.S[i] % 128 = v at *
      have ec : (if (if (if ((i : Int) == (0 : Int)) then (p.S[i] == (128 : Int)) else false) then true else (decide (v > (4294967295 : Int)))) then true else (if ((i : Int) == (4 : Int)) then (decide (p.S[i] > (127 : Int))) else false)) = decide ((p.S[i] = 128 ∧ i = 0) ∨ 4294967296 ≤ v ∨ (i = 4 ∧ 128 ≤ p.S[i])) := by
        rw [Bool.eq_iff_iff]
        simp only [decide_eq_true_eq]
        by_cases c0 : i = 0
        · subst c0
          by_cases c1 : p.S[0] = 128
          · simp [c1]
          · by_cases c2 : 4294967296 ≤ v
            · have : decide (v > 4294967295) = true := decide_eq_true (by omega)
              simp [c1, c2, this]
            · have : decide (v > 4294967295) = false := decide_eq_false (by omega)
              simp [c1, c2, this]
        · have z : ((i : Int) == 0) = false := by simp; omega
          by_cases c2 : 4294967296 ≤ v
          · have : decide (v > 4294967295) = true := decide_eq_true (by omega)
            simp [z, c0, c2, this]
          · have t : decide (v > 4294967295) = false := decide_eq_false (by omega)
            by_cases c3 : i = 4
            · subst c3
              simp [z, c2, t]; omega
            · have z4 : ((i : Int) == 4) = false := by simp; omega
              simp [z, z4, c0, c2, c3, t]
      rw [ec, eu]
      by_cases cc : (p.S[i] = 128 ∧ i = 0) ∨ 4294967296 ≤ v ∨ (i = 4 ∧ 128 ≤ p.S[i])
      · rw [if_pos (decide_eq_true cc), if_pos cc]
        simp
      · rw [if_neg (by simpa using cc), if_neg cc]
        by_cases cb : p.S[i] < 128
        · rw [if_pos (decide_eq_true cb), if_pos cb, cut_suf (by omega)]
          simp only [Option.bind_some, if_true]
          have : IntKind.wrap .u32 v = v := wu32s (by omega)
          rw [this]
          have : ((i : Int) + 1).toNat = i + 1 := by omega
          rw [this]
        · rw [if_neg (by simpa using cb), if_neg cb]
          exact ih (i + 1) v (by omega) (by omega) (by omega)
    · rw [if_neg (by simp; omega), cabalref10_Reader_Number.j1, List.drop_eq_nil_of_le (by omega)]
      rfl
theorem rNumber_def (s : List Int) (hs : Byt s) : cabalref10_Reader_Number 4000 ⟨s, 0⟩ = some (if (rd 0 0 s).2.2 = 0 then ((rd 0 0 s).1, ⟨s.drop (rd 0 0 s).2.1.toNat, 0⟩) else (0, ⟨s, (rd 0 0 s).2.2⟩)) := by
  unfold cabalref10_Reader_Number
  rw [if_neg (by simp)]
  have := rnumber_l1 ⟨s, 0⟩ hs 4000 0 0 (by omega) (by omega) (by omega)
  rw [show ((0 : Nat) : Int) = 0 from rfl, List.drop_zero] at this
  exact this
theorem both_number (s : List Int) (hs : Byt s) : (∃ n rest, 0 ≤ n ∧ n < 4294967296 ∧ s = enc n ++ rest ∧ wire_Reader_Number 4000 ⟨s, 0⟩ = some (n, ⟨rest, 0⟩) ∧ cabalref10_Reader_Number 4000 ⟨s, 0⟩ = some (n, ⟨rest, 0⟩)) ∨
    ∃ e, (e = 3 ∨ e = 4) ∧ wire_Reader_Number 4000 ⟨s, 0⟩ = some (0, ⟨s, e⟩) ∧ cabalref10_Reader_Number 4000 ⟨s, 0⟩ = some (0, ⟨s, e⟩) := by
  rcases rd_err s 0 0 with h | ⟨h1, h2, h3⟩
  · obtain ⟨a, b, c, rest, hr⟩ := rd_ok (n := (rd 0 0 s).1) (m := (rd 0 0 s).2.1) hs (Prod.ext rfl (Prod.ext rfl h))
    refine .inl ⟨_, rest, a, b, hr, ?_, ?_⟩
    · have hrest : Byt rest := fun x hx => hs x (by rw [hr]; simp [hx])
      have := Number_enc (rd 0 0 s).1 ⟨a, b⟩ rest hrest
      rw [← hr] at this; exact this
    · rw [rNumber_def s hs, if_pos h, c]
      congr 2
      have key : ∀ e : List Int, s = e ++ rest → s.drop e.length = rest := fun e he => by rw [he]; simp
      rw [Int.toNat_natCast, key _ hr]
  · refine .inr ⟨(rd 0 0 s).2.2, h3, ?_, ?_⟩
    · rw [Number_def ⟨s, 0⟩ hs rfl (by rw [h2]; simp), h1, h2]; simp
    · rw [rNumber_def s hs, if_neg (by rcases h3 with e | e <;> rw [e] <;> decide)]
theorem both_count (s : List Int) (hs : Byt s) (most : Int) (hm : 0 ≤ most ∧ most < 4294967296) : (∃ n rest, 0 ≤ n ∧ n ≤ most ∧ s = enc n ++ rest ∧ wire_Reader_count 4000 ⟨s, 0⟩ most = some (n, ⟨rest, 0⟩) ∧ cabalref10_Reader_count 4000 ⟨s, 0⟩ most = some (n, ⟨rest, 0⟩)) ∨
    ∃ e t, (e = 3 ∨ e = 4 ∨ e = 5) ∧ wire_Reader_count 4000 ⟨s, 0⟩ most = some (0, ⟨s, e⟩) ∧ cabalref10_Reader_count 4000 ⟨s, 0⟩ most = some (0, ⟨t, e⟩) := by
  unfold wire_Reader_count cabalref10_Reader_count
  have e0 : decide (most < 0) = false := decide_eq_false (by omega)
  have em : (if (0 : Int) > most then 0 else most) = most := by split <;> omega
  rcases both_number s hs with ⟨n, rest, h1, h2, h3, h4, h5⟩ | ⟨e, h1, h2, h3⟩
  · rw [h4, h5]
    simp only [Option.bind_some, e0, em, wi64 (show -9223372036854775808 ≤ n ∧ n < 9223372036854775808 by omega), Bool.false_eq_true, if_false, cabalref10_Reader_count.j1, wu64s (show 0 ≤ n ∧ n < 18446744073709551616 by omega), wu64s (show 0 ≤ most ∧ most < 18446744073709551616 by omega)]
    by_cases c : n ≤ most
    · have t : decide (n > most) = false := decide_eq_false (by omega)
      refine .inl ⟨n, rest, h1, c, h3, ?_, ?_⟩
      · simp [t]
      · simp only [t, beq_self_eq_true, if_true, Bool.false_eq_true, if_false, cabalref10_Reader_count.j2]
        simp [wi64 (show -9223372036854775808 ≤ n ∧ n < 9223372036854775808 by omega)]
    · have t : decide (n > most) = true := decide_eq_true (by omega)
      refine .inr ⟨5, rest, by simp, ?_, ?_⟩
      · simp [t]
      · simp only [t, beq_self_eq_true, if_true, cabalref10_Reader_count.j2]
        simp
  · rw [h2, h3]
    have z : (e == 0) = false := by rcases h1 with h | h <;> simp [h]
    have z2 : (e != 0) = true := by rcases h1 with h | h <;> simp [h]
    refine .inr ⟨e, s, by rcases h1 with h | h <;> simp [h], ?_, ?_⟩
    · simp only [Option.bind_some, wi64 (show -9223372036854775808 ≤ (0 : Int) ∧ (0 : Int) < 9223372036854775808 by omega), z, Bool.false_eq_true, if_false]
    · simp only [Option.bind_some, e0, Bool.false_eq_true, if_false, cabalref10_Reader_count.j1, z, cabalref10_Reader_count.j2, z2, if_true]
theorem both_text (s : List Int) (hs : Byt s) (hn : s.length < 1000000000) (most : Int) (hm : 0 ≤ most ∧ most < 4294967296) : (∃ t rest, (t.length : Int) ≤ most ∧ Byt t ∧ s = encT t ++ rest ∧ wire_Reader_Text 4000 ⟨s, 0⟩ most = some (t, ⟨rest, 0⟩) ∧ cabalref10_Reader_Text 4000 ⟨s, 0⟩ most = some (t, ⟨rest, 0⟩)) ∨
    ∃ e, (e = 3 ∨ e = 4 ∨ e = 5) ∧ wire_Reader_Text 4000 ⟨s, 0⟩ most = some ([], ⟨s, e⟩) ∧ cabalref10_Reader_Text 4000 ⟨s, 0⟩ most = some ([], ⟨s, e⟩) := by
  unfold wire_Reader_Text cabalref10_Reader_Text
  rcases both_count s hs most hm with ⟨n, rest, h1, h2, h3, h4, h5⟩ | ⟨e, t, h1, h2, h3⟩
  · obtain ⟨n, rfl⟩ : ∃ m : Nat, n = m := ⟨n.toNat, by omega⟩
    have hrl : rest.length ≤ s.length := by rw [h3]; simp
    rw [h4, h5]
    simp only [Option.bind_some]
    by_cases c : n ≤ rest.length
    · have t : decide ((n : Int) > (rest.length : Int)) = false := decide_eq_false (by omega)
      have hlen : (rest.take n).length = n := by rw [List.length_take]; omega
      refine .inl ⟨rest.take n, rest.drop n, by rw [hlen]; exact h2, fun b hb => hs b (by rw [h3]; simp [List.mem_of_mem_take hb]), ?_, ?_, ?_⟩
      · unfold encT; rw [hlen, List.append_assoc, List.take_append_drop]; exact h3
      · rw [take_ok rest n c (by omega)]
        simp [wire_Reader_Text.j1]
      · simp only [t, beq_self_eq_true, if_true, Bool.false_eq_true, if_false, cabalref10_Reader_Text.j1, cut_pre c, cut_suf c, Option.bind_some]
        simp
    · have t : decide ((n : Int) > (rest.length : Int)) = true := decide_eq_true (by omega)
      refine .inr ⟨3, by simp, ?_, ?_⟩
      · rw [take_short rest n (by omega)]
        simp [wire_Reader_Text.j1]
      · simp only [t, beq_self_eq_true, if_true, cabalref10_Reader_Text.j1, cabalref10_Reader_stay]
        simp
  · have z : (e == 0) = false := by rcases h1 with h | h | h <;> simp [h]
    have z2 : (e != 0) = true := by rcases h1 with h | h | h <;> simp [h]
    have ne : e ≠ 0 := by rcases h1 with h | h | h <;> simp [h]
    rw [h2, h3]
    refine .inr ⟨e, h1, ?_, ?_⟩
    · simp only [Option.bind_some]
      rw [take_stuck _ _ ne]
      simp [ne, wire_Reader_Text.j1]
    · simp only [Option.bind_some, z, Bool.false_eq_true, if_false, cabalref10_Reader_Text.j1, z2, if_true, cabalref10_Reader_stay]
def encB (l : List (List Int)) : List Int := (l.map encT).flatten
theorem encB_nil : encB [] = [] := rfl
theorem encB_cons (t : List Int) (l : List (List Int)) : encB (t :: l) = encT t ++ encB l := rfl
theorem encB_append (a b : List (List Int)) : encB (a ++ b) = encB a ++ encB b := by simp [encB]
def Recs (l : List (List Int)) : Prop := ∀ t ∈ l, Byt t ∧ t.length ≤ 60000
theorem encT_byt {t : List Int} (h : Byt t) : Byt (encT t) := fun x hx => by
  unfold encT at hx
  rcases List.mem_append.1 hx with q | q
  · exact enc_byt _ x q
  · exact h x q
theorem encB_byt {l : List (List Int)} (h : Recs l) : Byt (encB l) := by
  induction l with
  | nil => intro x hx; cases hx
  | cons t l ih =>
    intro x hx
    rw [encB_cons] at hx
    rcases List.mem_append.1 hx with q | q
    · exact encT_byt (h t (by simp)).1 x q
    · exact ih (fun y hy => h y (by simp [hy])) x q
theorem encT_pos (t : List Int) : 1 ≤ (encT t).length := by unfold encT; rw [List.length_append]; have := enc_pos (t.length : Int); omega
theorem recs_both (p1 : cabalref12_Disk) (x4 : Int) : ∀ (n : Nat) (s : List Int) (acc : List (List Int)), Byt s → s.length + 2 ≤ n → n ≤ 100000 → acc.length + s.length ≤ 200000 →
    (∃ L, Recs L ∧ s = encB L ∧ journal_records.l1 4000 n ⟨s, 0⟩ acc = some (acc ++ L, true) ∧ cabalref13_Open.l1 4000 p1 x4 n ⟨s, 0⟩ acc = cabalref13_Open.j2 4000 p1 x4 ⟨[], 0⟩ (acc ++ L)) ∨
    ((∃ l', journal_records.l1 4000 n ⟨s, 0⟩ acc = some (l', false)) ∧ ∃ e y l'', e ≠ 0 ∧ cabalref13_Open.l1 4000 p1 x4 n ⟨s, 0⟩ acc = cabalref13_Open.j2 4000 p1 x4 ⟨y, e⟩ l'') := by
  have hL : (1000000 : Nat) ≤ lim := by unfold lim; omega
  intro n
  induction n with
  | zero => intro s acc h1 h2; omega
  | succ n ih =>
    intro s acc hs hn h5 ha
    cases s with
    | nil =>
      refine .inl ⟨[], fun t ht => (by cases ht), rfl, ?_, ?_⟩
      · rw [journal_records.l1]
        simp [wire_Reader_Left, journal_records.j1, wire_Reader_End]
      · rw [cabalref13_Open.l1]
        simp
    | cons b s =>
      obtain ⟨n, rfl⟩ : ∃ q, n = q + 1 := ⟨n - 1, by simp only [List.length_cons] at hn; omega⟩
      have hpos : decide ((((b :: s).length : Nat) : Int) > 0) = true := decide_eq_true (by simp only [List.length_cons]; omega)
      rcases both_text (b :: s) hs (by simp only [List.length_cons] at ha ⊢; omega) 60000 (by omega) with ⟨t, rest, t1, t2, t3, t4, t5⟩ | ⟨e, e1, e2, e3⟩
      · have hrl : rest.length + 1 ≤ (b :: s).length := by rw [t3, List.length_append]; have := encT_pos t; omega
        have hrb : Byt rest := fun x hx => hs x (by rw [t3]; simp [hx])
        have hacc : (acc ++ [t]).length = acc.length + 1 := by simp
        have step := ih rest (acc ++ [t]) hrb (by omega) (by omega) (by omega)
        have a1 : journal_records.l1 4000 (n + 1 + 1) ⟨b :: s, 0⟩ acc = journal_records.l1 4000 (n + 1) ⟨rest, 0⟩ (acc ++ [t]) := by
          rw [journal_records.l1]
          simp only [wire_Reader_Left, Option.bind_some, hpos, beq_self_eq_true, if_true, wire_Reader_End, t4]
          rw [if_pos (by simp; omega)]
        have a2 : cabalref13_Open.l1 4000 p1 x4 (n + 1 + 1) ⟨b :: s, 0⟩ acc = cabalref13_Open.l1 4000 p1 x4 (n + 1) ⟨rest, 0⟩ (acc ++ [t]) := by
          rw [cabalref13_Open.l1]
          simp only [Option.bind_some, hpos, beq_self_eq_true, if_true, t5]
          rw [if_pos (by simp; omega)]
        rw [a1, a2]
        rcases step with ⟨L, L1, L2, L3, L4⟩ | h
        · refine .inl ⟨t :: L, fun y hy => ?_, by rw [encB_cons, ← L2]; exact t3, by rw [L3, List.append_assoc]; rfl, by rw [L4, List.append_assoc]; rfl⟩
          rcases List.mem_cons.1 hy with q | q
          · rw [q]; exact ⟨t2, by omega⟩
          · exact L1 y q
        · exact .inr h
      · have z : (e == 0) = false := by rcases e1 with h | h | h <;> simp [h]
        have ne : e ≠ 0 := by rcases e1 with h | h | h <;> simp [h]
        have z6 : (e == 6) = false := by rcases e1 with h | h | h <;> simp [h]
        refine .inr ⟨⟨acc ++ [[]], ?_⟩, e, b :: s, acc ++ [[]], ne, ?_⟩
        · rw [journal_records.l1]
          simp only [wire_Reader_Left, Option.bind_some, hpos, beq_self_eq_true, if_true, wire_Reader_End, e2]
          rw [if_pos (by simp; omega), journal_records.l1]
          simp only [wire_Reader_Left, Option.bind_some, hpos, beq_self_eq_true, if_true, wire_Reader_End, z, Bool.false_eq_true, if_false, z6, journal_records.j1]
        · rw [cabalref13_Open.l1]
          simp only [Option.bind_some, hpos, beq_self_eq_true, if_true, e3]
          rw [if_pos (by simp; omega), cabalref13_Open.l1]
          simp only [Option.bind_some, hpos, z, if_true, Bool.false_eq_true, if_false]
end Go.Proofs.Pure
end
section
namespace Go.Proofs.Pure
open Go Go.RowKit Go.Proofs.Kit
set_option linter.unusedVariables false
set_option linter.unusedSimpArgs false
theorem burn_in (d : disk_Disk) (hd : d.dead = false) : ∃ fu de, disk_Disk_burn 4000 d = some (!de, ⟨d.firm, d.loose, fu, de⟩) ∧ cabalref12_Disk_burn 4000 (twin d) = some (!de, ⟨d.firm, d.loose.map (·.at_), d.loose.map (·.data), fu, de⟩) ∧ (d.fuse = -1 → fu = -1 ∧ de = false) := by
  unfold disk_Disk_burn cabalref12_Disk_burn
  by_cases h : d.fuse = 0
  · have t : (d.fuse == 0) = true := by simp [h]
    simp only [twin, t, if_true, disk_Disk_burn.j1]
    exact ⟨d.fuse, true, rfl, rfl, fun e => by omega⟩
  · have t : (d.fuse == 0) = false := by simp [h]
    by_cases g : d.fuse > 0
    · have t2 : decide (d.fuse > 0) = true := decide_eq_true g
      simp only [twin, t, t2, Bool.false_eq_true, if_false, if_true, disk_Disk_burn.j1, cabalref12_Disk_burn.j1, hd]
      exact ⟨isub .i64 d.fuse 1, false, rfl, rfl, fun e => by omega⟩
    · have t2 : decide (d.fuse > 0) = false := decide_eq_false g
      simp only [twin, t, t2, Bool.false_eq_true, if_false, disk_Disk_burn.j1, cabalref12_Disk_burn.j1, hd]
      exact ⟨d.fuse, false, rfl, rfl, fun e => ⟨e, rfl⟩⟩
def Wr (d : disk_Disk) (p : Int) (dat : List Int) (c : Int) (e : disk_Disk) : Prop := disk_Disk_Write 4000 d p dat = some (c, e) ∧ cabalref12_Disk_Write 4000 (twin d) p dat = some (c, twin e)
def Sy (d : disk_Disk) (c : Int) (e : disk_Disk) : Prop := disk_Disk_Sync 4000 d = some (c, e) ∧ cabalref12_Disk_Sync 4000 (twin d) = some (c, twin e)
theorem write_live {n : Nat} (hn : n ≤ 1000) {d : disk_Disk} (h : Wf n d) {p : Int} {dat : List Int} (hp : 0 ≤ p ∧ p < d.firm.length) (hl : dat.length = 256) (hd : d.dead = false) :
    ∃ fu de, Wr d p dat (if de then 7 else 0) ⟨d.firm, d.loose ++ [⟨p, dat⟩], fu, de⟩ ∧ Wf (n + 1) ⟨d.firm, d.loose ++ [⟨p, dat⟩], fu, de⟩ ∧ (d.fuse = -1 → fu = -1 ∧ de = false) := by
  have hL : (1000000 : Nat) ≤ lim := by unfold lim; omega
  have hfew := h.few
  unfold Wr disk_Disk_Write cabalref12_Disk_Write
  rw [has_eq, has_ref]
  simp only [Option.bind_some]
  have e : (if (!decide (0 ≤ p ∧ p < (d.firm.length : Int))) = true then true else (dat.length : Int) != 256) = false := by simp [hp, hl]
  rw [e]
  simp only [Bool.false_eq_true, if_false]
  have h3 : ¬ d.dead = true := by simp [hd]
  have r1 : (twin d).Dead = false := hd
  have r2 : (twin d).At.length + [p].length ≤ lim := by simp [twin]; omega
  have r3 : (twin d).Data.length + [dat].length ≤ lim := by simp [twin]; omega
  have r4 : dat.length ≤ (256 : Int).toNat - (0 : Int).toNat := by rw [hl]; decide
  rw [if_neg h3, if_pos r4, r1]
  simp only [Bool.false_eq_true, if_false]
  rw [if_pos r2, if_pos r3]
  have e2 : ({ (⟨p, List.replicate 256 (0 : Int)⟩ : disk_write) with data := (((⟨p, List.replicate 256 (0 : Int)⟩ : disk_write).data).take (0 : Int).toNat ++ dat ++ ((⟨p, List.replicate 256 (0 : Int)⟩ : disk_write).data).drop ((0 : Int).toNat + dat.length)) } : disk_write) = ⟨p, dat⟩ := by
    rw [List.drop_eq_nil_of_le (by rw [hl, List.length_replicate]; decide), Int.toNat_zero, List.take_zero, List.nil_append, List.append_nil]
  rw [e2]
  rw [if_pos (by simp; omega)]
  obtain ⟨fu, de, b1, b2, b3⟩ := burn_in ⟨d.firm, d.loose ++ [⟨p, dat⟩], d.fuse, d.dead⟩ hd
  have e3 : (⟨(twin d).Firm, (twin d).At ++ [p], (twin d).Data ++ [dat], (twin d).Fuse, false⟩ : cabalref12_Disk) = twin ⟨d.firm, d.loose ++ [⟨p, dat⟩], d.fuse, d.dead⟩ := by simp [twin, hd]
  rw [e3, b1, b2]
  simp only [Option.bind_some]
  have wf2 : Wf (n + 1) ⟨d.firm, d.loose ++ [⟨p, dat⟩], fu, de⟩ := ⟨h.blocks, h.size, fun w hw => by
    rcases List.mem_append.1 hw with q | q
    · exact h.each w q
    · simp at q; subst q; exact ⟨hp.1, hp.2, hl⟩, by simp; omega⟩
  refine ⟨fu, de, ?_, wf2, b3⟩
  cases de with
  | true => exact ⟨rfl, rfl⟩
  | false => exact ⟨rfl, rfl⟩
def settled (d : disk_Disk) : List (List Int) := sett (fun _ => 256) 0 d.loose d.firm
theorem sync_live {N : Nat} (hN : N ≤ 1000) {d : disk_Disk} (h : Wf N d) (hd : d.dead = false) :
    ∃ fu de, Sy d (if de then 7 else 0) (if de then ⟨d.firm, d.loose, fu, true⟩ else ⟨settled d, [], fu, false⟩) ∧ (d.fuse = -1 → fu = -1 ∧ de = false) := by
  have hfew := h.few
  unfold Sy disk_Disk_Sync cabalref12_Disk_Sync
  have e : (twin d).Dead = false := hd
  obtain ⟨fu, de, b1, b2, b3⟩ := burn_in d hd
  simp only [e, hd, b1, b2]
  refine ⟨fu, de, ?_, b3⟩
  cases de with
  | true => exact ⟨rfl, rfl⟩
  | false =>
    have h2 : Wf N ⟨d.firm, d.loose, fu, false⟩ := ⟨h.blocks, h.size, h.each, h.few⟩
    have t1 := sync_l1 hN ⟨d.firm, d.loose, fu, false⟩ h2 d.loose.length 0 4000 d.firm (Nat.zero_add _) (by omega) h.blk
    have t2 := ref_sync_l1 hN d h fu false d.loose.length 0 4000 d.firm (Nat.zero_add _) (by omega) h.blk
    rw [show ((0 : Nat) : Int) = 0 from rfl, List.drop_zero] at t1 t2
    simp only [Bool.false_eq_true, if_false, beq_self_eq_true, if_true, Option.bind_some, Bool.not_true, Bool.not_false, disk_Disk_settle_disk_Disk_Sync_1, t1, t2]
    exact ⟨rfl, rfl⟩
theorem settled_wf {N : Nat} {d : disk_Disk} (h : Wf N d) (fu : Int) (de : Bool) : Wf 0 ⟨settled d, [], fu, de⟩ ∧ (settled d).length = d.firm.length := by
  have hb := sett_blk (n := d.firm.length) (fun _ => 256) (fun _ => Nat.le_refl _) d.loose 0 d.firm h.each h.blk
  exact ⟨⟨by show (sett _ 0 d.loose d.firm).length ≤ _; rw [hb.1]; exact h.blocks, hb.2, fun w hw => (by cases hw), Nat.zero_le _⟩, hb.1⟩
end Go.Proofs.Pure
end
section
namespace Go.Proofs.Pure
open Go Go.RowKit Go.Proofs.Kit
set_option linter.unusedVariables false
set_option linter.unusedSimpArgs false
theorem sum_one (a : List Int) (ha : a.length ≤ 100) (ba : Bytes a) : ∃ d, digest_Sum 4000 [a] = some d ∧ cabalref01_Sum 4000 a = some d ∧ d.length = 32 ∧ Bytes d := by
  have hf : [a].flatten = a := by simp
  obtain ⟨h1, q1, R1⟩ := write_rep 4000 (fresh_rep 4000) [a] (fun x hx => by rw [List.mem_singleton.1 hx]; exact ba) (by show 1 < 100000; omega) (by show 1 < 4000; omega) (by rw [hf, List.nil_append]; omega) (by omega)
  rw [List.nil_append, hf] at R1
  obtain ⟨d, s1, s2, s3, s4⟩ := sum_eq 4000 (by omega) R1 (by omega)
  refine ⟨d, ?_, s2, s3, s4⟩
  unfold digest_Sum
  rw [show digest_Hash_Write 4000 _ [a] = some h1 from q1, Option.bind_some, s1]; rfl
def fil (s : List Int) (n : Nat) : List Int := s ++ List.replicate (n - s.length) 0
theorem fil_len {s : List Int} {n : Nat} (h : s.length ≤ n) : (fil s n).length = n := by unfold fil; simp; omega
theorem filled_eq (s : List Int) (n : Nat) (h1 : s.length ≤ 100000) (h2 : n ≤ 100000) : journal_filled 4000 s (n : Int) = some (fil s n) := by
  have hL : (1000000 : Nat) ≤ lim := by unfold lim; omega
  unfold journal_filled fil
  rw [sub64 (by omega)]
  by_cases c : s.length ≤ n
  · have e : (if (0 : Int) > (n : Int) - (s.length : Int) then (0 : Int) else (n : Int) - (s.length : Int)) = ((n - s.length : Nat) : Int) := by split <;> omega
    rw [e]
    simp only [Option.bind_some]
    rw [if_pos (by omega), if_pos (by simp; omega), Int.toNat_natCast]
  · have e : (if (0 : Int) > (n : Int) - (s.length : Int) then (0 : Int) else (n : Int) - (s.length : Int)) = ((0 : Nat) : Int) := by split <;> omega
    rw [e]
    simp only [Option.bind_some]
    rw [if_pos (by omega), if_pos (by simp; omega), Int.toNat_natCast, show n - s.length = 0 by omega]
theorem rfilled_eq (s : List Int) (n : Nat) (h1 : s.length ≤ 100000) (h2 : n ≤ 100000) : cabalref13_filled 4000 s (n : Int) = some (fil s n) := by
  have hL : (1000000 : Nat) ≤ lim := by unfold lim; omega
  unfold cabalref13_filled fil
  by_cases c : n ≤ s.length
  · rw [if_pos (decide_eq_true (by omega)), show n - s.length = 0 by omega]; simp
  · rw [if_neg (by simp; omega), sub64 (by omega)]
    have e : ((n : Int) - (s.length : Int)) = ((n - s.length : Nat) : Int) := by omega
    rw [e, if_pos (by omega), if_pos (by simp; omega), Int.toNat_natCast]
    rfl
def hdr (a n : Int) : List Int := [109, 97, 114, 107, a, n / 16777216, n / 65536 % 256, n / 256 % 256, n % 256]
def mk (a n : Int) : List Int := fil (hdr a n ++ ((digest_Sum 4000 [hdr a n]).getD []).take 8) 64
theorem mk_len (a n : Int) : (mk a n).length = 64 := by
  unfold mk
  refine fil_len ?_
  rw [List.length_append, List.length_take]
  show 9 + _ ≤ 64
  omega
theorem mk_take (a n : Int) : (mk a n).take 9 = hdr a n := by
  unfold mk fil
  rw [List.append_assoc, List.take_append_of_le_length (by show 9 ≤ 9; omega)]
  rfl
theorem hdr_byt {a n : Int} (ha : 0 ≤ a ∧ a < 256) (hn : 0 ≤ n ∧ n < 4294967296) : Bytes (hdr a n) := fun x hx => by
  unfold hdr at hx
  simp only [List.mem_cons, List.not_mem_nil, or_false] at hx
  rcases hx with h | h | h | h | h | h | h | h | h <;> rw [h] <;> omega
theorem ishr_i (n : Int) (hn : 0 ≤ n) (k : Nat) (hk : k ≤ 64) : ishr .i64 n (k : Int) = n / 2 ^ k := by
  have := shr_def (k := .i64) (x := n) (y := (k : Int)) (by rw [Int.toNat_natCast]; exact hk)
  rw [Int.toNat_natCast] at this
  exact this
theorem mark_eq {a n : Int} (ha : 0 ≤ a ∧ a < 256) (hn : 0 ≤ n ∧ n < 4294967296) : journal_mark 4000 a n = some (mk a n) ∧ cabalref13_Mark 4000 a n = some (mk a n) ∧ Bytes (mk a n) := by
  have hL : (1000000 : Nat) ≤ lim := by unfold lim; omega
  obtain ⟨d, s1, s2, s3, s4⟩ := sum_one (hdr a n) (by show 9 ≤ 100; omega) (hdr_byt ha hn)
  have em : mk a n = fil (hdr a n ++ d.take 8) 64 := by unfold mk; rw [s1]; rfl
  have e0 : IntKind.wrap .u8 a = a := wu8s (by omega)
  have e24 : ishr .i64 n 24 = n / 16777216 := ishr_i n hn.1 24 (by omega)
  have e16 : ishr .i64 n 16 = n / 65536 := ishr_i n hn.1 16 (by omega)
  have e8 : ishr .i64 n 8 = n / 256 := ishr_i n hn.1 8 (by omega)
  have q24 : iquo .i64 n 16777216 = n / 16777216 := quo64 (by omega) (by omega)
  have q16 : iquo .i64 n 65536 = n / 65536 := quo64 (by omega) (by omega)
  have q8 : iquo .i64 n 256 = n / 256 := quo64 (by omega) (by omega)
  have r16 : irem (n / 65536) 256 = n / 65536 % 256 := rem_pos (by omega)
  have r8 : irem (n / 256) 256 = n / 256 % 256 := rem_pos (by omega)
  have r0 : irem n 256 = n % 256 := rem_pos (by omega)
  have w1 : IntKind.wrap .u8 (n / 16777216) = n / 16777216 := wu8s (by omega)
  have w2 : IntKind.wrap .u8 (n / 65536) = n / 65536 % 256 := wu8 _
  have w3 : IntKind.wrap .u8 (n / 256) = n / 256 % 256 := wu8 _
  have w4 : IntKind.wrap .u8 n = n % 256 := wu8 _
  have w5 : IntKind.wrap .u8 (n / 65536 % 256) = n / 65536 % 256 := wu8s (by omega)
  have w6 : IntKind.wrap .u8 (n / 256 % 256) = n / 256 % 256 := wu8s (by omega)
  have w7 : IntKind.wrap .u8 (n % 256) = n % 256 := wu8s (by omega)
  have ehd : ([109, 97, 114, 107] : List Int) ++ [a, n / 16777216, n / 65536 % 256, n / 256 % 256, n % 256] = hdr a n := rfl
  have c8 : cut? d 0 8 = some (d.take 8) := cut_pre (l := d) (n := 8) (by omega)
  have l8 : (d.take 8).length = 8 := by rw [List.length_take]; omega
  have lh : (hdr a n).length = 9 := rfl
  refine ⟨?_, ?_, ?_⟩
  · unfold journal_mark
    rw [e0, e24, e16, e8, w1, w2, w3, w4, Option.bind_some, if_pos (by show 4 + 5 ≤ lim; omega), ehd, s1, Option.bind_some, c8, Option.bind_some, if_pos (by omega)]
    rw [show journal_filled 4000 (hdr a n ++ d.take 8) 64 = _ from filled_eq _ 64 (by rw [List.length_append]; omega) (by omega), em]; rfl
  · unfold cabalref13_Mark
    rw [e0, q24, q16, q8, r16, r8, r0, w1, w5, w6, w7, Option.bind_some, if_pos (by show 4 + 5 ≤ lim; omega), ehd, s2, Option.bind_some, c8, Option.bind_some, if_pos (by omega)]
    rw [show cabalref13_filled 4000 (hdr a n ++ d.take 8) 64 = _ from rfilled_eq _ 64 (by rw [List.length_append]; omega) (by omega), em]; rfl
  · rw [em]
    intro x hx
    unfold fil at hx
    rcases List.mem_append.1 hx with q | q
    · rcases List.mem_append.1 q with q | q
      · exact hdr_byt ha hn x q
      · exact s4 x (List.mem_of_mem_take q)
    · rw [List.eq_of_mem_replicate q]; omega
theorem or_add (m n i : Nat) (hn : n < 2 ^ i) (h : 2 ^ i * m + n < 9223372036854775808) : ior .i64 ((2 ^ i * m : Nat) : Int) (n : Int) = ((2 ^ i * m + n : Nat) : Int) := by
  unfold ior
  have h2 : (BitVec.ofInt IntKind.i64.bits ((2 ^ i * m : Nat) : Int) ||| BitVec.ofInt IntKind.i64.bits (n : Int)).toNat = 2 ^ i * m + n := by
    show (BitVec.ofInt 64 ((2 ^ i * m : Nat) : Int) ||| BitVec.ofInt 64 (n : Int)).toNat = _
    rw [BitVec.ofInt_natCast, BitVec.ofInt_natCast, BitVec.toNat_or, BitVec.toNat_ofNat, BitVec.toNat_ofNat, Nat.mod_eq_of_lt (by omega), Nat.mod_eq_of_lt (by omega)]
    exact (Nat.two_pow_add_eq_or_of_lt hn m).symm
  rw [h2]
  exact wi64 (by omega)
theorem shl_i (x : Int) (hx : 0 ≤ x ∧ x < 256) (k : Nat) (hk : k ≤ 24) : ishl .i64 x (k : Int) = x * 2 ^ k := by
  unfold ishl
  rw [Int.toNat_natCast, Nat.min_eq_left (by show k ≤ 64; omega)]
  refine wi64 ?_
  have h1 : (2 : Int) ^ k ≤ 2 ^ 24 := by
    have : (2 : Nat) ^ k ≤ 2 ^ 24 := Nat.pow_le_pow_right (by omega) hk
    exact_mod_cast this
  have h2 : (0 : Int) < 2 ^ k := Int.pow_pos (by omega)
  have h3 : x * 2 ^ k ≤ 255 * 2 ^ 24 := Int.mul_le_mul (by omega) h1 (by omega) (by omega)
  have h4 : 0 ≤ x * 2 ^ k := Int.mul_nonneg hx.1 (by omega)
  omega
theorem num_eq (a b c d : Int) (ha : 0 ≤ a ∧ a < 256) (hb : 0 ≤ b ∧ b < 256) (hc : 0 ≤ c ∧ c < 256) (hd : 0 ≤ d ∧ d < 256) :
    ior .i64 (ior .i64 (ior .i64 (ishl .i64 a 24) (ishl .i64 b 16)) (ishl .i64 c 8)) d = a * 16777216 + b * 65536 + c * 256 + d := by
  obtain ⟨a, rfl⟩ : ∃ m : Nat, a = m := ⟨a.toNat, by omega⟩
  obtain ⟨b, rfl⟩ : ∃ m : Nat, b = m := ⟨b.toNat, by omega⟩
  obtain ⟨c, rfl⟩ : ∃ m : Nat, c = m := ⟨c.toNat, by omega⟩
  obtain ⟨d, rfl⟩ : ∃ m : Nat, d = m := ⟨d.toNat, by omega⟩
  have s1 : ishl .i64 (a : Int) 24 = ((2 ^ 24 * a : Nat) : Int) := (shl_i a ha 24 (by omega)).trans (by omega)
  have s2 : ishl .i64 (b : Int) 16 = ((2 ^ 16 * b : Nat) : Int) := (shl_i b hb 16 (by omega)).trans (by omega)
  have s3 : ishl .i64 (c : Int) 8 = ((2 ^ 8 * c : Nat) : Int) := (shl_i c hc 8 (by omega)).trans (by omega)
  rw [s1, s2, s3, or_add a (2 ^ 16 * b) 24 (by omega) (by omega)]
  rw [show 2 ^ 24 * a + 2 ^ 16 * b = 2 ^ 16 * (2 ^ 8 * a + b) by omega, or_add (2 ^ 8 * a + b) (2 ^ 8 * c) 16 (by omega) (by omega)]
  rw [show 2 ^ 16 * (2 ^ 8 * a + b) + 2 ^ 8 * c = 2 ^ 8 * (2 ^ 8 * (2 ^ 8 * a + b) + c) by omega, or_add (2 ^ 8 * (2 ^ 8 * a + b) + c) d 8 (by omega) (by omega)]
  omega
theorem and1 {x : Int} (hx : 0 ≤ x ∧ x < 256) : iand .u8 x 1 = x % 2 := byte_cases (p := fun x => iand .u8 x 1 = x % 2) (by decide +kernel) hx
end Go.Proofs.Pure
end
