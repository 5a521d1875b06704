/- The program's rosters: what they come to. No program in sight. -/
import Derived.Test.YtdlnfgpcnfbjiaaKRos
namespace Go.Proofs.Pure
open Go Go.RowKit Go.Proofs.Kit
set_option linter.unusedVariables false

/-- places below n -/
def InS (n : Nat) (set : List Int) : Prop := ∀ v ∈ set, ∃ j : Nat, v = (j : Int) ∧ j < n
theorem in1_eq (l : List Int) (hl : l.length ≤ 2000) (v : Int) : roster_read_1 4000 l v = some (l.contains v) := by
  unfold roster_read_1; rw [contains_eq l hl v]; rfl
theorem bkind (a b : Int) : (a == b) = decide (a = b) := by by_cases q : a = b <;> simp [q]
theorem cF_at {cs : List Bool} (j : Nat) (h : j < cs.length) : cF cs (j : Int) = cs[j] := by
  unfold cF; rw [Int.toNat_natCast, List.getD_eq_getElem?_getD, List.getElem?_eq_getElem h]; rfl
theorem opB_at {p : List api_Node} (j : Nat) (h : j < p.length) (f : api_Op → Bool) : opB p (j : Int) f = f p[j].Op := by
  unfold opB; rw [Int.toNat_natCast, List.getElem?_eq_getElem h]
theorem ahdB_at {p : List api_Node} (i : Int) (j : Nat) (h : j < p.length) : ahdB p i (j : Int) = p[j].Past.contains i := by
  unfold ahdB; rw [Int.toNat_natCast, List.getElem?_eq_getElem h]
theorem removes_eq (p : List api_Node) (hf : Few p) (cs : List Bool) (j : Nat) (hj : j < cs.length) (hp : j < p.length) (who : Int) : roster_book_removes 4000 ⟨p, cs, ()⟩ (j : Int) who = some (rmvB p (cF cs) (j : Int) who) := by
  have hw := (hf.each _ (List.getElem_mem hp)).op.who
  unfold roster_book_removes rmvB
  dsimp only
  rw [at_get hp, at_get hj, opB_at j hp, cF_at j hj]
  simp only [Option.bind_some, in1_eq _ (show p[j].Op.Who.length ≤ 2000 by omega), bkind]
  cases cs[j] <;> cases decide (p[j].Op.Kind = 3) <;> simp
theorem bahead_eq (p : List api_Node) (hf : Few p) (cs : List Bool) (i : Int) (j : Nat) (hp : j < p.length) : roster_book_ahead 4000 ⟨p, cs, ()⟩ i (j : Int) = some (ahdB p i (j : Int)) := by
  have hw := (hf.each _ (List.getElem_mem hp)).past
  unfold roster_book_ahead
  dsimp only
  rw [at_get hp, ahdB_at i j hp]
  simp only [Option.bind_some, in1_eq _ (show p[j].Past.length ≤ 2000 by omega)]
theorem blets_l1 (p : List api_Node) (hf : Few p) (cs : List Bool) (hc : cs.length ≤ p.length) (set : List Int) (hs : InS cs.length set) (hl : set.length ≤ 2000) (i : Nat) (hi : i < cs.length) (hip : i < p.length) (who : Int) : ∀ (m y n : Nat), y + m = set.length → m < n →
    roster_book_lets.l1 4000 set p[i] ⟨p, cs, ()⟩ (i : Int) who n (y : Int) = some ((set.drop y).all (fun r => !barB p (cF cs) p[i].Op (i : Int) who r)) := by
  intro m
  induction m with
  | zero =>
    intro y n hy hn
    obtain ⟨n, rfl⟩ : ∃ q, n = q + 1 := ⟨n - 1, by omega⟩
    rw [roster_book_lets.l1, if_neg (by simp; omega), List.drop_eq_nil_of_le (by omega)]; rfl
  | succ m ih =>
    intro y n hy hn
    obtain ⟨n, rfl⟩ : ∃ q, n = q + 1 := ⟨n - 1, by omega⟩
    have hyl : y < set.length := by omega
    have hnext : iadd .i64 (y : Int) 1 = ((y + 1 : Nat) : Int) := by rw [add64 (by omega)]; omega
    obtain ⟨r, er, hr⟩ := hs _ (List.getElem_mem hyl)
    have hrp : r < p.length := by omega
    rw [roster_book_lets.l1, if_pos (by simp; omega), at_get hyl, List.drop_eq_getElem_cons hyl, List.all_cons, er]
    simp only [Option.bind_some, hnext, removes_eq p hf cs r hr hrp, bahead_eq p hf cs _ i hip, bahead_eq p hf cs _ r hrp, ih (y + 1) n (by omega) (by omega), bkind, bne]
    unfold barB
    generalize (set.drop (y + 1)).all (fun r => !barB p (cF cs) p[i].Op (i : Int) who r) = Z
    generalize decide (p[i].Op.Kind = 2) = A
    generalize rmvB p (cF cs) (r : Int) p[i].Op.Author = B
    generalize rmvB p (cF cs) (r : Int) who = C
    generalize decide ((r : Int) = (i : Int)) = E
    generalize ahdB p (r : Int) (i : Int) = F
    generalize ahdB p (i : Int) (r : Int) = G
    cases A <;> cases B <;> cases C <;> cases E <;> cases F <;> cases G <;> simp
theorem blets_eq (p : List api_Node) (hf : Few p) (cs : List Bool) (hc : cs.length ≤ p.length) (set : List Int) (hs : InS cs.length set) (hl : set.length ≤ 2000) (i : Nat) (hi : i < cs.length) (who : Int) :
    roster_book_lets 4000 ⟨p, cs, ()⟩ set (i : Int) who = some (letsB p (cF cs) set (i : Int) who) := by
  have hip : i < p.length := by omega
  have hw := (hf.each _ (List.getElem_mem hip)).op.who
  have h1 := blets_l1 p hf cs hc set hs hl i hi hip who set.length 0 4000 (by omega) (by omega)
  rw [show ((0 : Nat) : Int) = 0 from rfl, List.drop_zero] at h1
  unfold roster_book_lets letsB
  dsimp only
  rw [at_get hip, at_get hi, opB_at i hip, cF_at i hi]
  simp only [Option.bind_some, in1_eq _ (show p[i].Op.Who.length ≤ 2000 by omega), h1, bkind, bne]
  generalize set.all (fun r => !barB p (cF cs) p[i].Op (i : Int) who r) = Z
  cases cs[i] <;> cases decide (p[i].Op.Kind = 1) <;> cases decide (p[i].Op.Kind = 2) <;> cases p[i].Op.Who.contains who <;> simp
theorem bcont_eq (p : List api_Node) (hf : Few p) (cs : List Bool) (hc : cs.length ≤ p.length) (set : List Int) (hs : InS cs.length set) (hl : set.length ≤ 2000) (who : Int) :
    slices_ContainsFunc_int_int_roster_book_roster_1 4000 set ⟨p, cs, ()⟩ set who = some (inB p (cF cs) set who) := by
  have key : ∀ (m y n : Nat), y + m = set.length → m < n → ∃ r, slices_IndexFunc_int_int_roster_book_roster_1.l1 4000 set ⟨p, cs, ()⟩ set who n (y : Int) = some r ∧ decide (r ≥ 0) = (set.drop y).any (fun i => letsB p (cF cs) set i who) := by
    intro m
    induction m with
    | zero =>
      intro y n hy hn
      obtain ⟨n, rfl⟩ : ∃ q, n = q + 1 := ⟨n - 1, by omega⟩
      rw [slices_IndexFunc_int_int_roster_book_roster_1.l1, if_neg (by simp; omega), List.drop_eq_nil_of_le (by omega)]; exact ⟨-1, rfl, rfl⟩
    | succ m ih =>
      intro y n hy hn
      obtain ⟨n, rfl⟩ : ∃ q, n = q + 1 := ⟨n - 1, by omega⟩
      have hyl : y < set.length := by omega
      have hnext : iadd .i64 (y : Int) 1 = ((y + 1 : Nat) : Int) := by rw [add64 (by omega)]; omega
      obtain ⟨r, er, hr⟩ := hs _ (List.getElem_mem hyl)
      rw [slices_IndexFunc_int_int_roster_book_roster_1.l1, if_pos (by simp; omega), at_get hyl, List.drop_eq_getElem_cons hyl, List.any_cons, er]
      simp only [Option.bind_some, roster_book_roster_1, blets_eq p hf cs hc set hs hl r hr, hnext]
      cases h : letsB p (cF cs) set (r : Int) who with
      | true => exact ⟨(y : Int), by simp, by simp⟩
      | false => simp only [Bool.false_eq_true, if_false, Bool.false_or]; exact ih (y + 1) n (by omega) (by omega)
  unfold slices_ContainsFunc_int_int_roster_book_roster_1 slices_IndexFunc_int_int_roster_book_roster_1
  obtain ⟨r, h1, h2⟩ := key set.length 0 4000 (by omega) (by omega)
  rw [show ((0 : Nat) : Int) = 0 from rfl] at h1
  rw [List.drop_zero] at h2
  rw [h1]
  simp only [Option.bind_some, h2, inB]
theorem broster_eq (p : List api_Node) (hf : Few p) (cs : List Bool) (hc : cs.length ≤ p.length) (set : List Int) (hs : InS cs.length set) (hl : set.length ≤ 2000) :
    roster_book_roster 4000 ⟨p, cs, ()⟩ set = some (rosL p (cF cs) set) := by
  have hL : (1000000 : Nat) ≤ lim := by unfold lim; omega
  have key : ∀ (m y n : Nat) (acc : List Int), y + m = 8 → m < n → acc.length ≤ y → roster_book_roster.l1 4000 set ⟨p, cs, ()⟩ n (y : Int) acc = some (acc ++ coll (fun w => inB p (cF cs) set (w : Int)) y m) := by
    intro m
    induction m with
    | zero =>
      intro y n acc hy hn ha
      obtain ⟨n, rfl⟩ : ∃ q, n = q + 1 := ⟨n - 1, by omega⟩
      rw [roster_book_roster.l1, if_neg (by simp; omega)]; simp [roster_book_roster.j1, coll]
    | succ m ih =>
      intro y n acc hy hn ha
      obtain ⟨n, rfl⟩ : ∃ q, n = q + 1 := ⟨n - 1, by omega⟩
      have hnext : iadd .i64 (y : Int) 1 = ((y + 1 : Nat) : Int) := by rw [add64 (by omega)]; omega
      rw [roster_book_roster.l1, if_pos (by simp; omega), bcont_eq p hf cs hc set hs hl]
      simp only [Option.bind_some, roster_book_roster.j2, hnext]
      unfold coll
      by_cases h : inB p (cF cs) set (y : Int) = true
      · rw [if_pos h, if_pos (by simp; omega), if_pos h, ih (y + 1) n _ (by omega) (by omega) (by simp; omega)]
        simp
      · rw [if_neg h, if_neg h]
        exact ih (y + 1) n _ (by omega) (by omega) (by omega)
  have := key 8 0 4000 [] (by omega) (by omega) (by simp)
  rw [show ((0 : Nat) : Int) = 0 from rfl] at this
  exact this
theorem past_in {p : List api_Node} (hr : rightG p = true) (i : Nat) (h : i < p.length) : InS i p[i].Past := fun v hv => past_lt hr i h v hv
theorem read_eq (p : List api_Node) (hf : Few p) (hr : rightG p = true) : roster_read 4000 p = some ⟨p, cntL p p.length, ()⟩ := by
  have hL : (1000000 : Nat) ≤ lim := by unfold lim; omega
  have hlen := hf.len
  have key : ∀ (m i n : Nat), i + m = p.length → m < n → roster_read.l1 4000 p n (i : Int) (cntL p i) = some ⟨p, cntL p p.length, ()⟩ := by
    intro m
    induction m with
    | zero =>
      intro i n hi hn
      obtain ⟨n, rfl⟩ : ∃ q, n = q + 1 := ⟨n - 1, by omega⟩
      rw [roster_read.l1, if_neg (by simp; omega), roster_read.j1, show i = p.length by omega]
    | succ m ih =>
      intro i n hi hn
      obtain ⟨n, rfl⟩ : ∃ q, n = q + 1 := ⟨n - 1, by omega⟩
      have hil : i < p.length := by omega
      have hx := (hf.each _ (List.getElem_mem hil)).past
      have hnext : iadd .i64 (i : Int) 1 = ((i + 1 : Nat) : Int) := by rw [add64 (by omega)]; omega
      have hcl := cnt_len p i
      have hrl : (rosL p (cF (cntL p i)) p[i].Past).length ≤ 2000 := by unfold rosL; have := coll_len (fun who => inB p (cF (cntL p i)) p[i].Past (who : Int)) 8 0; omega
      have hb := broster_eq p hf (cntL p i) (by omega) p[i].Past (by rw [hcl]; exact past_in hr i hil) (by omega)
      rw [roster_read.l1, if_pos (by simp; omega), at_get hil]
      simp only [Option.bind_some, hb, hnext, bkind]
      have e : cntL p (i + 1) = cntL p i ++ [cntB p (cF (cntL p i)) p[i]] := by rw [cntL, List.getElem?_eq_getElem hil]
      have g := ih (i + 1) n (by omega) (by omega)
      rw [e] at g
      unfold cntB at g
      by_cases c : p[i].Op.Kind = 1
      · rw [decide_eq_true c] at g ⊢
        simp only [Bool.true_or] at g
        simp only [Bool.true_eq, Bool.false_eq_true, if_false, Option.bind_some, beq_iff_eq, if_true]
        rw [if_pos (by simp; omega)]
        exact g
      · rw [decide_eq_false c] at g ⊢
        simp only [Bool.false_or] at g
        simp only [beq_self_eq_true, if_true, Option.bind_some, in1_eq _ hrl, Bool.false_eq_true, if_false]
        rw [if_pos (by simp; omega)]
        exact g
  have := key p.length 0 4000 (by omega) (by omega)
  rw [show ((0 : Nat) : Int) = 0 from rfl] at this
  exact this
theorem rall_eq (p : List api_Node) (hf : Few p) : roster_All 4000 p = some (if rightG p = true then rosA p else []) := by
  have hL : (1000000 : Nat) ≤ lim := by unfold lim; omega
  have hlen := hf.len
  unfold roster_All
  rw [right_eq p hf]
  cases hr : rightG p with
  | false => rfl
  | true =>
    simp only [Option.bind_some, Bool.not_true, Bool.false_eq_true, if_false, if_true]
    have key : ∀ (m i n : Nat), i + m = p.length → m < n → roster_All.l1 4000 p n (i : Int) ((List.range i).map (fun (i : Nat) => (i : Int))) = roster_All.j1 4000 p (allS p) := by
      intro m
      induction m with
      | zero =>
        intro i n hi hn
        obtain ⟨n, rfl⟩ : ∃ q, n = q + 1 := ⟨n - 1, by omega⟩
        rw [roster_All.l1, if_neg (by simp; omega), show i = p.length by omega]; rfl
      | succ m ih =>
        intro i n hi hn
        obtain ⟨n, rfl⟩ : ∃ q, n = q + 1 := ⟨n - 1, by omega⟩
        have hnext : iadd .i64 (i : Int) 1 = ((i + 1 : Nat) : Int) := by rw [add64 (by omega)]; omega
        rw [roster_All.l1, if_pos (by simp; omega), if_pos (by simp; omega), hnext]
        have := ih (i + 1) n (by omega) (by omega)
        rw [List.range_succ, List.map_append] at this
        exact this
    have := key p.length 0 4000 (by omega) (by omega)
    rw [show ((0 : Nat) : Int) = 0 from rfl] at this
    have h0 : roster_All.l1 4000 p 4000 0 ([] : List Int) = roster_All.j1 4000 p (allS p) := this
    rw [h0]
    unfold roster_All.j1
    rw [read_eq p hf hr]
    simp only [Option.bind_some]
    rw [broster_eq p hf (cntL p p.length) (by rw [cnt_len]; omega) (allS p) (fun v hv => by
      obtain ⟨j, e, hj⟩ := allS_mem.1 hv
      exact ⟨j, e, by rw [cnt_len]; exact hj⟩) (by unfold allS; simp; omega)]
    rfl

def bndB (p : List api_Node) (l : List Int) : Bool := l.all (fun v => decide (0 ≤ v) && decide (v < p.length))
def pstB (p : List api_Node) (set l : List Int) : Bool := l.all (fun v => match p[v.toNat]? with | some x => x.Past.all (fun u => set.contains u) | none => true)
def setB (p : List api_Node) (set : List Int) : Bool := bndB p set && inc ltI set && pstB p set set
theorem closed_l2 (x : api_Node) (hx : x.Past.length ≤ 200) (set : List Int) (hl : set.length ≤ 2000) (y : Int) (L : Int → Option Bool) : ∀ (m j n : Nat), j + m = x.Past.length → m < n →
    roster_closed.l2 4000 x set y L n (j : Int) = if (x.Past.drop j).all (fun u => set.contains u) = true then L (iadd .i64 y 1) else some false := by
  intro m
  induction m with
  | zero =>
    intro j n hj hn
    obtain ⟨n, rfl⟩ : ∃ q, n = q + 1 := ⟨n - 1, by omega⟩
    rw [roster_closed.l2, if_neg (by simp; omega), List.drop_eq_nil_of_le (by omega)]; rfl
  | succ m ih =>
    intro j n hj hn
    obtain ⟨n, rfl⟩ : ∃ q, n = q + 1 := ⟨n - 1, by omega⟩
    have hjl : j < x.Past.length := by omega
    have hnext : iadd .i64 (j : Int) 1 = ((j + 1 : Nat) : Int) := by rw [add64 (by omega)]; omega
    rw [roster_closed.l2, if_pos (by simp; omega), at_get hjl, List.drop_eq_getElem_cons hjl, List.all_cons]
    simp only [Option.bind_some, contains_eq set hl, hnext]
    cases h : set.contains x.Past[j] with
    | false => simp
    | true => simp only [Bool.not_true, Bool.false_eq_true, if_false, Bool.true_and]; exact ih (j + 1) n (by omega) (by omega)
theorem closed_l1 (p : List api_Node) (hf : Few p) (set : List Int) (hl : set.length ≤ 2000) : ∀ (m y n : Nat), y + m = set.length → m < n →
    roster_closed.l1 4000 set p n (y : Int) = some (bndB p (set.drop y) && inc ltI (set.drop (y - 1)) && pstB p set (set.drop y)) := by
  have hlen := hf.len
  intro m
  induction m with
  | zero =>
    intro y n hy hn
    obtain ⟨n, rfl⟩ : ∃ q, n = q + 1 := ⟨n - 1, by omega⟩
    rw [roster_closed.l1, if_neg (by simp; omega), List.drop_eq_nil_of_le (by omega), inc_end _ _ _ (by omega)]; rfl
  | succ m ih =>
    intro y n hy hn
    obtain ⟨n, rfl⟩ : ∃ q, n = q + 1 := ⟨n - 1, by omega⟩
    have hyl : y < set.length := by omega
    have hnext : iadd .i64 (y : Int) 1 = ((y + 1 : Nat) : Int) := by rw [add64 (by omega)]; omega
    have eb : bndB p (set.drop y) = (decide (0 ≤ set[y]) && decide (set[y] < p.length) && bndB p (set.drop (y + 1))) := by unfold bndB; rw [List.drop_eq_getElem_cons hyl, List.all_cons]
    have ep : pstB p set (set.drop y) = ((match p[set[y].toNat]? with | some x => x.Past.all (fun u => set.contains u) | none => true) && pstB p set (set.drop (y + 1))) := by unfold pstB; rw [List.drop_eq_getElem_cons hyl, List.all_cons]
    rw [eb, ep, roster_closed.l1, if_pos (by simp; omega), at_get hyl]
    simp only [Option.bind_some]
    by_cases c : 0 ≤ set[y] ∧ set[y] < p.length
    · obtain ⟨v, ev⟩ : ∃ v : Nat, set[y] = v := ⟨set[y].toNat, by omega⟩
      have hv : v < p.length := by omega
      have hx := (hf.each _ (List.getElem_mem hv)).past
      have hl2 := closed_l2 p[v] hx set hl (y : Int) (roster_closed.l1 4000 set p n) p[v].Past.length 0 4000 (by omega) (by omega)
      rw [show ((0 : Nat) : Int) = 0 from rfl, List.drop_zero, hnext, ih (y + 1) n (by omega) (by omega)] at hl2
      have b0 : decide ((v : Int) < 0) = false := decide_eq_false (by omega)
      have b1 : decide ((v : Int) ≥ (p.length : Int)) = false := decide_eq_false (by omega)
      have b2 : decide (0 ≤ (v : Int)) = true := decide_eq_true (by omega)
      have b3 : decide ((v : Int) < (p.length : Int)) = true := decide_eq_true (by omega)
      rw [ev, b0, b1, b2, b3, Int.toNat_natCast, List.getElem?_eq_getElem hv, at_get hv]
      simp only [Bool.false_eq_true, if_false, beq_self_eq_true, Bool.true_and, Option.bind_some, hl2]
      cases y with
      | zero =>
        simp only [Int.natCast_zero, Int.lt_irrefl, gt_iff_lt, decide_false, Bool.false_eq_true, if_false, Option.bind_some, beq_iff_eq, Nat.zero_add, Nat.sub_self, Nat.zero_sub]
        cases p[v].Past.all (fun u => set.contains u) <;> simp
      | succ y =>
        have e1 : isub .i64 ((y + 1 : Nat) : Int) 1 = (y : Int) := by rw [sub64 (by omega)]; omega
        have hpos : decide (((y + 1 : Nat) : Int) > 0) = true := decide_eq_true (by omega)
        have ei : inc ltI (set.drop (y + 1 - 1)) = (ltI set[y] (v : Int) && inc ltI (set.drop (y + 1 + 1 - 1))) := by
          rw [show y + 1 - 1 = y by omega, show y + 1 + 1 - 1 = y + 1 by omega, inc_drop _ _ _ hyl, ev]
        rw [hpos, ei, e1, at_get (show y < set.length by omega)]
        simp only [beq_self_eq_true, if_true, Option.bind_some]
        unfold ltI
        by_cases q : set[y] < (v : Int)
        · rw [decide_eq_true q, decide_eq_false (show ¬ set[y] ≥ (v : Int) by omega)]
          simp only [Bool.false_eq_true, if_false, Bool.true_and]
          cases p[v].Past.all (fun u => set.contains u) <;> simp
        · rw [decide_eq_false q, decide_eq_true (show set[y] ≥ (v : Int) by omega)]
          simp
    · have : (if decide (set[y] < 0) = true then true else decide (set[y] ≥ (p.length : Int))) = true := by
        by_cases q : set[y] < 0
        · rw [if_pos (decide_eq_true q)]
        · rw [if_neg (by simpa using q)]; exact decide_eq_true (by omega)
      have e2 : (decide (0 ≤ set[y]) && decide (set[y] < (p.length : Int))) = false := by
        rw [← Bool.decide_and]; exact decide_eq_false c
      rw [this, e2]
      simp
theorem closed_eq (p : List api_Node) (hf : Few p) (set : List Int) (hl : set.length ≤ 2000) : roster_closed 4000 p set = some (setB p set) := by
  have := closed_l1 p hf set hl set.length 0 4000 (by omega) (by omega)
  rw [show ((0 : Nat) : Int) = 0 from rfl] at this
  exact this
theorem set_in {p : List api_Node} {set : List Int} (h : setB p set = true) : InS p.length set := fun v hv => by
  unfold setB bndB at h
  simp only [Bool.and_eq_true] at h
  have := List.all_eq_true.1 h.1.1 v hv
  simp only [Bool.and_eq_true, decide_eq_true_eq] at this
  exact ⟨v.toNat, by omega, by omega⟩
theorem of_eq (p : List api_Node) (hf : Few p) (set : List Int) (hl : set.length ≤ 2000) : roster_Of 4000 p set = some (if (rightG p && setB p set) = true then (rosL p (cB p) set, 0) else ([], 1)) := by
  unfold roster_Of
  rw [right_eq p hf]
  cases hr : rightG p with
  | false => rfl
  | true =>
    simp only [Option.bind_some, Bool.not_true, beq_self_eq_true, if_true, closed_eq p hf set hl, Bool.true_and]
    cases hs : setB p set with
    | false => rfl
    | true =>
      simp only [Bool.not_true, Bool.false_eq_true, if_false, if_true]
      rw [read_eq p hf hr]
      simp only [Option.bind_some]
      rw [broster_eq p hf (cntL p p.length) (by rw [cnt_len]; omega) set (by rw [cnt_len]; exact set_in hs) hl]
      rfl


end Go.Proofs.Pure
