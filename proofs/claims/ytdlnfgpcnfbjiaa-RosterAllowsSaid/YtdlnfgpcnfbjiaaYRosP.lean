/- The program's rosters: what they come to. No program in sight. -/
import Derived.Test.YtdlnfgpcnfbjiaaYRos
namespace Go.Proofs.Pure
open Go Go.RowKit Go.Proofs.Kit
set_option linter.unusedVariables false

/-- places below n -/
def InS (n : Nat) (set : List Int) : Prop := ∀ v ∈ set, ∃ j : Nat, v = (j : Int) ∧ j < n
theorem in1_eq (l : List Int) (hl : l.length ≤ 2000) (v : Int) : roster_read_1 4000 l v = some (l.contains v) := by
  unfold roster_read_1; rw [contains_eq l hl v]; rfl
theorem bkind (a b : Int) : (a == b) = decide (a = b) := by by_cases q : a = b <;> simp [q]
theorem cF_at {cs : List Bool} (j : Nat) (h : j < cs.length) : cF cs (j : Int) = cs[j] := by
  unfold cF; rw [Int.toNat_natCast, List.getD_eq_getElem?_getD, List.getElem?_eq_getElem h]; rfl
theorem opB_at {p : List api_Node} (j : Nat) (h : j < p.length) (f : api_Op → Bool) : opB p (j : Int) f = f p[j].Op := by
  unfold opB; rw [Int.toNat_natCast, List.getElem?_eq_getElem h]
theorem ahdB_at {p : List api_Node} (i : Int) (j : Nat) (h : j < p.length) : ahdB p i (j : Int) = p[j].Past.contains i := by
  unfold ahdB; rw [Int.toNat_natCast, List.getElem?_eq_getElem h]
theorem removes_eq (p : List api_Node) (hf : Few p) (cs : List Bool) (j : Nat) (hj : j < cs.length) (hp : j < p.length) (who : Int) : roster_book_removes 4000 ⟨p, cs, ()⟩ (j : Int) who = some (rmvB p (cF cs) (j : Int) who) := by
  have hw := (hf.each _ (List.getElem_mem hp)).op.who
  unfold roster_book_removes rmvB
  dsimp only
  rw [at_get hp, at_get hj, opB_at j hp, cF_at j hj]
  simp only [Option.bind_some, in1_eq _ (show p[j].Op.Who.length ≤ 2000 by omega), bkind]
  cases cs[j] <;> cases decide (p[j].Op.Kind = 3) <;> simp
theorem bahead_eq (p : List api_Node) (hf : Few p) (cs : List Bool) (i : Int) (j : Nat) (hp : j < p.length) : roster_book_ahead 4000 ⟨p, cs, ()⟩ i (j : Int) = some (ahdB p i (j : Int)) := by
  have hw := (hf.each _ (List.getElem_mem hp)).past
  unfold roster_book_ahead
  dsimp only
  rw [at_get hp, ahdB_at i j hp]
  simp only [Option.bind_some, in1_eq _ (show p[j].Past.length ≤ 2000 by omega)]
theorem blets_l1 (p : List api_Node) (hf : Few p) (cs : List Bool) (hc : cs.length ≤ p.length) (set : List Int) (hs : InS cs.length set) (hl : set.length ≤ 2000) (i : Nat) (hi : i < cs.length) (hip : i < p.length) (who : Int) : ∀ (m y n : Nat), y + m = set.length → m < n →
    roster_book_lets.l1 4000 set p[i] ⟨p, cs, ()⟩ (i : Int) who n (y : Int) = some ((set.drop y).all (fun r => !barB p (cF cs) p[i].Op (i : Int) who r)) := by
  intro m
  induction m with
  | zero =>
    intro y n hy hn
    obtain ⟨n, rfl⟩ : ∃ q, n = q + 1 := ⟨n - 1, by omega⟩
    rw [roster_book_lets.l1, if_neg (by simp; omega), List.drop_eq_nil_of_le (by omega)]; rfl
  | succ m ih =>
    intro y n hy hn
    obtain ⟨n, rfl⟩ : ∃ q, n = q + 1 := ⟨n - 1, by omega⟩
    have hyl : y < set.length := by omega
    have hnext : iadd .i64 (y : Int) 1 = ((y + 1 : Nat) : Int) := by rw [add64 (by omega)]; omega
    obtain ⟨r, er, hr⟩ := hs _ (List.getElem_mem hyl)
    have hrp : r < p.length := by omega
    rw [roster_book_lets.l1, if_pos (by simp; omega), at_get hyl, List.drop_eq_getElem_cons hyl, List.all_cons, er]
    simp only [Option.bind_some, hnext, removes_eq p hf cs r hr hrp, bahead_eq p hf cs _ i hip, bahead_eq p hf cs _ r hrp, ih (y + 1) n (by omega) (by omega), bkind, bne]
    unfold barB
    generalize (set.drop (y + 1)).all (fun r => !barB p (cF cs) p[i].Op (i : Int) who r) = Z
    generalize decide (p[i].Op.Kind = 2) = A
    generalize rmvB p (cF cs) (r : Int) p[i].Op.Author = B
    generalize rmvB p (cF cs) (r : Int) who = C
    generalize decide ((r : Int) = (i : Int)) = E
    generalize ahdB p (r : Int) (i : Int) = F
    generalize ahdB p (i : Int) (r : Int) = G
    cases A <;> cases B <;> cases C <;> cases E <;> cases F <;> cases G <;> simp
theorem blets_eq (p : List api_Node) (hf : Few p) (cs : List Bool) (hc : cs.length ≤ p.length) (set : List Int) (hs : InS cs.length set) (hl : set.length ≤ 2000) (i : Nat) (hi : i < cs.length) (who : Int) :
    roster_book_lets 4000 ⟨p, cs, ()⟩ set (i : Int) who = some (letsB p (cF cs) set (i : Int) who) := by
  have hip : i < p.length := by omega
  have hw := (hf.each _ (List.getElem_mem hip)).op.who
  have h1 := blets_l1 p hf cs hc set hs hl i hi hip who set.length 0 4000 (by omega) (by omega)
  rw [show ((0 : Nat) : Int) = 0 from rfl, List.drop_zero] at h1
  unfold roster_book_lets letsB
  dsimp only
  rw [at_get hip, at_get hi, opB_at i hip, cF_at i hi]
  simp only [Option.bind_some, in1_eq _ (show p[i].Op.Who.length ≤ 2000 by omega), h1, bkind, bne]
  generalize set.all (fun r => !barB p (cF cs) p[i].Op (i : Int) who r) = Z
  cases cs[i] <;> cases decide (p[i].Op.Kind = 1) <;> cases decide (p[i].Op.Kind = 2) <;> cases p[i].Op.Who.contains who <;> simp
theorem bcont_eq (p : List api_Node) (hf : Few p) (cs : List Bool) (hc : cs.length ≤ p.length) (set : List Int) (hs : InS cs.length set) (hl : set.length ≤ 2000) (who : Int) :
    slices_ContainsFunc_int_int_roster_book_roster_1 4000 set ⟨p, cs, ()⟩ set who = some (inB p (cF cs) set who) := by
  have key : ∀ (m y n : Nat), y + m = set.length → m < n → ∃ r, slices_IndexFunc_int_int_roster_book_roster_1.l1 4000 set ⟨p, cs, ()⟩ set who n (y : Int) = some r ∧ decide (r ≥ 0) = (set.drop y).any (fun i => letsB p (cF cs) set i who) := by
    intro m
    induction m with
    | zero =>
      intro y n hy hn
      obtain ⟨n, rfl⟩ : ∃ q, n = q + 1 := ⟨n - 1, by omega⟩
      rw [slices_IndexFunc_int_int_roster_book_roster_1.l1, if_neg (by simp; omega), List.drop_eq_nil_of_le (by omega)]; exact ⟨-1, rfl, rfl⟩
    | succ m ih =>
      intro y n hy hn
      obtain ⟨n, rfl⟩ : ∃ q, n = q + 1 := ⟨n - 1, by omega⟩
      have hyl : y < set.length := by omega
      have hnext : iadd .i64 (y : Int) 1 = ((y + 1 : Nat) : Int) := by rw [add64 (by omega)]; omega
      obtain ⟨r, er, hr⟩ := hs _ (List.getElem_mem hyl)
      rw [slices_IndexFunc_int_int_roster_book_roster_1.l1, if_pos (by simp; omega), at_get hyl, List.drop_eq_getElem_cons hyl, List.any_cons, er]
      simp only [Option.bind_some, roster_book_roster_1, blets_eq p hf cs hc set hs hl r hr, hnext]
      cases h : letsB p (cF cs) set (r : Int) who with
      | true => exact ⟨(y : Int), by simp, by simp⟩
      | false => simp only [Bool.false_eq_true, if_false, Bool.false_or]; exact ih (y + 1) n (by omega) (by omega)
  unfold slices_ContainsFunc_int_int_roster_book_roster_1 slices_IndexFunc_int_int_roster_book_roster_1
  obtain ⟨r, h1, h2⟩ := key set.length 0 4000 (by omega) (by omega)
  rw [show ((0 : Nat) : Int) = 0 from rfl] at h1
  rw [List.drop_zero] at h2
  rw [h1]
  simp only [Option.bind_some, h2, inB]
theorem broster_eq (p : List api_Node) (hf : Few p) (cs : List Bool) (hc : cs.length ≤ p.length) (set : List Int) (hs : InS cs.length set) (hl : set.length ≤ 2000) :
    roster_book_roster 4000 ⟨p, cs, ()⟩ set = some (rosL p (cF cs) set) := by
  have hL : (1000000 : Nat) ≤ lim := by unfold lim; omega
  have key : ∀ (m y n : Nat) (acc : List Int), y + m = 8 → m < n → acc.length ≤ y → roster_book_roster.l1 4000 set ⟨p, cs, ()⟩ n (y : Int) acc = some (acc ++ coll (fun w => inB p (cF cs) set (w : Int)) y m) := by
    intro m
    induction m with
    | zero =>
      intro y n acc hy hn ha
      obtain ⟨n, rfl⟩ : ∃ q, n = q + 1 := ⟨n - 1, by omega⟩
      rw [roster_book_roster.l1, if_neg (by simp; omega)]; simp [roster_book_roster.j1, coll]
    | succ m ih =>
      intro y n acc hy hn ha
      obtain ⟨n, rfl⟩ : ∃ q, n = q + 1 := ⟨n - 1, by omega⟩
      have hnext : iadd .i64 (y : Int) 1 = ((y + 1 : Nat) : Int) := by rw [add64 (by omega)]; omega
      rw [roster_book_roster.l1, if_pos (by simp; omega), bcont_eq p hf cs hc set hs hl]
      simp only [Option.bind_some, roster_book_roster.j2, hnext]
      unfold coll
      by_cases h : inB p (cF cs) set (y : Int) = true
      · rw [if_pos h, if_pos (by simp; omega), if_pos h, ih (y + 1) n _ (by omega) (by omega) (by simp; omega)]
        simp
      · rw [if_neg h, if_neg h]
        exact ih (y + 1) n _ (by omega) (by omega) (by omega)
  have := key 8 0 4000 [] (by omega) (by omega) (by simp)
  rw [show ((0 : Nat) : Int) = 0 from rfl] at this
  exact this
theorem past_in {p : List api_Node} (hr : rightG p = true) (i : Nat) (h : i < p.length) : InS i p[i].Past := fun v hv => past_lt hr i h v hv
theorem read_eq (p : List api_Node) (hf : Few p) (hr : rightG p = true) : roster_read 4000 p = some ⟨p, cntL p p.length, ()⟩ := by
  have hL : (1000000 : Nat) ≤ lim := by unfold lim; omega
  have hlen := hf.len
  have key : ∀ (m i n : Nat), i + m = p.length → m < n → roster_read.l1 4000 p n (i : Int) (cntL p i) = some ⟨p, cntL p p.length, ()⟩ := by
    intro m
    induction m with
    | zero =>
      intro i n hi hn
      obtain ⟨n, rfl⟩ : ∃ q, n = q + 1 := ⟨n - 1, by omega⟩
      rw [roster_read.l1, if_neg (by simp; omega), roster_read.j1, show i = p.length by omega]
    | succ m ih =>
      intro i n hi hn
      obtain ⟨n, rfl⟩ : ∃ q, n = q + 1 := ⟨n - 1, by omega⟩
      have hil : i < p.length := by omega
      have hx := (hf.each _ (List.getElem_mem hil)).past
      have hnext : iadd .i64 (i : Int) 1 = ((i + 1 : Nat) : Int) := by rw [add64 (by omega)]; omega
      have hcl := cnt_len p i
      have hrl : (rosL p (cF (cntL p i)) p[i].Past).length ≤ 2000 := by unfold rosL; have := coll_len (fun who => inB p (cF (cntL p i)) p[i].Past (who : Int)) 8 0; omega
      have hb := broster_eq p hf (cntL p i) (by omega) p[i].Past (by rw [hcl]; exact past_in hr i hil) (by omega)
      rw [roster_read.l1, if_pos (by simp; omega), at_get hil]
      simp only [Option.bind_some, hb, hnext, bkind]
      have e : cntL p (i + 1) = cntL p i ++ [cntB p (cF (cntL p i)) p[i]] := by rw [cntL, List.getElem?_eq_getElem hil]
      have g := ih (i + 1) n (by omega) (by omega)
      rw [e] at g
      unfold cntB at g
      by_cases c : p[i].Op.Kind = 1
      · rw [decide_eq_true c] at g ⊢
        simp only [Bool.true_or] at g
        simp only [Bool.true_eq, Bool.false_eq_true, if_false, Option.bind_some, beq_iff_eq, if_true]
        rw [if_pos (by simp; omega)]
        exact g
      · rw [decide_eq_false c] at g ⊢
        simp only [Bool.false_or] at g
        simp only [beq_self_eq_true, if_true, Option.bind_some, in1_eq _ hrl, Bool.false_eq_true, if_false]
        rw [if_pos (by simp; omega)]
        exact g
  have := key p.length 0 4000 (by omega) (by omega)
  rw [show ((0 : Nat) : Int) = 0 from rfl] at this
  exact this

end Go.Proofs.Pure
