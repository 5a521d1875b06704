/- Queues: which one is ready, and what is wanted, both ways. No program in sight. -/
import Derived.Test.YtdlnfgpcnfbjiaaVQdq
import Derived.Test.YtdlnfgpcnfbjiaaVQue
namespace Go.Proofs.Pure
open Go Go.RowKit Go.Proofs.Kit
set_option linter.unusedVariables false

theorem qrL_at {q : List api_Held} : ∀ (m j : Nat), qrL q j m = true → ∀ (i : Nat) (h : i < q.length), j ≤ i → i < j + m → rightO q[i].Op = true := by
  intro m
  induction m with
  | zero => intro j _ i h h1 h2; omega
  | succ m ih =>
    intro j hq i h h1 h2
    unfold qrL at hq
    obtain ⟨g1, g2⟩ := Bool.and_eq_true_iff.1 hq
    by_cases e : i = j
    · subst e
      rw [List.getElem?_eq_getElem h] at g1
      exact (Bool.and_eq_true_iff.1 g1).2
    · exact ih (j + 1) g2 i h (by omega) (by omega)
theorem qright_at {q : List api_Held} (h : qright q = true) : q.length ≤ 24 ∧ ∀ x ∈ q, rightO x.Op = true := by
  unfold qright at h
  obtain ⟨h1, h2⟩ := Bool.and_eq_true_iff.1 h
  refine ⟨of_decide_eq_true h1, fun x hx => ?_⟩
  obtain ⟨i, hi, rfl⟩ := List.mem_iff_getElem.1 hx
  exact qrL_at q.length 0 h2 i hi (by omega) (by omega)
theorem parents8 {o : api_Op} (h : rightO o = true) : o.Parents.length ≤ 8 := by
  unfold rightO at h
  grind

def rdy (m : List api_Node) (x : api_Held) : Bool := !x.Op.Parents.any (fun z => decide (fnd z 0 m < 0))
theorem rdy1_eq (m : List api_Node) (hm : m.length ≤ 200) (x : api_Held) (hx : x.Op.Parents.length ≤ 30) : queue_Ready_1 4000 x m = some (rdy m x) := by
  have key : ∀ (t i n : Nat), i + t = x.Op.Parents.length → t < n → ∃ r, slices_IndexFunc_api_Key_api_Key_queue_Ready_1_1.l1 4000 x.Op.Parents m n (i : Int) = some r ∧ decide (r ≥ 0) = (x.Op.Parents.drop i).any (fun z => decide (fnd z 0 m < 0)) := by
    intro t
    induction t with
    | zero =>
      intro i n hi hn
      obtain ⟨n, rfl⟩ : ∃ q, n = q + 1 := ⟨n - 1, by omega⟩
      rw [slices_IndexFunc_api_Key_api_Key_queue_Ready_1_1.l1, if_neg (by simp; omega), List.drop_eq_nil_of_le (by omega)]; exact ⟨-1, rfl, rfl⟩
    | succ t ih =>
      intro i n hi hn
      obtain ⟨n, rfl⟩ : ∃ q, n = q + 1 := ⟨n - 1, by omega⟩
      have hil : i < x.Op.Parents.length := by omega
      have hnext : iadd .i64 (i : Int) 1 = ((i + 1 : Nat) : Int) := by rw [add64 (by omega)]; omega
      rw [slices_IndexFunc_api_Key_api_Key_queue_Ready_1_1.l1, if_pos (by simp; omega), at_get hil, List.drop_eq_getElem_cons hil, List.any_cons]
      simp only [Option.bind_some, queue_Ready_1_1, find_eq m hm, hnext]
      cases h : decide (fnd x.Op.Parents[i] 0 m < 0) with
      | true => exact ⟨(i : Int), by simp, by simp⟩
      | false => simp only [Bool.false_eq_true, if_false, Bool.false_or]; exact ih (i + 1) n (by omega) (by omega)
  unfold queue_Ready_1 slices_ContainsFunc_api_Key_api_Key_queue_Ready_1_1 slices_IndexFunc_api_Key_api_Key_queue_Ready_1_1 rdy
  obtain ⟨r, h1, h2⟩ := key x.Op.Parents.length 0 4000 (by omega) (by omega)
  rw [show ((0 : Nat) : Int) = 0 from rfl] at h1
  rw [List.drop_zero] at h2
  rw [h1]
  simp only [Option.bind_some, h2]
def rdyI (m : List api_Node) : Nat → List api_Held → Int
  | _, [] => -1
  | i, x :: l => if rdy m x = true then (i : Int) else rdyI m (i + 1) l
theorem rdyI_cons (m : List api_Node) (i : Nat) (x : api_Held) (l : List api_Held) : rdyI m i (x :: l) = if rdy m x = true then (i : Int) else rdyI m (i + 1) l := rfl
theorem ready_all (m : List api_Node) (hf : Few m) (q : List api_Held) (hq : QFew q) : queue_Ready 4000 m q = some (if rightG m && qright q then rdyI m 0 q else -1) := by
  have hlen := hf.len
  have hql := hq.len
  have key : ∀ (t i n : Nat), i + t = q.length → t < n → slices_IndexFunc_api_Held_api_Held_queue_Ready_1.l1 4000 q m n (i : Int) = some (rdyI m i (q.drop i)) := by
    intro t
    induction t with
    | zero =>
      intro i n hi hn
      obtain ⟨n, rfl⟩ : ∃ q, n = q + 1 := ⟨n - 1, by omega⟩
      rw [slices_IndexFunc_api_Held_api_Held_queue_Ready_1.l1, if_neg (by simp; omega), List.drop_eq_nil_of_le (by omega)]; rfl
    | succ t ih =>
      intro i n hi hn
      obtain ⟨n, rfl⟩ : ∃ q, n = q + 1 := ⟨n - 1, by omega⟩
      have hil : i < q.length := by omega
      have hnext : iadd .i64 (i : Int) 1 = ((i + 1 : Nat) : Int) := by rw [add64 (by omega)]; omega
      rw [slices_IndexFunc_api_Held_api_Held_queue_Ready_1.l1, if_pos (by simp; omega), at_get hil, List.drop_eq_getElem_cons hil]
      simp only [Option.bind_some, rdy1_eq m (by omega) _ (hq.each _ (List.getElem_mem hil)).op.parents, hnext]
      rw [rdyI_cons]
      cases h : rdy m q[i] with
      | true => rfl
      | false => simp only [Bool.false_eq_true, if_false]; exact ih (i + 1) n (by omega) (by omega)
  have h1 := key q.length 0 4000 (by omega) (by omega)
  rw [show ((0 : Nat) : Int) = 0 from rfl, List.drop_zero] at h1
  unfold queue_Ready slices_IndexFunc_api_Held_api_Held_queue_Ready_1
  rw [right_eq m hf, qright_eq q hq, h1]
  cases rightG m with
  | false => rfl
  | true => cases qright q <;> rfl
theorem rready_all (m : List api_Node) (hf : Few m) (q : List api_Held) (hq : QFew q) : cabalref19_Ready 4000 m q = some (rdyI m 0 q) := by
  have hlen := hf.len
  have hql := hq.len
  have k2 : ∀ (j : Nat) (hj : j < q.length) (L : Int → Option Int) (t i n : Nat) (b : Bool), i + t = q[j].Op.Parents.length → t < n → cabalref19_Ready.l2 4000 q (j : Int) m L n b (i : Int) = cabalref19_Ready.j3 4000 (j : Int) L (b && !(q[j].Op.Parents.drop i).any (fun z => decide (fnd z 0 m < 0))) := by
    intro j hj L t
    have hxp := (hq.each _ (List.getElem_mem hj)).op.parents
    induction t with
    | zero =>
      intro i n b hi hn
      obtain ⟨n, rfl⟩ : ∃ q, n = q + 1 := ⟨n - 1, by omega⟩
      rw [cabalref19_Ready.l2, at_get hj, Option.bind_some, if_neg (by simp; omega), List.drop_eq_nil_of_le (by omega)]; simp
    | succ t ih =>
      intro i n b hi hn
      obtain ⟨n, rfl⟩ : ∃ q, n = q + 1 := ⟨n - 1, by omega⟩
      have hil : i < q[j].Op.Parents.length := by omega
      have hnext : iadd .i64 (i : Int) 1 = ((i + 1 : Nat) : Int) := by rw [add64 (by omega)]; omega
      rw [cabalref19_Ready.l2, at_get hj, Option.bind_some, if_pos (by simp; omega), hnext, List.drop_eq_getElem_cons hil, List.any_cons]
      cases b with
      | false =>
        simp only [Bool.false_eq_true, beq_iff_eq, if_false, Option.bind_some, Bool.false_and]
        rw [ih (i + 1) n false (by omega) (by omega), Bool.false_and]
      | true =>
        simp only [beq_self_eq_true, if_true, Option.bind_some, at_get hil, rfind_eq m (show m.length ≤ 200 by omega)]
        rw [ih (i + 1) n _ (by omega) (by omega)]
        congr 1
        have e : decide (fnd q[j].Op.Parents[i] 0 m ≥ 0) = !decide (fnd q[j].Op.Parents[i] 0 m < 0) := by
          by_cases c : fnd q[j].Op.Parents[i] 0 m < 0
          · rw [decide_eq_true c, decide_eq_false (by omega)]; rfl
          · rw [decide_eq_false c, decide_eq_true (by omega)]; rfl
        rw [e, Bool.true_and, Bool.not_or]
  have key : ∀ (t i n : Nat), i + t = q.length → t < n → cabalref19_Ready.l1 4000 q m n (i : Int) = some (rdyI m i (q.drop i)) := by
    intro t
    induction t with
    | zero =>
      intro i n hi hn
      obtain ⟨n, rfl⟩ : ∃ q, n = q + 1 := ⟨n - 1, by omega⟩
      rw [cabalref19_Ready.l1, if_neg (by simp; omega), cabalref19_Ready.j1, List.drop_eq_nil_of_le (by omega)]; rfl
    | succ t ih =>
      intro i n hi hn
      obtain ⟨n, rfl⟩ : ∃ q, n = q + 1 := ⟨n - 1, by omega⟩
      have hil : i < q.length := by omega
      have hnext : iadd .i64 (i : Int) 1 = ((i + 1 : Nat) : Int) := by rw [add64 (by omega)]; omega
      have h2 := k2 i hil (cabalref19_Ready.l1 4000 q m n) q[i].Op.Parents.length 0 4000 true (by omega) (by have := (hq.each _ (List.getElem_mem hil)).op.parents; omega)
      rw [show ((0 : Nat) : Int) = 0 from rfl, List.drop_zero, Bool.true_and] at h2
      rw [cabalref19_Ready.l1, if_pos (by simp; omega), h2, List.drop_eq_getElem_cons hil, cabalref19_Ready.j3, cabalref19_Ready.j2, hnext, ih (i + 1) n (by omega) (by omega)]
      rw [rdyI_cons, show (!q[i].Op.Parents.any (fun z => decide (fnd z 0 m < 0))) = rdy m q[i] from rfl]
      cases rdy m q[i] <;> rfl
  have h1 := key q.length 0 4000 (by omega) (by omega)
  rw [show ((0 : Nat) : Int) = 0 from rfl, List.drop_zero] at h1
  exact h1

def miss (m : List api_Node) (q : List api_Held) (z : List Int) : Bool := decide (fnd z 0 m < 0) && decide (hfnd z 0 q < 0)
def wl (m : List api_Node) (q : List api_Held) : List api_Held → KeyRow
  | [] => []
  | x :: l => x.Op.Parents.filter (miss m q) ++ wl m q l
theorem wl_cons (m : List api_Node) (q : List api_Held) (x : api_Held) (l : List api_Held) : wl m q (x :: l) = x.Op.Parents.filter (miss m q) ++ wl m q l := rfl
theorem wl_len (m : List api_Node) (q : List api_Held) : ∀ l : List api_Held, (∀ x ∈ l, x.Op.Parents.length ≤ 8) → (wl m q l).length ≤ 8 * l.length := by
  intro l
  induction l with
  | nil => intro _; simp [wl]
  | cons x l ih =>
    intro h
    have h1 := ih (fun y hy => h y (by simp [hy]))
    have h2 := h x (by simp)
    have h3 := List.length_filter_le (miss m q) x.Op.Parents
    unfold wl
    rw [List.length_append, List.length_cons]
    omega
theorem wl_keys (m : List api_Node) (q : List api_Held) : ∀ l : List api_Held, (∀ x ∈ l, ∀ z ∈ x.Op.Parents, z.length = 32) → ∀ z ∈ wl m q l, z.length = 32 := by
  intro l
  induction l with
  | nil => intro _ z hz; cases hz
  | cons x l ih =>
    intro h z hz
    unfold wl at hz
    rcases List.mem_append.1 hz with g | g
    · exact h x (by simp) z (List.mem_filter.1 g).1
    · exact ih (fun y hy => h y (by simp [hy])) z g
theorem wanted_all (m : List api_Node) (hf : Few m) (q : List api_Held) (hq : QFew q) : queue_Wanted 4000 m q = some (if rightG m && qright q then (wl m q q).foldl putk [] else []) := by
  have hL : (1000000 : Nat) ≤ lim := by unfold lim; omega
  have hlen := hf.len
  have hql := hq.len
  unfold queue_Wanted
  rw [right_eq m hf, qright_eq q hq]
  cases hg : rightG m with
  | false => rfl
  | true =>
    cases hr : qright q with
    | false => rfl
    | true =>
      obtain ⟨r1, r2⟩ := qright_at hr
      have p8 : ∀ x ∈ q, x.Op.Parents.length ≤ 8 := fun x hx => parents8 (r2 x hx)
      have pk : ∀ x ∈ q, ∀ z ∈ x.Op.Parents, z.length = 32 := fun x hx => (hq.each x hx).op.keys
      have k2 : ∀ (x : api_Held), x ∈ q → ∀ (y : Int) (L : Int → List (List Int) → Option (List (List Int))) (t i n : Nat) (acc : KeyRow), i + t = x.Op.Parents.length → t < n → acc.length ≤ 500 + i → queue_Wanted.l2 4000 x m q y L n (i : Int) acc = L (iadd .i64 y 1) (acc ++ (x.Op.Parents.drop i).filter (miss m q)) := by
        intro x hx y L t
        have hxp := p8 x hx
        induction t with
        | zero =>
          intro i n acc hi hn ha
          obtain ⟨n, rfl⟩ : ∃ q, n = q + 1 := ⟨n - 1, by omega⟩
          rw [queue_Wanted.l2, if_neg (by simp; omega), queue_Wanted.j2, List.drop_eq_nil_of_le (by omega)]; simp
        | succ t ih =>
          intro i n acc hi hn ha
          obtain ⟨n, rfl⟩ : ∃ q, n = q + 1 := ⟨n - 1, by omega⟩
          have hil : i < x.Op.Parents.length := by omega
          have hnext : iadd .i64 (i : Int) 1 = ((i + 1 : Nat) : Int) := by rw [add64 (by omega)]; omega
          rw [queue_Wanted.l2, if_pos (by simp; omega), at_get hil, List.drop_eq_getElem_cons hil, List.filter_cons]
          simp only [Option.bind_some, find_eq m (show m.length ≤ 200 by omega), qfind_eq q (show q.length ≤ 200 by omega), queue_Wanted.j3, hnext]
          have em : miss m q x.Op.Parents[i] = (decide (fnd x.Op.Parents[i] 0 m < 0) && decide (hfnd x.Op.Parents[i] 0 q < 0)) := rfl
          rw [em]
          have step1 := ih (i + 1) n acc (by omega) (by omega) (by omega)
          have step2 := ih (i + 1) n (acc ++ [x.Op.Parents[i]]) (by omega) (by omega) (by simp; omega)
          cases decide (fnd x.Op.Parents[i] 0 m < 0) with
          | false => simpa using step1
          | true =>
            cases hd : decide (hfnd x.Op.Parents[i] 0 q < 0) with
            | false =>
              simp only [beq_self_eq_true, if_true, Option.bind_some, hd, Bool.and_false, Bool.false_eq_true, if_false]
              exact step1
            | true =>
              have hs : acc.length + ([x.Op.Parents[i]] : List (List Int)).length ≤ lim := by simp; omega
              simp only [beq_self_eq_true, if_true, Option.bind_some, hd, Bool.and_self]
              rw [if_pos hs, step2]
              simp
      have k1 : ∀ (t i n : Nat) (acc : KeyRow), i + t = q.length → t < n → acc.length ≤ 8 * i → queue_Wanted.l1 4000 q m n (i : Int) acc = queue_Wanted.j1 4000 (acc ++ wl m q (q.drop i)) := by
        intro t
        induction t with
        | zero =>
          intro i n acc hi hn ha
          obtain ⟨n, rfl⟩ : ∃ q, n = q + 1 := ⟨n - 1, by omega⟩
          rw [queue_Wanted.l1, if_neg (by simp; omega), List.drop_eq_nil_of_le (by omega)]; simp [wl]
        | succ t ih =>
          intro i n acc hi hn ha
          obtain ⟨n, rfl⟩ : ∃ q, n = q + 1 := ⟨n - 1, by omega⟩
          have hil : i < q.length := by omega
          have hx := List.getElem_mem hil
          have hxp := p8 _ hx
          have hnext : iadd .i64 (i : Int) 1 = ((i + 1 : Nat) : Int) := by rw [add64 (by omega)]; omega
          have h2 := k2 q[i] hx (i : Int) (queue_Wanted.l1 4000 q m n) q[i].Op.Parents.length 0 4000 acc (by omega) (by omega) (by omega)
          rw [show ((0 : Nat) : Int) = 0 from rfl, List.drop_zero, hnext] at h2
          have h3 := List.length_filter_le (miss m q) q[i].Op.Parents
          rw [queue_Wanted.l1, if_pos (by simp; omega), at_get hil, Option.bind_some, h2, ih (i + 1) n _ (by omega) (by omega) (by rw [List.length_append]; omega), List.drop_eq_getElem_cons hil, wl_cons, List.append_assoc]
      have h1 := k1 q.length 0 4000 [] (by omega) (by omega) (by simp)
      rw [show ((0 : Nat) : Int) = 0 from rfl, List.drop_zero, List.nil_append] at h1
      have wlen := wl_len m q q p8
      simp only [Option.bind_some, Bool.not_true, beq_self_eq_true, if_true, Bool.false_eq_true, if_false, Bool.and_self]
      rw [h1, queue_Wanted.j1, once_eq _ (by omega) (wl_keys m q q pk)]
      rfl
theorem insB_at (x : List Int) : ∀ (l : KeyRow) (k : Nat), k ≤ l.length → (∀ t, t < k → ltK (gk l t) x = true) → (k < l.length → ltK (gk l k) x = false) → insB x l = l.take k ++ x :: l.drop k := by
  intro l
  induction l with
  | nil => intro k h1 h2 h3; have : k = 0 := by simpa using h1
           subst this; rfl
  | cons y l ih =>
    intro k h1 h2 h3
    cases k with
    | zero =>
      have := h3 (by simp)
      unfold insB
      rw [show gk (y :: l) 0 = y from rfl] at this
      rw [if_neg (by rw [this]; decide)]; rfl
    | succ k =>
      have h0 := h2 0 (by omega)
      rw [show gk (y :: l) 0 = y from rfl] at h0
      unfold insB
      rw [if_pos h0, ih k (by simpa using h1) (fun t ht => h2 (t + 1) (by omega)) (fun hk => h3 (by simpa using hk))]
      rfl
theorem put_k (l : KeyRow) (hl : l.length ≤ 300) (hs : Sorted l) (hk : ∀ z ∈ l, z.length = 32) (x : List Int) (hx : x.length = 32) : cabalref19_put 4000 l x = some (putk l x) := by
  have hL : (1000000 : Nat) ≤ lim := by unfold lim; omega
  have fin : ∀ k, k ≤ l.length → (∀ t, t < k → ltK (gk l t) x = true) → (k < l.length → ltK (gk l k) x = false) → cabalref19_put.j1 4000 l x (k : Int) = some (putk l x) := fun k h1 h2 h3 => by
    have e := insB_at x l k h1 h2 h3
    unfold cabalref19_put.j1 putk
    by_cases c : k < l.length
    · rw [decide_eq_true (show (k : Int) < (l.length : Int) by omega)]
      simp only [beq_self_eq_true, if_true, at_get c, Option.bind_some]
      by_cases ex : l[k] = x
      · rw [if_pos (decide_eq_true ex), if_pos (by rw [← ex]; exact List.getElem_mem c)]
      · have nx : x ∉ l := fun hm => by
          obtain ⟨t, ht, et⟩ := List.mem_iff_getElem.1 hm
          rcases Nat.lt_trichotomy t k with g | g | g
          · have := h2 t g
            rw [gk_eq ht, et, ltK_irr] at this; cases this
          · subst g; exact ex et
          · have s1 : ltK l[k] l[t] = true := (List.pairwise_iff_getElem.1 hs) k t c ht g
            have s2 := h3 c
            rw [gk_eq c, ← et, s1] at s2; cases s2
        rw [if_neg (by simpa using ex), if_neg nx, cut_pre h1, cut_suf h1, e]
        simp only [Option.bind_some]
        rw [if_pos (by simp; omega), if_pos (by simp; omega), if_pos (by simp; omega)]
        simp
    · have ek : k = l.length := by omega
      rw [decide_eq_false (show ¬ (k : Int) < (l.length : Int) by omega)]
      have nx : x ∉ l := fun hm => by
        obtain ⟨t, ht, et⟩ := List.mem_iff_getElem.1 hm
        have := h2 t (by omega)
        rw [gk_eq ht, et, ltK_irr] at this; cases this
      simp only [Bool.false_eq_true, beq_iff_eq, if_false, Option.bind_some]
      rw [if_neg nx, cut_pre h1, cut_suf h1, e]
      simp only [Option.bind_some]
      rw [if_pos (by simp; omega), if_pos (by simp; omega), if_pos (by simp; omega)]
      simp
  have key : ∀ (t k n : Nat), k + t = l.length → t < n → (∀ s, s < k → ltK (gk l s) x = true) → cabalref19_put.l1 4000 l x n (k : Int) = some (putk l x) := by
    intro t
    induction t with
    | zero =>
      intro k n h1 h2 h3
      obtain ⟨n, rfl⟩ : ∃ q, n = q + 1 := ⟨n - 1, by omega⟩
      rw [cabalref19_put.l1, decide_eq_false (show ¬ (k : Int) < (l.length : Int) by omega)]
      simp only [Bool.false_eq_true, beq_iff_eq, if_false, Option.bind_some]
      exact fin k (by omega) h3 (fun h => by omega)
    | succ t ih =>
      intro k n h1 h2 h3
      obtain ⟨n, rfl⟩ : ∃ q, n = q + 1 := ⟨n - 1, by omega⟩
      have c : k < l.length := by omega
      have hnext : iadd .i64 (k : Int) 1 = ((k + 1 : Nat) : Int) := by rw [add64 (by omega)]; omega
      rw [cabalref19_put.l1, decide_eq_true (show (k : Int) < (l.length : Int) by omega)]
      simp only [beq_self_eq_true, if_true, at_get c, Option.bind_some, less_eq _ _ (hk _ (List.getElem_mem c)) hx]
      cases hc : ltK l[k] x with
      | true =>
        rw [if_pos rfl, hnext]
        exact ih (k + 1) n (by omega) (by omega) (fun s hs => by
          by_cases e : s = k
          · rw [e, gk_eq c]; exact hc
          · exact h3 s (by omega))
      | false =>
        rw [if_neg (by decide)]
        exact fin k (by omega) h3 (fun _ => by rw [gk_eq c]; exact hc)
  have := key l.length 0 4000 (by omega) (by omega) (fun s hs => by omega)
  rw [show ((0 : Nat) : Int) = 0 from rfl] at this
  exact this
theorem putk_len (l : KeyRow) (x : List Int) : (putk l x).length ≤ l.length + 1 := by
  unfold putk
  split
  · omega
  · rw [insB_len]; exact Nat.le_refl _
theorem rwanted_all (m : List api_Node) (hf : Few m) (q : List api_Held) (hq : QFew q) (hr : qright q = true) : cabalref19_Wanted 4000 m q = some ((wl m q q).foldl putk []) := by
  have hlen := hf.len
  have hql := hq.len
  obtain ⟨r1, r2⟩ := qright_at hr
  have p8 : ∀ x ∈ q, x.Op.Parents.length ≤ 8 := fun x hx => parents8 (r2 x hx)
  have pk : ∀ x ∈ q, ∀ z ∈ x.Op.Parents, z.length = 32 := fun x hx => (hq.each x hx).op.keys
  have k2 : ∀ (j : Nat) (hj : j < q.length) (L : List (List Int) → Int → Option (List (List Int))) (t i n : Nat) (acc : KeyRow), i + t = q[j].Op.Parents.length → t < n → acc.length ≤ 200 + i → Sorted acc → (∀ z ∈ acc, z.length = 32) →
      cabalref19_Wanted.l2 4000 q (j : Int) m L n acc (i : Int) = L (((q[j].Op.Parents.drop i).filter (miss m q)).foldl putk acc) (iadd .i64 (j : Int) 1) := by
    intro j hj L t
    have hx := List.getElem_mem hj
    have hxp := p8 _ hx
    induction t with
    | zero =>
      intro i n acc hi hn ha hs hz
      obtain ⟨n, rfl⟩ : ∃ q, n = q + 1 := ⟨n - 1, by omega⟩
      rw [cabalref19_Wanted.l2, at_get hj, Option.bind_some, if_neg (by simp; omega), cabalref19_Wanted.j2, List.drop_eq_nil_of_le (by omega)]; rfl
    | succ t ih =>
      intro i n acc hi hn ha hs hz
      obtain ⟨n, rfl⟩ : ∃ q, n = q + 1 := ⟨n - 1, by omega⟩
      have hil : i < q[j].Op.Parents.length := by omega
      have hnext : iadd .i64 (i : Int) 1 = ((i + 1 : Nat) : Int) := by rw [add64 (by omega)]; omega
      have h32 := pk _ hx _ (List.getElem_mem hil)
      rw [cabalref19_Wanted.l2, at_get hj, Option.bind_some, if_pos (by simp; omega), List.drop_eq_getElem_cons hil, List.filter_cons]
      simp only [Option.bind_some, at_get hil, rfind_eq m (show m.length ≤ 200 by omega), rqfind_eq q (show q.length ≤ 200 by omega), cabalref19_Wanted.j3, hnext]
      have em : miss m q q[j].Op.Parents[i] = (decide (fnd q[j].Op.Parents[i] 0 m < 0) && decide (hfnd q[j].Op.Parents[i] 0 q < 0)) := rfl
      rw [em]
      have pl := putk_len acc q[j].Op.Parents[i]
      have step1 := ih (i + 1) n acc (by omega) (by omega) (by omega) hs hz
      have step2 := ih (i + 1) n (putk acc q[j].Op.Parents[i]) (by omega) (by omega) (by omega) (putk_sorted _ _ h32 hz hs) (fun z hz2 => by
        rcases (putk_mem _ _ z).1 hz2 with e | e
        · rw [e]; exact h32
        · exact hz z e)
      cases decide (fnd q[j].Op.Parents[i] 0 m < 0) with
      | false => simpa using step1
      | true =>
        cases hd : decide (hfnd q[j].Op.Parents[i] 0 q < 0) with
        | false =>
          simp only [beq_self_eq_true, if_true, Option.bind_some, hd, Bool.and_false, Bool.false_eq_true, if_false]
          exact step1
        | true =>
          simp only [beq_self_eq_true, if_true, Option.bind_some, hd, Bool.and_self, put_k acc (show acc.length ≤ 300 by omega) hs hz _ h32]
          rw [step2]
          rfl
  have k1 : ∀ (t i n : Nat) (acc : KeyRow), i + t = q.length → t < n → acc.length ≤ 8 * i → Sorted acc → (∀ z ∈ acc, z.length = 32) → cabalref19_Wanted.l1 4000 q m n acc (i : Int) = some ((wl m q (q.drop i)).foldl putk acc) := by
    intro t
    induction t with
    | zero =>
      intro i n acc hi hn ha hs hz
      obtain ⟨n, rfl⟩ : ∃ q, n = q + 1 := ⟨n - 1, by omega⟩
      rw [cabalref19_Wanted.l1, if_neg (by simp; omega), cabalref19_Wanted.j1, List.drop_eq_nil_of_le (by omega)]; rfl
    | succ t ih =>
      intro i n acc hi hn ha hs hz
      obtain ⟨n, rfl⟩ : ∃ q, n = q + 1 := ⟨n - 1, by omega⟩
      have hil : i < q.length := by omega
      have hx := List.getElem_mem hil
      have hxp := p8 _ hx
      have hnext : iadd .i64 (i : Int) 1 = ((i + 1 : Nat) : Int) := by rw [add64 (by omega)]; omega
      have h2 := k2 i hil (cabalref19_Wanted.l1 4000 q m n) q[i].Op.Parents.length 0 4000 acc (by omega) (by omega) (by omega) hs hz
      rw [show ((0 : Nat) : Int) = 0 from rfl, List.drop_zero, hnext] at h2
      have fk : ∀ z ∈ q[i].Op.Parents.filter (miss m q), z.length = 32 := fun z hz => pk _ hx z (List.mem_filter.1 hz).1
      have fl : ∀ (w acc : KeyRow), (w.foldl putk acc).length ≤ acc.length + w.length := by
        intro w
        induction w with
        | nil => intro acc; simp
        | cons y w ihw => intro acc; rw [List.foldl_cons, List.length_cons]; have := ihw (putk acc y); have := putk_len acc y; omega
      have h3 := List.length_filter_le (miss m q) q[i].Op.Parents
      have h4 := fl (q[i].Op.Parents.filter (miss m q)) acc
      rw [cabalref19_Wanted.l1, if_pos (by simp; omega), h2, ih (i + 1) n _ (by omega) (by omega) (by omega) (fold_sorted _ fk acc hz hs) (fun z hz2 => by
        rcases (fold_mem _ acc z).1 hz2 with e | e
        · exact hz z e
        · exact fk z e), List.drop_eq_getElem_cons hil, wl_cons, List.foldl_append]
  have h1 := k1 q.length 0 4000 [] (by omega) (by omega) (by simp) List.Pairwise.nil (by simp)
  rw [show ((0 : Nat) : Int) = 0 from rfl, List.drop_zero] at h1
  exact h1

end Go.Proofs.Pure
