/- GraphShuffled over its plain functions: no program in sight. -/
import Derived.Test.YtdlnfgpcnfbjiaaSRHeads
import Derived.Test.YtdlnfgpcnfbjiaaSPerm
namespace Go.Proofs.Pure
open Go Go.RowKit Go.Proofs.Kit
set_option linter.unusedVariables false

theorem alive15 : caballaw15_alive 4000 = some true := by decide +kernel

theorem gs_l4 (l : List api_Node) (hf : Few l) (m : List api_Node) (s : Sub l m) (pick : Nat) (hp : pick < 256) (y5 : Int) (L : List api_Node → Int → Option Bool) : ∀ (t k n : Nat), k + t = l.length → t + 1 < n →
    (∃ q, k ≤ q ∧ q < l.length ∧ ∃ x y, l[(q + pick) % l.length]? = some y ∧ addR m y.Id y.Op = (x, 0)) →
    ∃ m2, Sub l m2 ∧ m2.length = m.length + 1 ∧ caballaw15_GraphShuffled.l4 4000 l (pick : Int) y5 L n m false (k : Int) = L m2 (iadd .i64 y5 1) := by
  have hlen := right_len s.rl
  intro t
  induction t with
  | zero => intro k n hk hn ⟨q, h1, h2, _⟩; omega
  | succ t ih =>
    intro k n hk hn ⟨q, hq1, hq2, x, y, hy, hx⟩
    obtain ⟨n, rfl⟩ : ∃ z, n = z + 2 := ⟨n - 2, by omega⟩
    have hkl : k < l.length := by omega
    have hmod : (k + pick) % l.length < l.length := Nat.mod_lt _ (by omega)
    have hnext : iadd .i64 (k : Int) 1 = ((k + 1 : Nat) : Int) := by rw [add64 (by omega)]; omega
    have hidx : irem (iadd .i64 (k : Int) (pick : Int)) (l.length : Int) = (((k + pick) % l.length : Nat) : Int) := by
      rw [add64 (by omega), rem_pos (by omega)]; simp
    rw [caballaw15_GraphShuffled.l4, if_pos (by rw [if_pos (by simp; omega)]; rfl), if_pos (by omega), hidx, at_get hmod]
    have hx' := hf.each _ (List.getElem_mem hmod)
    simp only [Option.bind_some]
    rw [add_eq m (s.few hf) _ _ hx'.op]
    simp only [Option.bind_some, caballaw15_GraphShuffled.j7, hnext]
    by_cases c : (addR m l[(k + pick) % l.length].Id l[(k + pick) % l.length].Op).2 = 0
    · obtain ⟨s2, h2⟩ := s.add _ hmod (x := (addR m l[(k + pick) % l.length].Id l[(k + pick) % l.length].Op).1) (by rw [← c])
      refine ⟨_, s2, h2, ?_⟩
      rw [if_pos (by simpa using c), caballaw15_GraphShuffled.l4]
      have e : (if (decide (((k + 1 : Nat) : Int) < (l.length : Int))) then (!true) else false) = false := by simp
      rw [e]
      rfl
    · rw [if_neg (by simpa using c)]
      refine ih (k + 1) (n + 1) (by omega) (by omega) ⟨q, ?_, hq2, x, y, hy, hx⟩
      by_cases e : q = k
      · subst e
        rw [List.getElem?_eq_getElem hmod] at hy
        rw [← Option.some.inj hy] at hx
        exact absurd (by rw [hx]) c
      · omega
theorem gs_l3 (l : List api_Node) (hf : Few l) (ps : List Int) (hb : ∀ v ∈ ps, 0 ≤ v ∧ v < 256) : ∀ (t i n : Nat) (m : List api_Node), Sub l m → m.length = i → i + t = l.length → t < n →
    ∃ m2, Sub l m2 ∧ m2.length = l.length ∧ caballaw15_GraphShuffled.l3 4000 l ps n m (i : Int) = caballaw15_GraphShuffled.j1 4000 l m2 := by
  intro t
  induction t with
  | zero =>
    intro i n m s hm hi hn
    obtain ⟨n, rfl⟩ : ∃ z, n = z + 1 := ⟨n - 1, by omega⟩
    have hlen := right_len s.rl
    rw [caballaw15_GraphShuffled.l3, if_neg (by simp; omega)]
    exact ⟨m, s, by omega, rfl⟩
  | succ t ih =>
    intro i n m s hm hi hn
    obtain ⟨n, rfl⟩ : ∃ z, n = z + 1 := ⟨n - 1, by omega⟩
    have hlen := right_len s.rl
    have hnext : iadd .i64 (i : Int) 1 = ((i + 1 : Nat) : Int) := by rw [add64 (by omega)]; omega
    obtain ⟨v, hv, x, hx⟩ := s.next (by omega)
    have key : ∀ pick : Nat, pick < 256 → ∃ m2, Sub l m2 ∧ m2.length = l.length ∧ caballaw15_GraphShuffled.j5 4000 l (i : Int) m (caballaw15_GraphShuffled.l3 4000 l ps n) (pick : Int) = caballaw15_GraphShuffled.j1 4000 l m2 := fun pick hp => by
      obtain ⟨m2, s2, h2, e⟩ := gs_l4 l hf m s pick hp (i : Int) (caballaw15_GraphShuffled.l3 4000 l ps n) l.length 0 4000 (by omega) (by omega)
        ⟨(v + (l.length - pick % l.length)) % l.length, by omega, Nat.mod_lt _ (by omega), x, l[v], by
          have hpl : pick % l.length < l.length := Nat.mod_lt _ (by omega)
          have : ((v + (l.length - pick % l.length)) % l.length + pick) % l.length = v := by
            rw [Nat.mod_add_mod, Nat.add_mod, ← Nat.add_mod]
            have e1 : v + (l.length - pick % l.length) + pick = v + l.length * (pick / l.length + 1) := by
              have := Nat.div_add_mod pick l.length
              rw [Nat.mul_add]
              omega
            rw [e1, Nat.add_mul_mod_self_left, Nat.mod_eq_of_lt hv]
          rw [this]; exact List.getElem?_eq_getElem hv, hx⟩
      obtain ⟨m3, s3, h3, e3⟩ := ih (i + 1) n m2 s2 (by omega) (by omega) (by omega)
      refine ⟨m3, s3, h3, ?_⟩
      unfold caballaw15_GraphShuffled.j5
      rw [show ((0 : Nat) : Int) = 0 from rfl] at e
      rw [e, hnext, e3]
    rw [caballaw15_GraphShuffled.l3, if_pos (by simp; omega)]
    by_cases c : i < ps.length
    · have hz := hb _ (List.getElem_mem c)
      obtain ⟨pk, e⟩ : ∃ z : Nat, ps[i] = z := ⟨ps[i].toNat, by omega⟩
      rw [if_pos (by simp; omega), at_get c]
      simp only [Option.bind_some]
      rw [wi64 (by omega), e]
      exact key pk (by omega)
    · rw [if_neg (by simp; omega)]
      exact key 0 (by omega)

theorem gs_beh {l m : List api_Node} (s : Sub l m) (h : m.length = l.length) (hf : Few l) (a b : Nat) (ha : a < l.length) (hb : b < l.length) : ahG l (a : Int) (b : Int) = ahG m (fnd l[a].Id 0 m) (fnd l[b].Id 0 m) := by
  obtain ⟨u, hu, eu⟩ := s.all (by omega) a ha
  obtain ⟨v, hv, ev⟩ := s.all (by omega) b hb
  have fu := pm_fnd s.rm u hu
  have fv := pm_fnd s.rm v hv
  rw [eu] at fu
  rw [ev] at fv
  rw [fu, fv]
  unfold ahG
  rw [inG_iff.2 ⟨⟨by omega, by omega, by omega, by omega⟩, s.rl⟩, inG_iff.2 ⟨⟨by omega, by omega, by omega, by omega⟩, s.rm⟩, Int.toNat_natCast, Int.toNat_natCast, Int.toNat_natCast, Int.toNat_natCast]
  have := s.beh v v u a b hu hv ha hb (Nat.le_refl _) eu ev
  rw [← behB_iff hv, ← behB_iff hb, ← Bool.eq_iff_iff] at this
  rw [this]
theorem gs_l2 (l m : List api_Node) (s : Sub l m) (h : m.length = l.length) (hf : Few l) (a : Nat) (ha : a < l.length) (L : Int → Option Bool) : ∀ (t b n : Nat), b + t = l.length → t < n →
    caballaw15_GraphShuffled.l2 4000 l (a : Int) m L n (b : Int) = L (iadd .i64 (a : Int) 1) := by
  have hlen := right_len s.rl
  have hfm := s.few hf
  intro t
  induction t with
  | zero =>
    intro b n hb hn
    obtain ⟨n, rfl⟩ : ∃ z, n = z + 1 := ⟨n - 1, by omega⟩
    rw [caballaw15_GraphShuffled.l2, if_neg (by simp; omega), caballaw15_GraphShuffled.j3]
  | succ t ih =>
    intro b n hb hn
    obtain ⟨n, rfl⟩ : ∃ z, n = z + 1 := ⟨n - 1, by omega⟩
    have hbl : b < l.length := by omega
    have hnext : iadd .i64 (b : Int) 1 = ((b + 1 : Nat) : Int) := by rw [add64 (by omega)]; omega
    rw [caballaw15_GraphShuffled.l2, if_pos (by simp; omega), ahG_eq l hf, at_get ha, at_get hbl]
    simp only [Option.bind_some, find_eq m (by omega), ahG_eq m hfm, hnext]
    rw [if_neg (by rw [gs_beh s h hf a b ha hbl]; simp)]
    exact ih (b + 1) n (by omega) (by omega)
theorem gs_l1 (l m : List api_Node) (s : Sub l m) (h : m.length = l.length) (hf : Few l) : ∀ (t a n : Nat), a + t = l.length → t < n →
    caballaw15_GraphShuffled.l1 4000 l m n (a : Int) = caballaw15_GraphShuffled.j2 4000 l m := by
  have hlen := right_len s.rl
  intro t
  induction t with
  | zero =>
    intro a n hb hn
    obtain ⟨n, rfl⟩ : ∃ z, n = z + 1 := ⟨n - 1, by omega⟩
    rw [caballaw15_GraphShuffled.l1, if_neg (by simp; omega)]
  | succ t ih =>
    intro a n hb hn
    obtain ⟨n, rfl⟩ : ∃ z, n = z + 1 := ⟨n - 1, by omega⟩
    have hal : a < l.length := by omega
    have hnext : iadd .i64 (a : Int) 1 = ((a + 1 : Nat) : Int) := by rw [add64 (by omega)]; omega
    rw [caballaw15_GraphShuffled.l1, if_pos (by simp; omega)]
    have := gs_l2 l m s h hf a hal (caballaw15_GraphShuffled.l1 4000 l m n) l.length 0 4000 (by omega) (by omega)
    rw [show ((0 : Nat) : Int) = 0 from rfl] at this
    rw [this, hnext]
    exact ih (a + 1) n (by omega) (by omega)

theorem sorted_eq : ∀ (a b : List (List Int)), Sorted a → Sorted b → (∀ z, z ∈ a ↔ z ∈ b) → a = b
  | [], [], _, _, _ => rfl
  | [], y :: b, _, _, h => by have := (h y).2 (by simp); cases this
  | x :: a, [], _, _, h => by have := (h x).1 (by simp); cases this
  | x :: a, y :: b, ha, hb, h => by
    obtain ⟨a1, a2⟩ := List.pairwise_cons.1 ha
    obtain ⟨b1, b2⟩ := List.pairwise_cons.1 hb
    have e : x = y := by
      rcases List.mem_cons.1 ((h x).1 (by simp)) with g | g
      · exact g
      · rcases List.mem_cons.1 ((h y).2 (by simp)) with k | k
        · exact k.symm
        · have p1 := b1 x g
          have p2 := a1 y k
          rw [ltK_asym p1] at p2; cases p2
    subst e
    congr 1
    refine sorted_eq a b a2 b2 (fun z => ?_)
    have irr : ∀ z, ltK z z = true → False := fun z hz => by have := ltK_asym hz; rw [hz] at this; cases this
    constructor
    · intro hz
      rcases List.mem_cons.1 ((h z).1 (by simp [hz])) with g | g
      · rw [g] at hz; exact (irr x (a1 x hz)).elim
      · exact g
    · intro hz
      rcases List.mem_cons.1 ((h z).2 (by simp [hz])) with g | g
      · rw [g] at hz; exact (irr x (b1 x hz)).elim
      · exact g
theorem putAll_sorted (l : List (List Int)) : ∀ S, Sorted S → (∀ z ∈ S, z.length = 32) → (∀ z ∈ l, z.length = 32) → l.Nodup → (∀ z ∈ l, z ∉ S) → Sorted (putAll S l) ∧ ∀ z, z ∈ putAll S l ↔ z ∈ S ∨ z ∈ l := by
  induction l with
  | nil => intro S h _ _ _ _; exact ⟨h, fun z => by simp [putAll]⟩
  | cons x l ih =>
    intro S h1 h2 h3 h4 h5
    obtain ⟨n1, n2⟩ := List.nodup_cons.1 h4
    obtain ⟨i1, i2⟩ := ih (insB x S) (insB_sorted x (h3 x (by simp)) S h1 h2 (h5 x (by simp))) (fun z hz => by
      rcases (insB_mem x S z).1 hz with e | e
      · rw [e]; exact h3 x (by simp)
      · exact h2 z e) (fun z hz => h3 z (by simp [hz])) n2 (fun z hz g => by
      rcases (insB_mem x S z).1 g with e | e
      · rw [e] at hz; exact n1 hz
      · exact h5 z (by simp [hz]) e)
    refine ⟨i1, fun z => ?_⟩
    unfold putAll
    rw [i2, insB_mem, List.mem_cons]
    constructor
    · rintro ((h | h) | h)
      · exact .inr (.inl h)
      · exact .inl h
      · exact .inr (.inr h)
    · rintro (h | h | h)
      · exact .inl (.inr h)
      · exact .inl (.inl h)
      · exact .inr h
theorem heads_prop {p : List api_Node} (hr : rightG p = true) (hi : Ids32 p) : Sorted (headsL p) ∧ ∀ z, z ∈ headsL p ↔ ∃ j, ∃ h : j < p.length, isH p j = true ∧ p[j].Id = z := by
  have hn : (headsU p).Nodup := by have := hl_nodup hr (isH p) p.length 0 (by omega); rw [List.drop_zero] at this; exact this
  obtain ⟨h1, h2⟩ := putAll_sorted (headsU p) [] List.Pairwise.nil (by simp) (headsU_len hi) hn (by simp)
  refine ⟨h1, fun z => ?_⟩
  unfold headsL
  rw [h2]
  unfold headsU
  rw [hl_mem]
  simp
theorem Sub.ids32 {l m : List api_Node} (s : Sub l m) (h : Ids32 l) : Ids32 m := fun x hx => by
  obtain ⟨j, hj, e⟩ := List.mem_iff_getElem.1 hx
  obtain ⟨i, hi, e1, _⟩ := s.of j hj
  rw [← e, e1]
  exact h _ (List.getElem_mem hi)
theorem gs_heads {l m : List api_Node} (s : Sub l m) (h : m.length = l.length) (hi : Ids32 l) : headsL l = headsL m := by
  obtain ⟨l1, l2⟩ := heads_prop s.rl hi
  obtain ⟨m1, m2⟩ := heads_prop s.rm (s.ids32 hi)
  refine sorted_eq _ _ l1 m1 (fun z => ?_)
  rw [l2, m2]
  constructor
  · rintro ⟨a, ha, h1, h2⟩
    obtain ⟨u, hu, eu⟩ := s.all (by omega) a ha
    refine ⟨u, hu, isH_iff.2 (fun v hb => ?_), by rw [eu]; exact h2⟩
    obtain ⟨hv, hvm⟩ := hb
    obtain ⟨b, hb2, e, _⟩ := s.of v hv
    exact isH_iff.1 h1 b ((s.beh v v u a b hu hv ha hb2 (Nat.le_refl _) eu e).1 ⟨hv, hvm⟩)
  · rintro ⟨u, hu, h1, h2⟩
    obtain ⟨a, ha, eu, _⟩ := s.of u hu
    refine ⟨a, ha, isH_iff.2 (fun b hb => ?_), by rw [← eu]; exact h2⟩
    obtain ⟨hbl, hbm⟩ := hb
    obtain ⟨v, hv, ev⟩ := s.all (by omega) b hbl
    exact isH_iff.1 h1 v ((s.beh v v u a b hu hv ha hbl (Nat.le_refl _) eu ev).2 ⟨hbl, hbm⟩)

theorem GraphShuffled (x0 : (List api_Node)) (x1 : (List Int)) (g0 : Fine (ksl k_api_Node) x0) (g1 : Fine (ksl (kint .u8)) x1) : ∃ k, caballaw15_GraphShuffled k x0 x1 = some true := by
  refine ⟨4000, ?_⟩
  unfold caballaw15_GraphShuffled
  rw [alive15]
  simp only [Option.bind_some, Bool.not_true, Bool.false_eq_true, if_false]
  obtain ⟨b, hb, hf⟩ := great_eq x0 (fun x hx => node_keys ((Fine.sl g0).2 x hx))
  rw [hb]
  simp only [Option.bind_some]
  cases b with
  | true => simp
  | false =>
    have hf := hf rfl
    have hlen := hf.len
    have hid : Ids32 x0 := fun x hx => node_id ((Fine.sl g0).2 x hx)
    have hps : ∀ v ∈ x1, 0 ≤ v ∧ v < 256 := fun v hv => by
      have := Fine.int ((Fine.sl g1).2 v hv)
      have h2 : 0 ≤ v ∧ v ≤ 255 := this
      omega
    by_cases c : x0.length ≤ 40
    · rw [decide_eq_false (show ¬ (x0.length : Int) > 40 by omega)]
      simp only [Bool.false_eq_true, if_false, beq_self_eq_true, if_true]
      rw [right_eq x0 hf]
      cases hr : rightG x0 with
      | false => simp
      | true =>
        simp only [Option.bind_some, Bool.not_true, Bool.false_eq_true, if_false]
        obtain ⟨m, s, hm, e⟩ := gs_l3 x0 hf x1 hps x0.length 0 4000 [] (Sub.start hr) rfl (by omega) (by omega)
        rw [show ((0 : Nat) : Int) = 0 from rfl] at e
        rw [e, caballaw15_GraphShuffled.j1]
        have e1 := gs_l1 x0 m s hm hf x0.length 0 4000 (by omega) (by omega)
        rw [show ((0 : Nat) : Int) = 0 from rfl] at e1
        rw [e1, caballaw15_GraphShuffled.j2, alive15]
        simp only [Option.bind_some, beq_self_eq_true, if_true]
        have hhl : (headsL m).length < 2000 := by
          unfold headsL
          rw [putAll_len]
          have := hl_len (isH m) m 0
          unfold headsU
          simp; omega
        rw [heads_eq x0 hf hid, heads_eq m (s.few hf) (s.ids32 hid), hr, s.rm, gs_heads s hm hid]
        simp only [if_true, Option.bind_some]
        rw [samekeys_refl _ hhl]
        rfl
    · rw [decide_eq_true (show (x0.length : Int) > 40 by omega)]
      simp


end Go.Proofs.Pure
