/- Several parts of this proof in one file. No condition. -/
import Derived.Test.YtjbjladhgmknnaaDoorOTB
section
namespace Go.Proofs.Pure
open Go Go.RowKit Go.Proofs.Kit
set_option linter.unusedVariables false
set_option linter.unusedSimpArgs false
set_option maxRecDepth 100000
theorem new_none : disk_New 4000 0 = some (newD 1) ∧ cabalref12_New 4000 0 = some (twin (newD 1)) := by
  have h1 : disk_New 4000 0 = some (newD 1) := by
    unfold disk_New
    rw [if_pos (show (1 : Int) > 0 by omega), if_neg (by omega)]
    simp only [Option.bind_some]
    rw [if_pos ⟨by omega, by show 1 ≤ lim; unfold lim; omega⟩]; rfl
  obtain ⟨N, _, h2, h3, _⟩ := new_ok 0
  have e : newD 1 = newD N := Option.some.inj (h1.symm.trans h2)
  exact ⟨h1, by rw [e]; exact h3⟩
structure Cal (n : Nat) (d : disk_Disk) : Prop where
  wf : Wf 0 d
  db : DB d
  fuse : d.fuse = -1
  alive : d.dead = false
  calm : d.loose = []
  len : d.firm.length = n
theorem lay_step (k : Nat) (p2 : cabalref12_Disk) (p3 : Int) (p1 : disk_Disk) (n : Nat) (y2 : List Int) : caballaw13_lay.l1 k p2 p3 p1 (n + 1) y2 = if (decide ((y2.length : Int) < (256 : Int))) = true then (if y2.length + ([0] : List Int).length ≤ lim then ((caballaw13_lay.l1 k p2 p3 p1 n) (y2 ++ ([0] : List Int))) else none) else ((caballaw13_lay.j1 k p2 p3 p1) y2) := rfl
theorem lay_l1 (d : disk_Disk) (p : Int) : ∀ (m f : Nat) (s : List Int), s.length + m = 256 → m < f → caballaw13_lay.l1 4000 (twin d) p d f s = caballaw13_lay.j1 4000 (twin d) p d (s ++ List.replicate m 0) := by
  have hL : lim = 2147483648 := rfl
  intro m
  induction m with
  | zero =>
    intro f s h hf
    obtain ⟨f, rfl⟩ : ∃ q, f = q + 1 := ⟨f - 1, by omega⟩
    have hd : ¬ decide ((s.length : Int) < 256) = true := fun e => by have := of_decide_eq_true e; omega
    rw [lay_step, if_neg hd, List.replicate_zero, List.append_nil]
  | succ m ih =>
    intro f s h hf
    obtain ⟨f, rfl⟩ : ∃ q, f = q + 1 := ⟨f - 1, by omega⟩
    rw [lay_step, if_pos (decide_eq_true (by omega)), if_pos (by show s.length + 1 ≤ lim; omega), ih f (s ++ [0]) (by simp; omega) (by omega), List.append_assoc]; rfl
theorem lay_ok {n : Nat} {d : disk_Disk} (c : Cal n d) {s : List Int} (hs : Byt s) (hl : s.length ≤ 256) (p : Int) : ∃ d', caballaw13_lay 4000 d (twin d) p s = some (d', twin d') ∧ Cal n d' := by
  unfold caballaw13_lay
  rw [lay_l1 d p (256 - s.length) 4000 s (by omega) (by omega)]
  have hy : (s ++ List.replicate (256 - s.length) (0 : Int)).length = 256 := by simp; omega
  have hb : Byt (s ++ List.replicate (256 - s.length) (0 : Int)) := fun x hx => by
    rcases List.mem_append.1 hx with q | q
    · exact hs x q
    · rw [List.eq_of_mem_replicate q]; omega
  generalize s ++ List.replicate (256 - s.length) (0 : Int) = y at hy hb
  unfold caballaw13_lay.j1 cabalref12_Disk_Has
  rw [show (twin d).Firm = d.firm from rfl]
  by_cases hp : 0 ≤ p ∧ p < d.firm.length
  · rw [decide_eq_true (show p ≥ 0 from hp.1), decide_eq_true hp.2, if_pos rfl, Option.bind_some, Option.bind_some, if_neg (by decide)]
    obtain ⟨fu, de, ⟨w1, w2⟩, w3, w4⟩ := write_live (by omega) c.wf hp hy c.alive
    obtain ⟨rfl, rfl⟩ := w4 c.fuse
    obtain ⟨fu2, de2, ⟨v1, v2⟩, v3⟩ := sync_live (N := 0 + 1) (by omega) w3 rfl
    obtain ⟨rfl, rfl⟩ := v3 rfl
    obtain ⟨t1, t2⟩ := settled_wf w3 (-1) false
    refine ⟨⟨settled ⟨d.firm, d.loose ++ [⟨p, y⟩], -1, false⟩, [], -1, false⟩, ?_, ⟨t1, ⟨sett_byt _ _ _ _ (fun w hw => ?_) c.db.firm, fun w hw => by cases hw⟩, rfl, rfl, rfl, t2.trans c.len⟩⟩
    · rw [w1, Option.bind_some]
      show (disk_Disk_Sync 4000 ⟨d.firm, d.loose ++ [⟨p, y⟩], -1, false⟩).bind _ = _
      rw [v1, Option.bind_some, w2, Option.bind_some]
      show (cabalref12_Disk_Sync 4000 (twin ⟨d.firm, d.loose ++ [⟨p, y⟩], -1, false⟩)).bind _ = _
      rw [v2]; rfl
    · rcases List.mem_append.1 hw with q | q
      · exact c.db.loose w q
      · rw [List.mem_singleton.1 q]; exact hb
  · refine ⟨d, ?_, c⟩
    have e : (if decide (p ≥ 0) = true then decide (p < (d.firm.length : Int)) else false) = false := by
      by_cases h0 : p ≥ 0
      · rw [if_pos (decide_eq_true h0)]; exact decide_eq_false (by omega)
      · rw [if_neg (by simpa using h0)]
    rw [e, Option.bind_some, Option.bind_some, if_pos (by decide)]
theorem encB_most : ∀ (L : List (List Int)), (∀ t ∈ L, t.length ≤ 2000) → (encB L).length ≤ 2010 * L.length := by
  intro L
  induction L with
  | nil => intro _; simp [encB]
  | cons s L ih =>
    intro h
    have h1 := h s (by simp)
    have h2 := ih fun t ht => h t (by simp [ht])
    rw [encB_cons, List.length_append, List.length_cons]
    have : (encT s).length ≤ 2010 := by
      unfold encT
      have := enc_len (s.length : Int)
      rw [List.length_append]; omega
    omega
theorem xor_byt (a b : Int) : 0 ≤ ixor .u8 a b ∧ ixor .u8 a b < 256 := by
  unfold ixor
  rw [wu8]; omega
theorem set_get {l : List Int} {i : Nat} (v : Int) (h : i < l.length) : set? l (i : Int) v = some (l.set i v) := by
  unfold set?
  rw [if_pos (by omega), Int.toNat_natCast]
theorem opens_j5 {n : Nat} (h1 : 1 ≤ n) (hn : n ≤ 8) {d : disk_Disk} (c : Cal n d) : caballaw13_JournalOpens.j5 4000 d.fuse d.dead (twin d).Fuse (twin d).Dead d.firm d.loose (twin d).Firm (twin d).At (twin d).Data = some true := by
  have hlm : lim = 2147483648 := rfl
  have hlen := c.len
  have h6 : hlf d ≤ 6 := by unfold hlf; omega
  have e1 : (⟨d.firm, d.loose, d.fuse, d.dead⟩ : disk_Disk) = d := rfl
  have e2 : (⟨(twin d).Firm, (twin d).At, (twin d).Data, (twin d).Fuse, (twin d).Dead⟩ : cabalref12_Disk) = twin d := rfl
  unfold caballaw13_JournalOpens.j5
  rw [e1, e2]
  rcases open_both (show 0 ≤ 1000 by omega) c.wf c.db (by omega) with ⟨a, L, v, o1, o2⟩ | ⟨_, e, he, o1, o2⟩
  · have lv : Live d a L := ⟨c.wf, c.db, c.alive, c.calm, v⟩
    have hr := lv.room
    have hm := encB_many L
    have st : Stt d a L := ⟨v.recs, v.area, v.blocks, c.wf.blocks, hr, .inl lv⟩
    have e3 : (⟨(), (a : Int), encB L, L⟩ : journal_Journal) = jj a L := rfl
    have e4 : (⟨(), (a : Int), L⟩ : cabalref13_Journal) = xx a L := rfl
    have q1 := records_eq (jj a L) d (by show L.length ≤ 10000; omega)
    rw [show (jj a L).l = L from rfl] at q1
    have q2 := same_eq L (by omega)
    have q3 := room_eq st
    have q4 := rroom_eq st (by omega) (fun t ht => by have := encB_each L t ht; omega)
    rw [o1, Option.bind_some, if_pos rfl, o2, Option.bind_some, if_pos rfl]
    simp only [bne_self_eq_false, Bool.false_eq_true, if_false, alive13, Option.bind_some, beq_self_eq_true, if_true, e3, e4, q1, q2, q3, q4]
  · have nf : ¬ (false = true) := by decide
    rw [o1, Option.bind_some, if_neg nf, o2, Option.bind_some, if_neg nf]
    have t1 : journal_Journal_Append_nil 4000 [[97]] = some 7 := by
      unfold journal_Journal_Append_nil
      rw [texts_enc [[97]] (by simp) (fun t ht => by rw [List.mem_singleton.1 ht]; simp)]; rfl
    have t2 : journal_Journal_Snap_nil 4000 [97] = some 7 := by
      unfold journal_Journal_Snap_nil
      rw [texts_enc [[97]] (by simp) (fun t ht => by rw [List.mem_singleton.1 ht]; simp)]; rfl
    simp only [bne_self_eq_false, Bool.false_eq_true, if_false, alive13, Option.bind_some, beq_self_eq_true, if_true, journal_Journal_Records_nil, journal_Journal_Room_nil, t1, t2, List.length_nil]
    rfl
theorem opens_j4 {n : Nat} (h1 : 1 ≤ n) (hn : n ≤ 8) {d : disk_Disk} (c : Cal n d) (p7 p6 : Int) : caballaw13_JournalOpens.j4 4000 p7 p6 d.fuse d.dead (twin d).Fuse (twin d).Dead d.firm d.loose (twin d).Firm (twin d).At (twin d).Data = some true := by
  have hlen := c.len
  unfold caballaw13_JournalOpens.j4
  by_cases c7 : (p7 != (0 : Int)) = true
  · rw [if_pos c7, show (twin d).Firm = d.firm from rfl, hlen, mul64 (by omega), wu64s (by omega), if_pos (show (n : Int) * 256 ≠ 0 by omega), wu64, rem_pos (by omega), Option.bind_some]
    obtain ⟨t, ht⟩ : ∃ t : Nat, p6 % 18446744073709551616 % ((n : Int) * 256) = (t : Int) := ⟨(p6 % 18446744073709551616 % ((n : Int) * 256)).toNat, by
      have := Int.emod_nonneg (p6 % 18446744073709551616) (show (n : Int) * 256 ≠ 0 by omega); omega⟩
    have hlt : (t : Int) < (n : Int) * 256 := by rw [← ht]; exact Int.emod_lt_of_pos _ (by omega)
    rw [ht, wi64 (by omega)]
    have eq : iquo .i64 (t : Int) 256 = ((t / 256 : Nat) : Int) := by rw [quo64 (by omega) (by omega)]; omega
    have er : irem (t : Int) 256 = ((t % 256 : Nat) : Int) := by rw [rem_pos (by omega)]; omega
    have hq : t / 256 < d.firm.length := by omega
    have hsz := c.wf.size _ (List.getElem_mem hq)
    have hbt := c.db.firm _ (List.getElem_mem hq)
    rw [eq, er, if_pos (show 0 ≤ ((t / 256 : Nat) : Int) ∧ ((t / 256 : Nat) : Int) < (n : Int) by omega), at_get hq, Option.bind_some]
    generalize d.firm[t / 256] = y at hsz hbt
    have hr : t % 256 < y.length := by omega
    rw [if_pos (show 0 ≤ ((t % 256 : Nat) : Int) ∧ ((t % 256 : Nat) : Int) < (y.length : Int) by omega), at_get hr, Option.bind_some, if_pos (show 0 ≤ ((t % 256 : Nat) : Int) ∧ ((t % 256 : Nat) : Int) < (y.length : Int) by omega), set_get _ hr, Option.bind_some]
    obtain ⟨d', g1, g2⟩ := lay_ok c (s := y.set (t % 256) (ixor .u8 y[t % 256] p7)) (fun x hx => by
      rcases List.mem_or_eq_of_mem_set hx with q | q
      · exact hbt x q
      · rw [q]; exact xor_byt _ _) (by rw [List.length_set]; omega) ((t / 256 : Nat) : Int)
    show (caballaw13_lay 4000 d (twin d) _ _).bind _ = _
    rw [g1, Option.bind_some]
    exact opens_j5 h1 hn g2
  · rw [if_neg c7]
    exact opens_j5 h1 hn c
theorem opens_l1 {N : Nat} (h1 : 1 ≤ N) (hN : N ≤ 8) (s : List Int) (hs : Byt s) (hl : s.length ≤ 100000) (y1 p7 p6 : Int) : ∀ (m i n : Nat) (d : disk_Disk), i + m = 400 → m < n → Cal N d → caballaw13_JournalOpens.l1 4000 s y1 p7 p6 n (i : Int) d.fuse d.dead (twin d).Fuse (twin d).Dead d.firm d.loose (twin d).Firm (twin d).At (twin d).Data = some true := by
  intro m
  induction m with
  | zero =>
    intro i n d hi hm c
    obtain ⟨n, rfl⟩ : ∃ q, n = q + 1 := ⟨n - 1, by omega⟩
    have em : imul .i64 (i : Int) 256 = ((i * 256 : Nat) : Int) := by rw [mul64 (by omega)]; omega
    rw [caballaw13_JournalOpens.l1, em, if_neg (by simp; omega)]
    exact opens_j4 h1 hN c p7 p6
  | succ m ih =>
    intro i n d hi hm c
    obtain ⟨n, rfl⟩ : ∃ q, n = q + 1 := ⟨n - 1, by omega⟩
    have em : imul .i64 (i : Int) 256 = ((i * 256 : Nat) : Int) := by rw [mul64 (by omega)]; omega
    have ea : iadd .i64 ((i * 256 : Nat) : Int) 256 = ((i * 256 + 256 : Nat) : Int) := by rw [add64 (by omega)]; omega
    have hnext : iadd .i64 (i : Int) 1 = ((i + 1 : Nat) : Int) := by rw [add64 (by omega)]; omega
    rw [caballaw13_JournalOpens.l1, em, ea]
    have step : ∀ z : Nat, i * 256 ≤ z → z ≤ i * 256 + 256 → z ≤ s.length → caballaw13_JournalOpens.j6 4000 (twin d).Firm (twin d).At (twin d).Data (twin d).Fuse (twin d).Dead s (i : Int) d.firm d.loose d.fuse d.dead y1 (caballaw13_JournalOpens.l1 4000 s y1 p7 p6 n) (z : Int) = some true := fun z z1 z2 z3 => by
      unfold caballaw13_JournalOpens.j6
      have e1 : (⟨d.firm, d.loose, d.fuse, d.dead⟩ : disk_Disk) = d := rfl
      have e2 : (⟨(twin d).Firm, (twin d).At, (twin d).Data, (twin d).Fuse, (twin d).Dead⟩ : cabalref12_Disk) = twin d := rfl
      rw [e1, e2, half_eq c.wf.blocks (by rw [c.len]; exact h1), Option.bind_some, em, cut_ok (by omega), Option.bind_some, hnext]
      obtain ⟨d', g1, g2⟩ := lay_ok c (s := (s.take (z : Int).toNat).drop ((i * 256 : Nat) : Int).toNat) (fun x hx => hs x (List.mem_of_mem_take (List.mem_of_mem_drop hx))) (by rw [List.length_drop, List.length_take]; omega) (iadd .i64 (iadd .i64 1 (imul .i64 y1 ((hlf d : Nat) : Int))) (i : Int))
      rw [g1, Option.bind_some]
      exact ih (i + 1) n d' (by omega) (by omega) g2
    by_cases c1 : i * 256 < s.length
    · rw [if_pos (decide_eq_true (by omega)), Option.bind_some]
      by_cases c2 : i * 256 + 256 > s.length
      · rw [if_pos (decide_eq_true (by omega))]
        exact step s.length (by omega) (by omega) (Nat.le_refl _)
      · rw [if_neg (by simp; omega)]
        exact step (i * 256 + 256) (by omega) (by omega) (by omega)
    · rw [if_neg (by simp; omega)]
      exact opens_j4 h1 hN c p7 p6
theorem opens_j3 {N : Nat} (h1 : 1 ≤ N) (hN : N ≤ 8) (s : List Int) (hs : Byt s) (hl : s.length ≤ 100000) (y1 p7 p6 : Int) {d : disk_Disk} (c : Cal N d) (y : List Int) (hy : Byt y) (hy2 : y.length ≤ 256) : caballaw13_JournalOpens.j3 4000 d (twin d) s y1 p7 p6 y = some true := by
  unfold caballaw13_JournalOpens.j3
  obtain ⟨d', g1, g2⟩ := lay_ok c hy hy2 0
  rw [g1, Option.bind_some]
  have := opens_l1 h1 hN s hs hl y1 p7 p6 400 0 4000 d' (by omega) (by omega) g2
  rw [show ((0 : Nat) : Int) = 0 from rfl] at this
  exact this
theorem opens_j1 {N : Nat} (h1 : 1 ≤ N) (hN : N ≤ 8) (s : List Int) (hs : Byt s) (hl : s.length ≤ 100000) (p7 p6 p5 : Int) {d : disk_Disk} (c : Cal N d) (p3 : List Int) (hp : Byt p3) (hp2 : p3.length ≤ 64) (a : Int) (ha : 0 ≤ a ∧ a < 256) : caballaw13_JournalOpens.j1 4000 p3 s p5 d (twin d) p7 p6 a = some true := by
  have go : ∀ y : List Int, Byt y → y.length ≤ 64 → caballaw13_JournalOpens.j2 4000 p5 a d (twin d) s p7 p6 y = some true := fun y q1 q2 => by
    unfold caballaw13_JournalOpens.j2
    rw [Option.bind_some]
    by_cases c5 : p5 ≥ 0 ∧ p5 < 5000
    · obtain ⟨_, k2, k3⟩ := mark_eq (a := a) (n := p5) ha (by omega)
      rw [decide_eq_true c5.1, decide_eq_true c5.2, if_pos rfl, if_pos rfl, k2, Option.bind_some]
      exact opens_j3 h1 hN s hs hl a p7 p6 c _ k3 (by rw [mk_len]; omega)
    · have e : (if decide (p5 ≥ 0) = true then decide (p5 < 5000) else false) = false := by
        by_cases h0 : p5 ≥ 0
        · rw [if_pos (decide_eq_true h0)]; exact decide_eq_false (by omega)
        · rw [if_neg (by simpa using h0)]
      rw [e, if_neg (by decide)]
      exact opens_j3 h1 hN s hs hl a p7 p6 c y q1 (by omega)
  unfold caballaw13_JournalOpens.j1
  by_cases c3 : ((p3.length : Int) == (0 : Int)) = true
  · obtain ⟨_, k2, k3⟩ := mark_eq (a := a) (n := (s.length : Int)) ha (by omega)
    rw [if_pos c3, k2, Option.bind_some]
    exact go _ k3 (by rw [mk_len]; omega)
  · rw [if_neg c3]
    exact go p3 hp hp2
end Go.Proofs.Pure
end
section
namespace Go.Proofs.Pure
open Go Go.RowKit Go.Proofs.Kit
set_option linter.unusedVariables false
theorem new_small (p : Int) (h : 0 ≤ p ∧ p ≤ 8) : ∃ N, 1 ≤ N ∧ N ≤ 8 ∧ disk_New 4000 p = some (newD N) ∧ cabalref12_New 4000 p = some (twin (newD N)) := by
  by_cases c : p = 0
  · subst c
    exact ⟨1, by omega, by omega, new_none.1, new_none.2⟩
  · obtain ⟨N, _, h2, h3, h4⟩ := new_ok p
    have := h4 (by omega) (by omega)
    exact ⟨N, by omega, by omega, h2, h3⟩
theorem newD_cal {N : Nat} (h : N ≤ 8) : Cal N (newD N) := by
  refine ⟨newD_wf (by omega), ⟨fun b hb x hx => ?_, fun w hw => (by cases hw)⟩, rfl, rfl, rfl, List.length_replicate ..⟩
  have hb' : b ∈ List.replicate N (List.replicate 256 (0 : Int)) := hb
  rw [List.eq_of_mem_replicate hb'] at hx
  rw [List.eq_of_mem_replicate hx]; omega
theorem JournalOpens (x0 : Int) (x1 : (List (List Int))) (x2 : (List Int)) (x3 : Bool) (x4 : Int) (x5 : Int) (x6 : Int) (g0 : Fine (kint .i64) x0) (g1 : Fine (ksl kstr) x1) (g2 : Fine kstr x2) (g3 : Fine kbool x3) (g4 : Fine (kint .i64) x4) (g5 : Fine (kint .i64) x5) (g6 : Fine (kint .u8) x6) : ∃ k, caballaw13_JournalOpens k x0 x1 x2 x3 x4 x5 x6 = some true := by
  refine ⟨4000, ?_⟩
  unfold caballaw13_JournalOpens
  rw [alive13, Option.bind_some, if_neg (by decide)]
  obtain ⟨b, gb, gf⟩ := great_eq x1
  rw [gb, Option.bind_some]
  cases b with
  | true => rw [if_pos rfl, if_pos rfl]; rfl
  | false =>
    obtain ⟨m1, m2⟩ := gf rfl
    by_cases c : (x2.length : Int) > 64
    · rw [if_neg (show ¬ (false = true) by decide), decide_eq_true c, if_pos rfl]; rfl
    · rw [if_neg (show ¬ (false = true) by decide), decide_eq_false c, if_neg (by decide), wu64, rem_pos (by omega), wi64 (by omega)]
      obtain ⟨N, n1, n2, n3, n4⟩ := new_small (x0 % 18446744073709551616 % 9) (by omega)
      rw [n3, Option.bind_some, n4, Option.bind_some, bytes_eq x1 (by omega) (fun t ht => by have := m2 t ht; omega), Option.bind_some]
      have hrec : Recs x1 := fun t ht => ⟨(Fine.str ((Fine.sl g1).2 t ht)).2, by have := m2 t ht; omega⟩
      have hsz : (encB x1).length ≤ 100000 := by
        have := encB_most x1 m2
        have : 2010 * x1.length ≤ 2010 * 25 := Nat.mul_le_mul_left _ m1
        omega
      cases x3 with
      | true =>
        rw [if_pos rfl]
        exact opens_j1 n1 n2 (encB x1) (encB_byt hrec) hsz x6 x5 x4 (newD_cal n2) x2 (Fine.str g2).2 (by omega) 1 (by omega)
      | false =>
        rw [if_neg (by decide)]
        exact opens_j1 n1 n2 (encB x1) (encB_byt hrec) hsz x6 x5 x4 (newD_cal n2) x2 (Fine.str g2).2 (by omega) 0 (by omega)
end Go.Proofs.Pure
end
