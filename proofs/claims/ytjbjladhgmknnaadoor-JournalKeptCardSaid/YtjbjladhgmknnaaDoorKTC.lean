/- Several parts of this proof in one file. No condition. -/
import Derived.Test.YtjbjladhgmknnaaDoorKTB
section
namespace Go.Proofs.Pure
open Go Go.RowKit Go.Proofs.Kit
set_option linter.unusedVariables false
set_option linter.unusedSimpArgs false
theorem open_view {d : disk_Disk} (h : Wf 0 d) (hD : DB d) {a : Nat} {L : List (List Int)} (v : View d a L) (hL : L.length ≤ 3000) (he : (encB L).length ≤ 100000) : journal_Open 4000 d = some (true, jj a L, 0, d) := by
  have hb := h.blocks
  have h3 := v.blocks
  unfold journal_Open disk_Disk_Blocks
  rw [Option.bind_some, if_neg (by simp; omega)]
  have r0 := rdB_read (show 0 ≤ 1000 by omega) h (q := 0) (by omega)
  rw [show ((0 : Nat) : Int) = 0 from rfl] at r0
  have l0 := rdB_len h (q := 0) (by omega)
  have ef : journal_filled 4000 ([] : List Int) 64 = some Z64 := filled_eq [] 64 (by simp) (by omega)
  have ec : cut? (rdB d 0) 0 64 = some (f64 d) := cut_pre (n := 64) (by omega)
  have lf : (f64 d).length = 64 := by unfold f64; rw [List.length_take]; omega
  rw [r0.1]
  simp only [Option.bind_some, ec, ef]
  rcases v.here with ⟨cz, q1, q2⟩ | ⟨cz, q1, q2, q3⟩
  · subst q1; subst q2
    rw [if_pos (decide_eq_true cz)]; rfl
  · rw [if_neg (by simpa using cz)]
    have ha := v.area
    have hh : hlf d ≤ 512 := by unfold hlf; omega
    have hd := mk_take (a : Int) ((encB L).length : Int)
    rw [← q1] at hd
    have g : ∀ (i : Nat) (x : Int), i < 9 → (hdr (a : Int) ((encB L).length : Int))[i]? = some x → at? (f64 d) (i : Int) = some x := fun i x hi hx => by
      have e := get_take hd i hi
      rw [hx] at e
      have hi2 : i < (f64 d).length := by omega
      rw [at_get hi2]
      rw [List.getElem?_eq_getElem hi2] at e
      exact e
    obtain ⟨n, hn⟩ : ∃ n, n = (encB L).length := ⟨_, rfl⟩
    rw [← hn] at g q1 q2 q3 he
    obtain ⟨k1, k2, k3⟩ := mark_eq (a := (a : Int)) (n := (n : Int)) (by omega) (by omega)
    have g4 := g 4 (a : Int) (by omega) rfl
    have g5 := g 5 ((n : Int) / 16777216) (by omega) rfl
    have g6 := g 6 ((n : Int) / 65536 % 256) (by omega) rfl
    have g7 := g 7 ((n : Int) / 256 % 256) (by omega) rfl
    have g8 := g 8 ((n : Int) % 256) (by omega) rfl
    have i5 : iadd .i64 4 1 = 5 := by decide
    have i6 : iadd .i64 4 2 = 6 := by decide
    have i7 : iadd .i64 4 3 = 7 := by decide
    have i8 : iadd .i64 4 4 = 8 := by decide
    rw [i5, i6, i7, i8]
    rw [show at? (f64 d) 4 = _ from g4, show at? (f64 d) 5 = _ from g5, show at? (f64 d) 6 = _ from g6, show at? (f64 d) 7 = _ from g7, show at? (f64 d) 8 = _ from g8]
    have w5 : IntKind.wrap .i64 ((n : Int) / 16777216) = (n : Int) / 16777216 := wi64 (by omega)
    have w6 : IntKind.wrap .i64 ((n : Int) / 65536 % 256) = (n : Int) / 65536 % 256 := wi64 (by omega)
    have w7 : IntKind.wrap .i64 ((n : Int) / 256 % 256) = (n : Int) / 256 % 256 := wi64 (by omega)
    have w8 : IntKind.wrap .i64 ((n : Int) % 256) = (n : Int) % 256 := wi64 (by omega)
    have wa : IntKind.wrap .i64 ((a : Int) % 2) = (a : Int) := by rw [wi64 (by omega)]; omega
    have en : ior .i64 (ior .i64 (ior .i64 (ishl .i64 ((n : Int) / 16777216) 24) (ishl .i64 ((n : Int) / 65536 % 256) 16)) (ishl .i64 ((n : Int) / 256 % 256) 8)) ((n : Int) % 256) = (n : Int) := by
      rw [num_eq _ _ _ _ (by omega) (by omega) (by omega) (by omega)]; omega
    simp only [Option.bind_some, w5, w6, w7, w8, and1 (show 0 ≤ (a : Int) ∧ (a : Int) < 256 by omega), wa, en]
    clear en w5 w6 w7 w8 wa i5 i6 i7 i8 g4 g5 g6 g7 g8
    rw [k1]
    simp only [Option.bind_some]
    rw [decide_eq_true q1.symm]
    simp only [Bool.not_true, beq_self_eq_true, if_true, blocks_eq hb (by omega : 1 ≤ d.firm.length), Option.bind_some, Bool.false_eq_true, if_false]
    have eh : imul .i64 ((hlf d : Nat) : Int) 256 = ((hlf d * 256 : Nat) : Int) := by rw [mul64 (by omega)]; omega
    have tn : decide ((n : Int) > ((hlf d * 256 : Nat) : Int)) = false := decide_eq_false (by omega)
    rw [eh, tn]
    simp only [Bool.false_eq_true, if_false]
    rw [jread_eq (show 0 ≤ 1000 by omega) h (by omega) _ ha rfl n q2, Option.bind_some, q3]
    unfold journal_records wire_NewReader
    rw [Option.bind_some]
    have hr := recs_enc L 4000 [] v.recs (by omega) (by omega) (by simp; omega)
    rw [hr, Option.bind_some]
    simp only [Bool.not_true, Bool.false_eq_true, if_false, List.nil_append]
    rfl
def loopK (acts : List caballaw13_Act) (n : Nat) (i : Int) (d : disk_Disk) (a : Nat) (L : List (List Int)) : Option Bool :=
  caballaw13_JournalKept.l1 4000 acts n i d.fuse d.dead (a : Int) (encB L) L L d.firm d.loose
theorem kept_l1 (acts : List caballaw13_Act) (hacts : ∀ x ∈ acts, ActOk x) : ∀ (m i n : Nat) (d : disk_Disk) (a : Nat) (L : List (List Int)), i + m = 12 → m < n → Live d a L → d.fuse = -1 → L.length ≤ 25 * i → (∀ t ∈ L, t.length ≤ 2000) → d.firm.length = 120 → loopK acts n (i : Int) d a L = some true := by
  have hlm : lim = 2147483648 := rfl
  intro m
  induction m with
  | zero =>
    intro i n d a L hi hm s hf hL1 hL2 hlen
    obtain ⟨n, rfl⟩ : ∃ q, n = q + 1 := ⟨n - 1, by omega⟩
    have e : decide ((i : Int) < 12) = false := decide_eq_false (by omega)
    unfold loopK
    rw [caballaw13_JournalKept.l1, e, ite_self, Option.bind_some, if_neg (by decide), caballaw13_JournalKept.j1, alive13]; rfl
  | succ m ih =>
    intro i n d a L hi hm s hf hL1 hL2 hlen
    obtain ⟨n, rfl⟩ : ∃ q, n = q + 1 := ⟨n - 1, by omega⟩
    have hnext : iadd .i64 (i : Int) 1 = ((i + 1 : Nat) : Int) := by rw [add64 (by omega)]; omega
    have e12 : decide ((i : Int) < 12) = true := decide_eq_true (by omega)
    unfold loopK
    rw [caballaw13_JournalKept.l1, e12]
    by_cases c : i < acts.length
    · have ok := hacts _ (List.getElem_mem c)
      generalize hx : acts[i] = x at ok
      rw [decide_eq_true (show (i : Int) < (acts.length : Int) by omega), if_pos rfl, Option.bind_some, if_pos rfl, at_get c, hx, Option.bind_some]
      obtain ⟨b, gb, gf⟩ := great_eq x.L
      rw [gb, Option.bind_some]
      cases b with
      | true =>
        rw [if_pos rfl, caballaw13_JournalKept.j2, hnext]
        exact ih (i + 1) n d a L (by omega) (by omega) s hf (by omega) hL2 hlen
      | false =>
        rw [if_neg (by decide)]
        obtain ⟨g1, g2⟩ := gf rfl
        have hnew : New x.L := ⟨g1, fun t ht => ⟨ok.texts t ht, g2 t ht⟩⟩
        have act : ∀ d : disk_Disk, Live d a L → d.fuse = -1 → d.firm.length = 120 → caballaw13_JournalKept.j3 4000 x L (i : Int) (caballaw13_JournalKept.l1 4000 acts n) d.fuse d.dead (a : Int) (encB L) L d.firm d.loose = some true := fun d s hf hlen => by
          have st : Stt d a L := ⟨s.view.recs, s.view.area, by omega, by omega, s.room, .inl s⟩
          obtain ⟨c, d', L', r1, _, r3, r4, r5, r6⟩ := append_both st (by omega) (fun t ht => by have := hL2 t ht; omega) hnew
          obtain ⟨f1, f2⟩ := r6 hf s.alive
          have lv : Live d' a L' := by
            rcases r3.how with q | q
            · exact q
            · have := q.dead; rw [f2] at this; cases this
          have fin : ∀ (c : Int), L'.length ≤ 25 * (i + 1) → (∀ t ∈ L', t.length ≤ 2000) → caballaw13_JournalKept.j4 4000 (c, jj a L', d') (i : Int) (caballaw13_JournalKept.l1 4000 acts n) L' = some true := fun c q1 q2 => by
            unfold caballaw13_JournalKept.j4
            have e3 : (⟨(), (jj a L').area, (jj a L').bytes, (jj a L').l⟩ : journal_Journal) = jj a L' := rfl
            have rr : journal_Journal_Records_w2 4000 (jj a L') d' = some L' := by
              unfold journal_Journal_Records_w2 slices_Clone_string_string
              rw [if_pos (by show 0 + L'.length ≤ lim; omega)]; rfl
            simp only [e3, rr, Option.bind_some, same_eq L' (by omega), Bool.not_true, Bool.false_eq_true, if_false]
            rw [caballaw13_JournalKept.j2, hnext]
            exact ih (i + 1) n d' a L' (by omega) (by omega) lv f1 (by omega) q2 (by omega)
          unfold caballaw13_JournalKept.j3
          have e1 : (⟨d.firm, d.loose, d.fuse, d.dead⟩ : disk_Disk) = d := rfl
          have e3 : (⟨(), (a : Int), encB L, L⟩ : journal_Journal) = jj a L := rfl
          rw [e1, e3, r1, Option.bind_some]
          rcases r5 with ⟨c0, e⟩ | ⟨c0, e⟩
          · subst c0; subst e
            simp only [beq_self_eq_true, if_true]
            rw [if_pos (by omega)]
            refine fin 0 (by rw [List.length_append]; omega) fun t ht => ?_
            rcases List.mem_append.1 ht with q | q
            · exact hL2 t q
            · exact g2 t q
          · subst e
            have : ¬ (c == (0 : Int)) = true := by simpa using c0
            simp only [this, if_false]
            exact fin c (by omega) hL2
        by_cases k3 : (irem x.Kind (4 : Int) == (3 : Int)) = true
        · rw [if_pos k3]
          have e1 : (⟨d.firm, d.loose, d.fuse, d.dead⟩ : disk_Disk) = d := rfl
          obtain ⟨c1, _, c3, _⟩ := crash_ok (show 0 ≤ 1000 by omega) d s.wf x.Keep ok.keep
          have es : sett (keepN x.Keep) 0 d.loose d.firm = d.firm := by rw [s.calm]; rfl
          rw [es] at c1 c3
          have v : View ⟨d.firm, [], -1, false⟩ a L := (s.view.still s.calm).of (-1) false
          have db : DB ⟨d.firm, [], -1, false⟩ := ⟨s.db.firm, fun w hw => (by cases hw)⟩
          have hk : (encB L).length ≤ 100000 := by
            have h1 := s.room
            have h2 : hlf d = 59 := by unfold hlf; omega
            omega
          have op := open_view c3 db v (by omega) hk
          rw [e1, c1, Option.bind_some, op, Option.bind_some, if_pos rfl, if_neg (show ¬ ((0 : Int) != 0) = true by decide)]
          exact act _ ⟨c3, db, rfl, rfl, v⟩ rfl hlen
        · rw [if_neg k3]
          exact act d s hf hlen
    · rw [decide_eq_false (show ¬ (i : Int) < (acts.length : Int) by omega), if_neg (by decide), Option.bind_some, if_neg (by decide), caballaw13_JournalKept.j1, alive13]; rfl
end Go.Proofs.Pure
end
section
namespace Go.Proofs.Pure
open Go Go.RowKit Go.Proofs.Kit
set_option linter.unusedVariables false
theorem JournalKept (x0 : (List caballaw13_Act)) (g0 : Fine (ksl k_caballaw13_Act) x0) : ∃ k, caballaw13_JournalKept k x0 = some true := by
  refine ⟨4000, ?_⟩
  obtain ⟨N, h1, h2, _, h4⟩ := new_ok (120 : Int)
  have hN : N = 120 := by have := h4 (by omega) (by omega); omega
  subst hN
  obtain ⟨w1, w2, w3⟩ := new_live (n := 120) (by omega) h1
  unfold caballaw13_JournalKept
  rw [alive13, Option.bind_some, if_neg (by decide), h2, Option.bind_some, open_view w1 w2 w3 (by simp) (by simp [encB]), Option.bind_some, if_pos rfl, if_neg (show ¬ ((0 : Int) != 0) = true by decide)]
  have := kept_l1 x0 (fun x hx => act_ok ((Fine.sl g0).2 x hx)) 12 0 4000 (newD 120) 0 [] (by omega) (by omega) ⟨w1, w2, rfl, rfl, w3⟩ rfl (by simp) (fun t ht => by cases ht) (List.length_replicate ..)
  rw [show ((0 : Nat) : Int) = 0 from rfl] at this
  exact this
end Go.Proofs.Pure
end
