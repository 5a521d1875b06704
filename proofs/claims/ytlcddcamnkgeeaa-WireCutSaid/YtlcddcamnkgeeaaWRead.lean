/- What is read: numbers, texts, keys, lists. No program in sight. -/
import Derived.Test.YtlcddcamnkgeeaaWItem
namespace Go.Proofs.Pure
open Go Go.RowKit Go.Proofs.Kit
set_option linter.unusedVariables false

def Byt (s : List Int) : Prop := ∀ b ∈ s, 0 ≤ b ∧ b < 256

/-- a number at a text's beginning: it, how many bytes it has, the error -/
def rd (acc : Int) (i : Nat) : List Int → Int × Int × Int
  | [] => (0, 0, 3)
  | b :: s => if (b = 128 ∧ i = 0) ∨ 4294967296 ≤ acc * 128 + b % 128 ∨ (i = 4 ∧ 128 ≤ b) then (0, 0, 4) else if b < 128 then (acc * 128 + b % 128, (i : Int) + 1, 0) else rd (acc * 128 + b % 128) (i + 1) s

theorem number_l1 (p : wire_Reader) (hs : Byt p.s) : ∀ (n i : Nat) (acc : Int), i ≤ 4 → 6 ≤ n + i → 0 ≤ acc ∧ acc < 4294967296 → wire_Reader_number.l1 4000 p n acc (i : Int) = some (rd acc i (p.s.drop i)) := by
  intro n
  induction n with
  | zero => intro i acc hi hn; omega
  | succ n ih =>
    intro i acc hi hn ha
    by_cases hil : i < p.s.length
    · have hb := hs _ (List.getElem_mem hil)
      have hd : p.s.drop i = p.s[i] :: p.s.drop (i + 1) := List.drop_eq_getElem_cons hil
      rw [wire_Reader_number.l1, if_pos (by simp; omega), at_get hil, hd]
      simp only [Option.bind_some]
      have e1 : iandn .u8 p.s[i] 128 = p.s[i] % 128 := andn128 hb
      have e2 : IntKind.wrap .u64 (p.s[i] % 128) = p.s[i] % 128 := wu64s (by omega)
      have e3 : ior .u64 (ishl .u64 acc 7) (p.s[i] % 128) = acc * 128 + p.s[i] % 128 := shl_or7 (by omega) (by omega)
      rw [e1, e2, e3]
      generalize hx : acc * 128 + p.s[i] % 128 = v
      have hv : 0 ≤ v ∧ v < 549755813888 := by omega
      have hadd : iadd .i64 (i : Int) 1 = (i : Int) + 1 := add64 (by omega)
      rw [rd, hx]
      by_cases c1 : p.s[i] = 128 ∧ i = 0
      · have t : (if p.s[i] == 128 then (i : Int) == 0 else false) = true := by rw [c1.1, c1.2]; rfl
        rw [if_pos t, t, if_pos (Or.inl c1)]; rfl
      · have c1' : ¬ ((if p.s[i] == 128 then (i : Int) == 0 else false) = true) := by
          intro h; split at h
          · rename_i h2; simp at h2 h; exact c1 ⟨h2, by omega⟩
          · cases h
        rw [if_neg c1']
        by_cases c2 : 4294967296 ≤ v
        · have t : decide (v ≥ 4294967296) = true := decide_eq_true c2
          rw [if_pos t, t, if_pos (Or.inr (Or.inl c2))]; rfl
        · have c2' : decide (v ≥ 4294967296) = false := by simp; omega
          have c2n : ¬ (decide (v ≥ 4294967296) = true) := by rw [c2']; decide
          rw [if_neg c2n]
          by_cases c3 : i = 4 ∧ 128 ≤ p.s[i]
          · have t : (if (i : Int) == 4 then decide (p.s[i] ≥ 128) else false) = true := by
              rw [show ((i : Int) == 4) = true by rw [c3.1]; rfl]; exact decide_eq_true c3.2
            rw [t, if_pos (Or.inr (Or.inr c3))]; rfl
          · have cn : ¬ ((p.s[i] = 128 ∧ i = 0) ∨ 4294967296 ≤ v ∨ (i = 4 ∧ 128 ≤ p.s[i])) := by
              rintro (h | h | h)
              · exact c1 h
              · exact c2 h
              · exact c3 h
            rw [if_neg cn]
            have c3' : (if (i : Int) == 4 then decide (p.s[i] ≥ 128) else false) = false := by
              split
              · rename_i h; simp at h ⊢; have : i = 4 := by omega
                exact Int.not_le.1 (fun h2 => c3 ⟨this, h2⟩)
              · rfl
            rw [c3']
            simp only [wire_Reader_number.j2, Bool.false_eq_true, if_false]
            by_cases c4 : p.s[i] < 128
            · rw [if_pos (by simpa using c4), if_pos c4, hadd, wu32s (by omega)]
            · rw [if_neg (by simpa using c4), if_neg c4, hadd]
              have hi4 : i ≠ 4 := fun h => c3 ⟨h, by omega⟩
              have := ih (i + 1) v (by omega) (by omega) (by omega)
              rw [show ((i : Int) + 1) = ((i + 1 : Nat) : Int) by omega]; exact this
    · rw [wire_Reader_number.l1, if_neg (by simp; omega), List.drop_eq_nil_of_le (by omega)]; rfl

theorem number_eq (p : wire_Reader) (hs : Byt p.s) : wire_Reader_number 4000 p = some (rd 0 0 p.s) := by
  have := number_l1 p hs 4000 0 0 (by omega) (by omega) (by omega)
  simpa [wire_Reader_number] using this

theorem rd_more {acc b : Int} {i : Nat} {s : List Int} (h1 : ¬ (b = 128 ∧ i = 0)) (h2 : 128 ≤ b) (h3 : acc * 128 + b % 128 < 4294967296) (h4 : i ≠ 4) : rd acc i (b :: s) = rd (acc * 128 + b % 128) (i + 1) s := by
  rw [rd, if_neg (by rintro (h | h | h); exact h1 h; omega; exact h4 h.1), if_neg (by omega)]
theorem rd_last {acc b : Int} {i : Nat} {s : List Int} (h2 : b < 128) (h0 : 0 ≤ b) (h3 : acc * 128 + b < 4294967296) : rd acc i (b :: s) = (acc * 128 + b, (i : Int) + 1, 0) := by
  have e : b % 128 = b := by omega
  rw [rd, e, if_neg (by rintro (h | h | h) <;> omega), if_pos h2]

/-- what was written of a number is read -/
theorem rd_enc (n : Int) (hn : 0 ≤ n ∧ n < 4294967296) (rest : List Int) : rd 0 0 (enc n ++ rest) = (n, ((enc n).length : Int), 0) := by
  unfold enc
  by_cases h1 : n < 128
  · rw [if_neg (by omega), if_neg (by omega), if_neg (by omega), if_neg (by omega)]
    simp only [List.nil_append, List.cons_append, List.length_cons, List.length_nil]
    rw [rd_last (by omega) (by omega) (by omega)]
    congr 1 <;> simp; omega
  by_cases h2 : n < 16384
  · rw [if_neg (by omega), if_neg (by omega), if_neg (by omega), if_pos (by omega)]
    simp only [List.nil_append, List.cons_append, List.length_cons, List.length_nil]
    rw [rd_more (by omega) (by omega) (by omega) (by omega), rd_last (by omega) (by omega) (by omega)]
    congr 1 <;> simp; omega
  by_cases h3 : n < 2097152
  · rw [if_neg (by omega), if_neg (by omega), if_pos (by omega), if_pos (by omega)]
    simp only [List.nil_append, List.cons_append, List.length_cons, List.length_nil]
    rw [rd_more (by omega) (by omega) (by omega) (by omega), rd_more (by omega) (by omega) (by omega) (by omega), rd_last (by omega) (by omega) (by omega)]
    congr 1 <;> simp; omega
  by_cases h4 : n < 268435456
  · rw [if_neg (by omega), if_pos (by omega), if_pos (by omega), if_pos (by omega)]
    simp only [List.nil_append, List.cons_append, List.length_cons, List.length_nil]
    rw [rd_more (by omega) (by omega) (by omega) (by omega), rd_more (by omega) (by omega) (by omega) (by omega), rd_more (by omega) (by omega) (by omega) (by omega), rd_last (by omega) (by omega) (by omega)]
    congr 1 <;> simp; omega
  · rw [if_pos (by omega), if_pos (by omega), if_pos (by omega), if_pos (by omega)]
    simp only [List.nil_append, List.cons_append, List.length_cons, List.length_nil]
    rw [rd_more (by omega) (by omega) (by omega) (by omega), rd_more (by omega) (by omega) (by omega) (by omega), rd_more (by omega) (by omega) (by omega) (by omega), rd_more (by omega) (by omega) (by omega) (by omega), rd_last (by omega) (by omega) (by omega)]
    congr 1 <;> simp; omega

theorem rd_inv {acc b n m : Int} {i : Nat} {s : List Int} (h : rd acc i (b :: s) = (n, m, 0)) : ¬ (b = 128 ∧ i = 0) ∧ acc * 128 + b % 128 < 4294967296 ∧ ((b < 128 ∧ n = acc * 128 + b % 128 ∧ m = (i : Int) + 1) ∨ (128 ≤ b ∧ i ≠ 4 ∧ rd (acc * 128 + b % 128) (i + 1) s = (n, m, 0))) := by
  rw [rd] at h
  by_cases c : (b = 128 ∧ i = 0) ∨ 4294967296 ≤ acc * 128 + b % 128 ∨ (i = 4 ∧ 128 ≤ b)
  · rw [if_pos c] at h; cases h
  · rw [if_neg c] at h
    refine ⟨fun q => c (.inl q), by omega, ?_⟩
    by_cases c2 : b < 128
    · rw [if_pos c2] at h; cases h; exact .inl ⟨c2, rfl, rfl⟩
    · rw [if_neg c2] at h; exact .inr ⟨by omega, fun q => c (.inr (.inr ⟨q, by omega⟩)), h⟩

/-- what is read as a number was written so -/
theorem rd_ok {s : List Int} {n m : Int} (hs : Byt s) (h : rd 0 0 s = (n, m, 0)) : 0 ≤ n ∧ n < 4294967296 ∧ m = ((enc n).length : Int) ∧ ∃ rest, s = enc n ++ rest := by
  match s, hs, h with
  | [], _, h => cases h
  | b0 :: s0, hs, h =>
    have g0 := hs b0 (by simp)
    obtain ⟨a0, z0, t0 | ⟨u0, _, h⟩⟩ := rd_inv h
    · obtain ⟨t1, rfl, rfl⟩ := t0
      have e : enc (0 * 128 + b0 % 128) = [b0] := by unfold enc; rw [if_neg (by omega), if_neg (by omega), if_neg (by omega), if_neg (by omega)]; simp; omega
      rw [e]; exact ⟨by omega, by omega, by simp, s0, rfl⟩
    match s0, hs, h with
    | [], _, h => cases h
    | b1 :: s1, hs, h =>
      have g1 := hs b1 (by simp)
      obtain ⟨_, z1, t0 | ⟨u1, _, h⟩⟩ := rd_inv h
      · obtain ⟨t1, rfl, rfl⟩ := t0
        have e : enc ((0 * 128 + b0 % 128) * 128 + b1 % 128) = [b0, b1] := by unfold enc; rw [if_neg (by omega), if_neg (by omega), if_neg (by omega), if_pos (by omega)]; simp; omega
        rw [e]; exact ⟨by omega, by omega, by simp, s1, rfl⟩
      match s1, hs, h with
      | [], _, h => cases h
      | b2 :: s2, hs, h =>
        have g2 := hs b2 (by simp)
        obtain ⟨_, z2, t0 | ⟨u2, _, h⟩⟩ := rd_inv h
        · obtain ⟨t1, rfl, rfl⟩ := t0
          have e : enc (((0 * 128 + b0 % 128) * 128 + b1 % 128) * 128 + b2 % 128) = [b0, b1, b2] := by unfold enc; rw [if_neg (by omega), if_neg (by omega), if_pos (by omega), if_pos (by omega)]; simp; omega
          rw [e]; exact ⟨by omega, by omega, by simp, s2, rfl⟩
        match s2, hs, h with
        | [], _, h => cases h
        | b3 :: s3, hs, h =>
          have g3 := hs b3 (by simp)
          obtain ⟨_, z3, t0 | ⟨u3, _, h⟩⟩ := rd_inv h
          · obtain ⟨t1, rfl, rfl⟩ := t0
            have e : enc ((((0 * 128 + b0 % 128) * 128 + b1 % 128) * 128 + b2 % 128) * 128 + b3 % 128) = [b0, b1, b2, b3] := by unfold enc; rw [if_neg (by omega), if_pos (by omega), if_pos (by omega), if_pos (by omega)]; simp; omega
            rw [e]; exact ⟨by omega, by omega, by simp, s3, rfl⟩
          match s3, hs, h with
          | [], _, h => cases h
          | b4 :: s4, hs, h =>
            have g4 := hs b4 (by simp)
            obtain ⟨_, z4, t0 | ⟨u4, w4, h⟩⟩ := rd_inv h
            · obtain ⟨t1, rfl, rfl⟩ := t0
              have e : enc (((((0 * 128 + b0 % 128) * 128 + b1 % 128) * 128 + b2 % 128) * 128 + b3 % 128) * 128 + b4 % 128) = [b0, b1, b2, b3, b4] := by unfold enc; rw [if_pos (by omega), if_pos (by omega), if_pos (by omega), if_pos (by omega)]; simp; omega
              rw [e]; exact ⟨by omega, by omega, by simp, s4, rfl⟩
            · exact absurd rfl w4

/-- with an error no bytes are taken; the errors -/
theorem rd_err (s : List Int) : ∀ (acc : Int) (i : Nat), (rd acc i s).2.2 = 0 ∨ ((rd acc i s).1 = 0 ∧ (rd acc i s).2.1 = 0 ∧ ((rd acc i s).2.2 = 3 ∨ (rd acc i s).2.2 = 4)) := by
  induction s with
  | nil => intro acc i; exact .inr ⟨rfl, rfl, .inl rfl⟩
  | cons b s ih =>
    intro acc i
    rw [rd]
    split
    · exact .inr ⟨rfl, rfl, .inr rfl⟩
    · split
      · exact .inl rfl
      · exact ih _ _

/-- what is cut off lacks bytes -/
theorem rd_short {s : List Int} (h1 : ∀ b ∈ s, 128 ≤ b ∧ b < 256) (h2 : s.headD 0 ≠ 128) (h3 : s.length ≤ 4) : rd 0 0 s = (0, 0, 3) := by
  match s, h1, h2, h3 with
  | [], _, _, _ => rfl
  | [b0], h1, h2, _ =>
    have g0 := h1 b0 (by simp)
    simp at h2
    rw [rd_more (by omega) (by omega) (by omega) (by omega)]; rfl
  | [b0, b1], h1, h2, _ =>
    have g0 := h1 b0 (by simp); have g1 := h1 b1 (by simp)
    simp at h2
    rw [rd_more (by omega) (by omega) (by omega) (by omega), rd_more (by omega) (by omega) (by omega) (by omega)]; rfl
  | [b0, b1, b2], h1, h2, _ =>
    have g0 := h1 b0 (by simp); have g1 := h1 b1 (by simp); have g2 := h1 b2 (by simp)
    simp at h2
    rw [rd_more (by omega) (by omega) (by omega) (by omega), rd_more (by omega) (by omega) (by omega) (by omega), rd_more (by omega) (by omega) (by omega) (by omega)]; rfl
  | [b0, b1, b2, b3], h1, h2, _ =>
    have g0 := h1 b0 (by simp); have g1 := h1 b1 (by simp); have g2 := h1 b2 (by simp); have g3 := h1 b3 (by simp)
    simp at h2
    rw [rd_more (by omega) (by omega) (by omega) (by omega), rd_more (by omega) (by omega) (by omega) (by omega), rd_more (by omega) (by omega) (by omega) (by omega), rd_more (by omega) (by omega) (by omega) (by omega)]; rfl
  | _ :: _ :: _ :: _ :: _ :: _, _, _, h3 => simp at h3

theorem enc_byt (n : Int) : Byt (enc n) := by
  intro b hb
  unfold enc at hb
  simp only [List.mem_append] at hb
  rcases hb with (((hb | hb) | hb) | hb) | hb
  all_goals first
    | (split at hb <;> simp at hb <;> omega)
    | (simp at hb; omega)

/-- a number's bytes but the last one, or fewer -/
theorem enc_cut (n : Int) (hn : 0 ≤ n ∧ n < 4294967296) (j : Nat) (hj : j < (enc n).length) : rd 0 0 ((enc n).take j) = (0, 0, 3) := by
  have key : ∀ pre : List Int, enc n = pre ++ [n % 128] → (∀ b ∈ pre, 128 ≤ b ∧ b < 256) → pre.headD 0 ≠ 128 → pre.length ≤ 4 → rd 0 0 ((enc n).take j) = (0, 0, 3) := by
    intro pre he h1 h2 h3
    have hlen : (enc n).length = pre.length + 1 := by rw [he]; simp
    have ht : (enc n).take j = pre.take j := by rw [he, List.take_append_of_le_length (by omega)]
    rw [ht]
    refine rd_short (fun b hb => h1 b (List.mem_of_mem_take hb)) ?_ (by rw [List.length_take]; omega)
    cases pre with
    | nil => simp
    | cons b pre =>
      cases j with
      | zero => simp
      | succ j => simpa using h2
  unfold enc at key hj ⊢
  by_cases h1 : n < 128
  · rw [if_neg (by omega), if_neg (by omega), if_neg (by omega), if_neg (by omega)] at key hj ⊢
    exact key [] rfl (by simp) (by simp) (by simp)
  by_cases h2 : n < 16384
  · rw [if_neg (by omega), if_neg (by omega), if_neg (by omega), if_pos (by omega)] at key hj ⊢
    exact key [n / 128 % 128 + 128] rfl (by simp; omega) (by simp; omega) (by simp)
  by_cases h3 : n < 2097152
  · rw [if_neg (by omega), if_neg (by omega), if_pos (by omega), if_pos (by omega)] at key hj ⊢
    exact key [n / 16384 % 128 + 128, n / 128 % 128 + 128] rfl (by simp; omega) (by simp; omega) (by simp)
  by_cases h4 : n < 268435456
  · rw [if_neg (by omega), if_pos (by omega), if_pos (by omega), if_pos (by omega)] at key hj ⊢
    exact key [n / 2097152 % 128 + 128, n / 16384 % 128 + 128, n / 128 % 128 + 128] rfl (by simp; omega) (by simp; omega) (by simp)
  · rw [if_pos (by omega), if_pos (by omega), if_pos (by omega), if_pos (by omega)] at key hj ⊢
    exact key [n / 268435456 % 128 + 128, n / 2097152 % 128 + 128, n / 16384 % 128 + 128, n / 128 % 128 + 128] rfl (by simp; omega) (by simp; omega) (by simp)

/-! #### the reader -/

theorem Number_def (p : wire_Reader) (hs : Byt p.s) (h0 : p.err = 0) (hm : 0 ≤ (rd 0 0 p.s).2.1 ∧ (rd 0 0 p.s).2.1 ≤ p.s.length) : wire_Reader_Number 4000 p = some ((rd 0 0 p.s).1, ⟨p.s.drop (rd 0 0 p.s).2.1.toNat, (rd 0 0 p.s).2.2⟩) := by
  unfold wire_Reader_Number
  rw [if_neg (by simp [h0]), number_eq p hs]
  simp only [Option.bind_some]
  rw [cut_ok ⟨hm.1, by omega, by omega⟩]
  simp only [Option.bind_some]
  congr 2
  simp
theorem Number_stuck (p : wire_Reader) (h0 : p.err ≠ 0) : wire_Reader_Number 4000 p = some (0, p) := by
  unfold wire_Reader_Number; rw [if_pos (by simpa using h0)]
theorem Number_enc (n : Int) (hn : 0 ≤ n ∧ n < 4294967296) (rest : List Int) (hr : Byt rest) : wire_Reader_Number 4000 ⟨enc n ++ rest, 0⟩ = some (n, ⟨rest, 0⟩) := by
  have e := rd_enc n hn rest
  rw [Number_def ⟨enc n ++ rest, 0⟩ (fun b hb => by rcases List.mem_append.1 hb with h | h; exact enc_byt n b h; exact hr b h) rfl (by rw [e]; simp; omega)]
  rw [e]; simp
/-- a number is read, or isn't -/
theorem Number_any (s : List Int) (hs : Byt s) : (∃ n rest, 0 ≤ n ∧ n < 4294967296 ∧ s = enc n ++ rest ∧ wire_Reader_Number 4000 ⟨s, 0⟩ = some (n, ⟨rest, 0⟩)) ∨ ∃ e, (e = 3 ∨ e = 4) ∧ wire_Reader_Number 4000 ⟨s, 0⟩ = some (0, ⟨s, e⟩) := by
  rcases rd_err s 0 0 with h | ⟨h1, h2, h3⟩
  · obtain ⟨a, b, c, rest, hr⟩ := rd_ok (n := (rd 0 0 s).1) (m := (rd 0 0 s).2.1) hs (Prod.ext rfl (Prod.ext rfl h))
    refine .inl ⟨_, rest, a, b, hr, ?_⟩
    have hrest : Byt rest := fun x hx => hs x (by rw [hr]; simp [hx])
    have := Number_enc (rd 0 0 s).1 ⟨a, b⟩ rest hrest
    rw [← hr] at this; exact this
  · refine .inr ⟨(rd 0 0 s).2.2, h3, ?_⟩
    rw [Number_def ⟨s, 0⟩ hs rfl (by rw [h2]; simp), h1, h2]
    simp

theorem count_enc (n most : Int) (hn : 0 ≤ n ∧ n < 4294967296) (hm : n ≤ most) (rest : List Int) (hr : Byt rest) : wire_Reader_count 4000 ⟨enc n ++ rest, 0⟩ most = some (n, ⟨rest, 0⟩) := by
  unfold wire_Reader_count
  rw [Number_enc n hn rest hr]
  simp only [Option.bind_some]
  rw [wi64 (by omega)]
  have : decide (n > if (0 : Int) > most then 0 else most) = false := by simp; split <;> omega
  simp [this]
theorem count_stuck (p : wire_Reader) (most : Int) (h0 : p.err ≠ 0) : wire_Reader_count 4000 p most = some (0, p) := by
  unfold wire_Reader_count
  rw [Number_stuck p h0]
  simp only [Option.bind_some]
  rw [wi64 (by omega)]
  simp [h0]
/-- how many there are is read, or isn't: then what was left is left -/
theorem count_any (s : List Int) (most : Int) (hs : Byt s) (hm : 0 ≤ most) : (∃ n rest, 0 ≤ n ∧ n ≤ most ∧ n < 4294967296 ∧ s = enc n ++ rest ∧ wire_Reader_count 4000 ⟨s, 0⟩ most = some (n, ⟨rest, 0⟩)) ∨ ∃ e, (e = 3 ∨ e = 4 ∨ e = 5) ∧ wire_Reader_count 4000 ⟨s, 0⟩ most = some (0, ⟨s, e⟩) := by
  rcases Number_any s hs with ⟨n, rest, h1, h2, h3, h4⟩ | ⟨e, h1, h2⟩
  · by_cases hn : n ≤ most
    · refine .inl ⟨n, rest, h1, hn, h2, h3, ?_⟩
      subst h3
      exact count_enc n most ⟨h1, h2⟩ hn rest (fun x hx => hs x (by simp [hx]))
    · refine .inr ⟨5, by simp, ?_⟩
      unfold wire_Reader_count
      rw [h4]
      simp only [Option.bind_some]
      rw [wi64 (by omega)]
      have : decide (n > if (0 : Int) > most then 0 else most) = true := by simp; split <;> omega
      simp [this]
  · refine .inr ⟨e, by rcases h1 with h | h <;> simp [h], ?_⟩
    unfold wire_Reader_count
    rw [h2]
    simp only [Option.bind_some]
    rw [wi64 (by omega)]
    rcases h1 with h | h <;> simp [h]

theorem take_ok (s : List Int) (n : Nat) (h : n ≤ s.length) (hn : s.length < 9223372036854775808) : wire_Reader_take 4000 ⟨s, 0⟩ (n : Int) = some (s.take n, ⟨s.drop n, 0⟩) := by
  unfold wire_Reader_take
  have : decide ((n : Int) > (s.length : Int)) = false := by simp; omega
  simp only [beq_self_eq_true, if_true, this, Option.bind_some, Bool.false_eq_true, if_false, wire_Reader_take.j1, cut_pre h, cut_suf h]
  simp
theorem take_short (s : List Int) (n : Int) (h : (s.length : Int) < n) : wire_Reader_take 4000 ⟨s, 0⟩ n = some ([], ⟨s, 3⟩) := by
  unfold wire_Reader_take
  have : decide (n > (s.length : Int)) = true := by simp; omega
  simp [this, wire_Reader_take.j1]
theorem take_stuck (p : wire_Reader) (n : Int) (h0 : p.err ≠ 0) : wire_Reader_take 4000 p n = some ([], p) := by
  unfold wire_Reader_take
  simp [h0, wire_Reader_take.j1]

theorem Text_enc (t rest : List Int) (most : Int) (ht : t.length < 100000) (hm : (t.length : Int) ≤ most) (h1 : Byt t) (h2 : Byt rest) (hn : rest.length < 1000000000) : wire_Reader_Text 4000 ⟨encT t ++ rest, 0⟩ most = some (t, ⟨rest, 0⟩) := by
  unfold wire_Reader_Text encT
  rw [List.append_assoc, count_enc _ most (by omega) hm (t ++ rest) (fun b hb => by rcases List.mem_append.1 hb with h | h; exact h1 b h; exact h2 b h)]
  simp only [Option.bind_some]
  rw [take_ok (t ++ rest) t.length (by simp) (by simp; omega)]
  simp [wire_Reader_Text.j1]
theorem Text_stuck (p : wire_Reader) (most : Int) (h0 : p.err ≠ 0) : wire_Reader_Text 4000 p most = some ([], p) := by
  unfold wire_Reader_Text
  rw [count_stuck p most h0]
  simp only [Option.bind_some]
  rw [take_stuck p _ h0]
  simp [h0, wire_Reader_Text.j1]
theorem Text_any (s : List Int) (most : Int) (hs : Byt s) (hm : 0 ≤ most ∧ most < 4294967296) (hn : s.length < 1000000000) : (∃ t rest, (t.length : Int) ≤ most ∧ Byt t ∧ s = encT t ++ rest ∧ wire_Reader_Text 4000 ⟨s, 0⟩ most = some (t, ⟨rest, 0⟩)) ∨ ∃ e, (e = 3 ∨ e = 4 ∨ e = 5) ∧ wire_Reader_Text 4000 ⟨s, 0⟩ most = some ([], ⟨s, e⟩) := by
  rcases count_any s most hs hm.1 with ⟨n, rest, h1, h2, h3, h4, h5⟩ | ⟨e, h1, h2⟩
  · by_cases hl : n ≤ rest.length
    · obtain ⟨m, rfl⟩ : ∃ m : Nat, n = m := ⟨n.toNat, by omega⟩
      have hlen : (rest.take m).length = m := by rw [List.length_take]; omega
      have hrl : rest.length ≤ s.length := by rw [h4]; simp
      refine .inl ⟨rest.take m, rest.drop m, by rw [hlen]; exact h2, fun b hb => hs b (by rw [h4]; simp [List.mem_of_mem_take hb]), ?_, ?_⟩
      · unfold encT; rw [hlen, List.append_assoc, List.take_append_drop]; exact h4
      · unfold wire_Reader_Text
        rw [h5]
        simp only [Option.bind_some]
        rw [take_ok rest m (by omega) (by omega)]
        simp [wire_Reader_Text.j1]
    · refine .inr ⟨3, by simp, ?_⟩
      unfold wire_Reader_Text
      rw [h5]
      simp only [Option.bind_some]
      rw [take_short rest n (by omega)]
      simp [wire_Reader_Text.j1]
  · refine .inr ⟨e, h1, ?_⟩
    have he : e ≠ 0 := by rcases h1 with h | h | h <;> simp [h]
    unfold wire_Reader_Text
    rw [h2]
    simp only [Option.bind_some]
    rw [take_stuck _ _ he]
    simp [he, wire_Reader_Text.j1]

theorem Key_ok (key rest : List Int) (hk : key.length = 32) (hn : rest.length < 1000000000) : wire_Reader_Key 4000 ⟨key ++ rest, 0⟩ = some (key, ⟨rest, 0⟩) := by
  unfold wire_Reader_Key
  have := take_ok (key ++ rest) 32 (by simp; omega) (by simp; omega)
  rw [show ((32 : Nat) : Int) = 32 from rfl] at this
  rw [this]
  simp only [Option.bind_some]
  have e1 : (key ++ rest).take 32 = key := by rw [List.take_append_of_le_length (by omega), List.take_of_length_le (by omega)]
  have e2 : (key ++ rest).drop 32 = rest := by rw [List.drop_append_of_le_length (by omega), List.drop_eq_nil_of_le (by omega), List.nil_append]
  rw [e1, e2, if_pos (by simp [hk])]
  simp [hk]
theorem Key_short (s : List Int) (h : s.length < 32) : wire_Reader_Key 4000 ⟨s, 0⟩ = some (List.replicate 32 0, ⟨s, 3⟩) := by
  unfold wire_Reader_Key
  rw [take_short s 32 (by omega)]
  simp
theorem Key_stuck (p : wire_Reader) (h0 : p.err ≠ 0) : wire_Reader_Key 4000 p = some (List.replicate 32 0, p) := by
  unfold wire_Reader_Key
  rw [take_stuck p 32 h0]
  simp

end Go.Proofs.Pure
