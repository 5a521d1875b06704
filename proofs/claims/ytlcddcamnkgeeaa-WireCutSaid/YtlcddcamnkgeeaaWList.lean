/- Lists of keys and of numbers, read; the bytes of items. No program in sight. -/
import Derived.Test.YtlcddcamnkgeeaaWRead
namespace Go.Proofs.Pure
open Go Go.RowKit Go.Proofs.Kit
set_option linter.unusedVariables false

theorem byt_append {a b : List Int} (h : Byt a) (g : Byt b) : Byt (a ++ b) := fun x hx => by rcases List.mem_append.1 hx with q | q; exact h x q; exact g x q
theorem byt_left {a b : List Int} (h : Byt (a ++ b)) : Byt a := fun x hx => h x (by simp [hx])
theorem byt_right {a b : List Int} (h : Byt (a ++ b)) : Byt b := fun x hx => h x (by simp [hx])
theorem encs_byt (l : List Int) : Byt (encs l) := by
  induction l with
  | nil => intro b hb; cases hb
  | cons x l ih => rw [encs_cons]; exact byt_append (enc_byt x) ih

/-- n keys are read, or they aren't -/
theorem keys_any (p : wire_Reader) (n : Int) (hn : 0 ≤ n ∧ n ≤ 3000) (x1 : Int × wire_Reader) (hx : x1.1 = n) : ∀ (m i : Nat) (s : List Int) (acc : List (List Int)) (f : Nat), (i : Int) + m = n → m < f → acc.length = i → s.length < 1000000 →
    (∃ keys rest, keys.length = m ∧ Key32 keys ∧ s = keys.flatten ++ rest ∧ wire_list_api_Key_wire_Reader_Key.l1 4000 x1 p f (i : Int) ⟨s, 0⟩ acc = some (acc ++ keys, ⟨rest, 0⟩)) ∨
    wire_list_api_Key_wire_Reader_Key.l1 4000 x1 p f (i : Int) ⟨s, 0⟩ acc = some ([], ⟨p.s, 3⟩) := by
  have hL : (1000000 : Nat) ≤ lim := by unfold lim; omega
  intro m
  induction m with
  | zero =>
    intro i s acc f hi hf ha hs
    obtain ⟨f, rfl⟩ : ∃ q, f = q + 1 := ⟨f - 1, by omega⟩
    refine .inl ⟨[], s, rfl, fun x hx => (by cases hx), rfl, ?_⟩
    rw [wire_list_api_Key_wire_Reader_Key.l1, hx, if_neg (by simp; omega)]
    simp [wire_list_api_Key_wire_Reader_Key.j1]
  | succ m ih =>
    intro i s acc f hi hf ha hs
    obtain ⟨f, rfl⟩ : ∃ q, f = q + 1 := ⟨f - 1, by omega⟩
    rw [wire_list_api_Key_wire_Reader_Key.l1, hx, if_pos (by simp; omega)]
    by_cases hl : s.length < 32
    · right
      rw [Key_short s hl]
      simp
    · have e : s = s.take 32 ++ s.drop 32 := (List.take_append_drop 32 s).symm
      have hk : (s.take 32).length = 32 := by rw [List.length_take]; omega
      have hd : (s.drop 32).length + 32 = s.length := by rw [List.length_drop]; omega
      have hkey := Key_ok (s.take 32) (s.drop 32) hk (by omega)
      rw [← e] at hkey
      rw [hkey]
      simp only [Option.bind_some]
      rw [if_neg (by simp), if_pos (by simp; omega), add64 (by omega), show ((i : Int) + 1) = ((i + 1 : Nat) : Int) by omega]
      rcases ih (i + 1) (s.drop 32) (acc ++ [s.take 32]) f (by omega) (by omega) (by simp [ha]) (by omega) with ⟨keys, rest, h1, h2, h3, h4⟩ | h
      · refine .inl ⟨s.take 32 :: keys, rest, by simp [h1], fun x hx => ?_, ?_, ?_⟩
        · rcases List.mem_cons.1 hx with rfl | hx
          · exact hk
          · exact h2 x hx
        · rw [List.flatten_cons, List.append_assoc, ← h3]; exact e
        · rw [h4]; simp
      · exact .inr h

theorem keylist_any (s : List Int) (most : Int) (hs : Byt s) (hm : 0 ≤ most ∧ most ≤ 3000) (hn : s.length < 1000000) :
    (∃ keys rest, (keys.length : Int) ≤ most ∧ Key32 keys ∧ s = enc (keys.length : Int) ++ keys.flatten ++ rest ∧ wire_list_api_Key_wire_Reader_Key 4000 ⟨s, 0⟩ most = some (keys, ⟨rest, 0⟩)) ∨ ∃ e, (e = 3 ∨ e = 4 ∨ e = 5) ∧ wire_list_api_Key_wire_Reader_Key 4000 ⟨s, 0⟩ most = some ([], ⟨s, e⟩) := by
  unfold wire_list_api_Key_wire_Reader_Key
  rcases count_any s most hs hm.1 with ⟨n, rest, h1, h2, h3, h4, h5⟩ | ⟨e, h1, h2⟩
  · rw [h5]
    simp only [Option.bind_some]
    obtain ⟨m, rfl⟩ : ∃ m : Nat, n = m := ⟨n.toNat, by omega⟩
    have hrl : rest.length ≤ s.length := by rw [h4]; simp
    rcases keys_any ⟨s, 0⟩ m (by omega) ((m : Int), ⟨rest, 0⟩) rfl m 0 rest [] 4000 (by omega) (by omega) rfl (by omega) with ⟨keys, r2, a1, a2, a3, a4⟩ | a
    · refine .inl ⟨keys, r2, by omega, a2, ?_, by simpa using a4⟩
      rw [a1, h4, a3, List.append_assoc]
    · exact .inr ⟨3, by simp, by simpa using a⟩
  · rw [h2]
    simp only [Option.bind_some]
    refine .inr ⟨e, h1, ?_⟩
    rw [wire_list_api_Key_wire_Reader_Key.l1, if_neg (by simp)]
    rfl
theorem keylist_enc (keys : List (List Int)) (rest : List Int) (most : Int) (hk : Key32 keys) (hm : (keys.length : Int) ≤ most ∧ most ≤ 3000) (hs : Byt (keys.flatten ++ rest)) (hn : (enc (keys.length : Int) ++ keys.flatten ++ rest).length < 1000000) :
    wire_list_api_Key_wire_Reader_Key 4000 ⟨enc (keys.length : Int) ++ keys.flatten ++ rest, 0⟩ most = some (keys, ⟨rest, 0⟩) := by
  unfold wire_list_api_Key_wire_Reader_Key
  rw [List.append_assoc, count_enc _ most (by omega) hm.1 _ hs]
  simp only [Option.bind_some]
  have hlen : (keys.flatten ++ rest).length < 1000000 := by rw [List.append_assoc, List.length_append] at hn; omega
  have hfl := flat_len hk
  rcases keys_any ⟨enc (keys.length : Int) ++ (keys.flatten ++ rest), 0⟩ (keys.length : Int) (by omega) ((keys.length : Int), ⟨keys.flatten ++ rest, 0⟩) rfl keys.length 0 (keys.flatten ++ rest) [] 4000 (by omega) (by omega) rfl hlen with ⟨k2, r2, a1, a2, a3, a4⟩ | a
  · have hfl2 := flat_len a2
    have e1 : keys.flatten = k2.flatten ∧ rest = r2 := List.append_inj a3 (by rw [hfl, hfl2, a1])
    have e2 : ∀ (a b : List (List Int)), Key32 a → Key32 b → a.length = b.length → a.flatten = b.flatten → a = b := by
      intro a
      induction a with
      | nil => intro b _ _ hl _; cases b with | nil => rfl | cons _ _ => simp at hl
      | cons x a ih =>
        intro b ha hb hl he
        cases b with
        | nil => simp at hl
        | cons y b =>
          rw [List.flatten_cons, List.flatten_cons] at he
          obtain ⟨q1, q2⟩ := List.append_inj he (by rw [ha x (by simp), hb y (by simp)])
          rw [q1, ih b (fun z hz => ha z (by simp [hz])) (fun z hz => hb z (by simp [hz])) (by simpa using hl) q2]
    have e3 := e2 keys k2 hk a2 a1.symm e1.1
    rw [← e3, ← e1.2] at a4
    simpa using a4
  · exfalso
    -- the keys are there
    have key : ∀ (m i : Nat) (l : List (List Int)) (acc : List (List Int)) (f : Nat), l.length = m → Key32 l → (i : Int) + m = keys.length → m < f → acc.length = i → (l.flatten ++ rest).length < 1000000 →
        wire_list_api_Key_wire_Reader_Key.l1 4000 ((keys.length : Int), ⟨keys.flatten ++ rest, 0⟩) ⟨enc (keys.length : Int) ++ (keys.flatten ++ rest), 0⟩ f (i : Int) ⟨l.flatten ++ rest, 0⟩ acc = some (acc ++ l, ⟨rest, 0⟩) := by
      have hL : (1000000 : Nat) ≤ lim := by unfold lim; omega
      intro m
      induction m with
      | zero =>
        intro i l acc f hl hk hi hf ha hlen
        obtain ⟨f, rfl⟩ : ∃ q, f = q + 1 := ⟨f - 1, by omega⟩
        have : l = [] := List.eq_nil_of_length_eq_zero hl
        subst this
        rw [wire_list_api_Key_wire_Reader_Key.l1, if_neg (by simp; omega)]
        simp [wire_list_api_Key_wire_Reader_Key.j1]
      | succ m ih =>
        intro i l acc f hl hk hi hf ha hlen
        obtain ⟨f, rfl⟩ : ∃ q, f = q + 1 := ⟨f - 1, by omega⟩
        cases l with
        | nil => simp at hl
        | cons x l =>
          have hx := hk x (by simp)
          have hlen2 : (l.flatten ++ rest).length < 1000000 := by rw [List.flatten_cons, List.append_assoc, List.length_append] at hlen; omega
          rw [wire_list_api_Key_wire_Reader_Key.l1, if_pos (by simp; omega), List.flatten_cons, List.append_assoc, Key_ok x (l.flatten ++ rest) hx (by omega)]
          simp only [Option.bind_some]
          rw [if_neg (by simp), if_pos (by simp; omega), add64 (by omega), show ((i : Int) + 1) = ((i + 1 : Nat) : Int) by omega, ih (i + 1) l (acc ++ [x]) f (by simpa using hl) (fun z hz => hk z (by simp [hz])) (by omega) (by omega) (by simp [ha]) hlen2]
          simp
    have := key keys.length 0 keys [] 4000 rfl hk (by omega) (by omega) rfl hlen
    rw [show ((0 : Nat) : Int) = 0 from rfl] at this a
    rw [this] at a
    injection a with a
    injection a with _ a
    injection a with _ a
    cases a
theorem keylist_stuck (p : wire_Reader) (most : Int) (h0 : p.err ≠ 0) : wire_list_api_Key_wire_Reader_Key 4000 p most = some ([], p) := by
  unfold wire_list_api_Key_wire_Reader_Key
  rw [count_stuck p most h0]
  simp only [Option.bind_some]
  rw [wire_list_api_Key_wire_Reader_Key.l1, if_neg (by simp)]
  rfl

/-- n numbers are read, or they aren't -/
theorem nums_any (p : wire_Reader) (n : Int) (hn : 0 ≤ n ∧ n ≤ 3000) (x1 : Int × wire_Reader) (hx : x1.1 = n) : ∀ (m i : Nat) (s : List Int) (acc : List Int) (f : Nat), (i : Int) + m = n → m < f → acc.length = i → Byt s →
    (∃ l rest, l.length = m ∧ U32 l ∧ s = encs l ++ rest ∧ wire_list_uint32_wire_Reader_Number.l1 4000 x1 p f (i : Int) ⟨s, 0⟩ acc = some (acc ++ l, ⟨rest, 0⟩)) ∨
    ∃ e, (e = 3 ∨ e = 4) ∧ wire_list_uint32_wire_Reader_Number.l1 4000 x1 p f (i : Int) ⟨s, 0⟩ acc = some ([], ⟨p.s, e⟩) := by
  have hL : (1000000 : Nat) ≤ lim := by unfold lim; omega
  intro m
  induction m with
  | zero =>
    intro i s acc f hi hf ha hs
    obtain ⟨f, rfl⟩ : ∃ q, f = q + 1 := ⟨f - 1, by omega⟩
    refine .inl ⟨[], s, rfl, fun x hx => (by cases hx), rfl, ?_⟩
    rw [wire_list_uint32_wire_Reader_Number.l1, hx, if_neg (by simp; omega)]
    simp [wire_list_uint32_wire_Reader_Number.j1]
  | succ m ih =>
    intro i s acc f hi hf ha hs
    obtain ⟨f, rfl⟩ : ∃ q, f = q + 1 := ⟨f - 1, by omega⟩
    rw [wire_list_uint32_wire_Reader_Number.l1, hx, if_pos (by simp; omega)]
    rcases Number_any s hs with ⟨v, rest, h1, h2, h3, h4⟩ | ⟨e, h1, h2⟩
    · rw [h4]
      simp only [Option.bind_some]
      rw [if_neg (by simp), if_pos (by simp; omega), add64 (by omega), show ((i : Int) + 1) = ((i + 1 : Nat) : Int) by omega]
      rcases ih (i + 1) rest (acc ++ [v]) f (by omega) (by omega) (by simp [ha]) (fun b hb => hs b (by rw [h3]; simp [hb])) with ⟨l, r2, a1, a2, a3, a4⟩ | h
      · refine .inl ⟨v :: l, r2, by simp [a1], fun x hx => ?_, ?_, ?_⟩
        · rcases List.mem_cons.1 hx with rfl | hx
          · exact ⟨h1, h2⟩
          · exact a2 x hx
        · rw [encs_cons, List.append_assoc, ← a3]; exact h3
        · rw [a4]; simp
      · exact .inr h
    · right
      rw [h2]
      refine ⟨e, h1, ?_⟩
      rcases h1 with h | h <;> simp [h]

theorem numlist_any (s : List Int) (most : Int) (hs : Byt s) (hm : 0 ≤ most ∧ most ≤ 3000) :
    (∃ l rest, (l.length : Int) ≤ most ∧ U32 l ∧ s = enc (l.length : Int) ++ encs l ++ rest ∧ wire_list_uint32_wire_Reader_Number 4000 ⟨s, 0⟩ most = some (l, ⟨rest, 0⟩)) ∨ ∃ e, (e = 3 ∨ e = 4 ∨ e = 5) ∧ wire_list_uint32_wire_Reader_Number 4000 ⟨s, 0⟩ most = some ([], ⟨s, e⟩) := by
  unfold wire_list_uint32_wire_Reader_Number
  rcases count_any s most hs hm.1 with ⟨n, rest, h1, h2, h3, h4, h5⟩ | ⟨e, h1, h2⟩
  · rw [h5]
    simp only [Option.bind_some]
    obtain ⟨m, rfl⟩ : ∃ m : Nat, n = m := ⟨n.toNat, by omega⟩
    rcases nums_any ⟨s, 0⟩ m (by omega) ((m : Int), ⟨rest, 0⟩) rfl m 0 rest [] 4000 (by omega) (by omega) rfl (fun b hb => hs b (by rw [h4]; simp [hb])) with ⟨l, r2, a1, a2, a3, a4⟩ | ⟨e, he, a⟩
    · refine .inl ⟨l, r2, by omega, a2, ?_, by simpa using a4⟩
      rw [a1, h4, a3, List.append_assoc]
    · exact .inr ⟨e, by rcases he with h | h <;> simp [h], by simpa using a⟩
  · rw [h2]
    simp only [Option.bind_some]
    refine .inr ⟨e, h1, ?_⟩
    rw [wire_list_uint32_wire_Reader_Number.l1, if_neg (by simp)]
    rfl
theorem nums_enc (p : wire_Reader) (x1 : Int × wire_Reader) (n : Nat) (hx : x1.1 = (n : Int)) (hn : n ≤ 3000) (rest : List Int) (hr : Byt rest) : ∀ (l : List Int) (i : Nat) (acc : List Int) (f : Nat), U32 l → i + l.length = n → l.length < f → acc.length = i →
    wire_list_uint32_wire_Reader_Number.l1 4000 x1 p f (i : Int) ⟨encs l ++ rest, 0⟩ acc = some (acc ++ l, ⟨rest, 0⟩) := by
  have hL : (1000000 : Nat) ≤ lim := by unfold lim; omega
  intro l
  induction l with
  | nil =>
    intro i acc f hu hi hf ha
    obtain ⟨f, rfl⟩ : ∃ q, f = q + 1 := ⟨f - 1, by omega⟩
    simp at hi
    rw [wire_list_uint32_wire_Reader_Number.l1, hx, if_neg (by simp; omega)]
    simp [wire_list_uint32_wire_Reader_Number.j1, encs_nil]
  | cons v l ih =>
    intro i acc f hu hi hf ha
    obtain ⟨f, rfl⟩ : ∃ q, f = q + 1 := ⟨f - 1, by omega⟩
    simp at hi hf
    rw [wire_list_uint32_wire_Reader_Number.l1, hx, if_pos (by simp; omega), encs_cons, List.append_assoc, Number_enc v (hu v (by simp)) _ (byt_append (encs_byt l) hr)]
    simp only [Option.bind_some]
    rw [if_neg (by simp), if_pos (by simp; omega), add64 (by omega), show ((i : Int) + 1) = ((i + 1 : Nat) : Int) by omega, ih (i + 1) (acc ++ [v]) f (fun z hz => hu z (by simp [hz])) (by omega) (by omega) (by simp [ha])]
    simp
theorem numlist_enc (l : List Int) (rest : List Int) (most : Int) (hu : U32 l) (hm : (l.length : Int) ≤ most ∧ most ≤ 3000) (hr : Byt rest) :
    wire_list_uint32_wire_Reader_Number 4000 ⟨enc (l.length : Int) ++ encs l ++ rest, 0⟩ most = some (l, ⟨rest, 0⟩) := by
  unfold wire_list_uint32_wire_Reader_Number
  rw [List.append_assoc, count_enc _ most (by omega) hm.1 _ (byt_append (encs_byt l) hr)]
  simp only [Option.bind_some]
  have := nums_enc ⟨enc (l.length : Int) ++ (encs l ++ rest), 0⟩ ((l.length : Int), ⟨encs l ++ rest, 0⟩) l.length rfl (by omega) rest hr l 0 [] 4000 hu (by omega) (by omega) rfl
  rw [show ((0 : Nat) : Int) = 0 from rfl, List.nil_append] at this
  exact this
theorem numlist_stuck (p : wire_Reader) (most : Int) (h0 : p.err ≠ 0) : wire_list_uint32_wire_Reader_Number 4000 p most = some ([], p) := by
  unfold wire_list_uint32_wire_Reader_Number
  rw [count_stuck p most h0]
  simp only [Option.bind_some]
  rw [wire_list_uint32_wire_Reader_Number.l1, if_neg (by simp)]
  rfl

end Go.Proofs.Pure
