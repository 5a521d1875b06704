/- What was cut off is read as too short. No program in sight. -/
import Derived.Test.YtlcddcamnkgeeaaWBack
namespace Go.Proofs.Pure
open Go Go.RowKit Go.Proofs.Kit
set_option linter.unusedVariables false

theorem byt_take {s : List Int} (h : Byt s) (n : Nat) : Byt (s.take n) := fun b hb => h b (List.mem_of_mem_take hb)
theorem take_two {α : Type} (a b : List α) (j : Nat) : (j < a.length ∧ (a ++ b).take j = a.take j) ∨ (a.length ≤ j ∧ (a ++ b).take j = a ++ b.take (j - a.length)) := by
  rcases Nat.lt_or_ge j a.length with h | h
  · exact .inl ⟨h, List.take_append_of_le_length (by omega)⟩
  · refine .inr ⟨h, ?_⟩
    rw [List.take_append, List.take_of_length_le h]

theorem Number_cut (n : Int) (hn : 0 ≤ n ∧ n < 4294967296) (j : Nat) (hj : j < (enc n).length) : ∃ s, wire_Reader_Number 4000 ⟨(enc n).take j, 0⟩ = some (0, ⟨s, 3⟩) := by
  have e := enc_cut n hn j hj
  have h := Number_def ⟨(enc n).take j, 0⟩ (byt_take (enc_byt n) j) rfl (by rw [e]; simp)
  rw [e] at h
  exact ⟨_, h⟩
theorem count_cut (n : Int) (most : Int) (hn : 0 ≤ n ∧ n < 4294967296) (j : Nat) (hj : j < (enc n).length) : ∃ s, wire_Reader_count 4000 ⟨(enc n).take j, 0⟩ most = some (0, ⟨s, 3⟩) := by
  obtain ⟨s, h⟩ := Number_cut n hn j hj
  refine ⟨s, ?_⟩
  unfold wire_Reader_count
  rw [h]
  simp only [Option.bind_some]
  rw [if_neg (by simp)]
  rfl
theorem Text_cut (t : List Int) (most : Int) (ht : t.length < 100000) (hm : (t.length : Int) ≤ most) (h1 : Byt t) (j : Nat) (hj : j < (encT t).length) : ∃ v s, wire_Reader_Text 4000 ⟨(encT t).take j, 0⟩ most = some (v, ⟨s, 3⟩) := by
  unfold wire_Reader_Text
  unfold encT at hj ⊢
  rw [List.length_append] at hj
  rcases take_two (enc (t.length : Int)) t j with ⟨a, b⟩ | ⟨a, b⟩
  · rw [b]
    obtain ⟨s, h⟩ := count_cut (t.length : Int) most (by omega) j a
    rw [h]
    simp only [Option.bind_some]
    rw [take_stuck _ _ (by simp)]
    exact ⟨_, _, rfl⟩
  · rw [b, count_enc _ most (by omega) hm _ (byt_take h1 _)]
    simp only [Option.bind_some]
    rw [take_short _ _ (by rw [List.length_take]; omega)]
    exact ⟨_, _, rfl⟩

theorem cut_end (s : List Int) : caballaw10_WireCut.j1 4000 ⟨s, 3⟩ = some true := by
  unfold caballaw10_WireCut.j1
  rw [alive_ok]
  simp [wire_Reader_End]

/-- numbers -/
theorem cut_l1 (x : caballaw10_Item) (hu : U32 x.Numbers) (hn : x.Numbers.length ≤ 60) : ∀ (m i n : Nat) (p : wire_Reader), i + m = x.Numbers.length → m < n → (p.err = 3 ∨ ∃ c, c < (encs (x.Numbers.drop i)).length ∧ p = ⟨(encs (x.Numbers.drop i)).take c, 0⟩) →
    caballaw10_WireCut.l1 4000 x n (i : Int) p = some true := by
  intro m
  induction m with
  | zero =>
    intro i n p hi hm hp
    obtain ⟨n, rfl⟩ : ∃ q, n = q + 1 := ⟨n - 1, by omega⟩
    rw [caballaw10_WireCut.l1, if_neg (by simp; omega)]
    rcases hp with h | ⟨c, h, _⟩
    · obtain ⟨s, e⟩ := p
      simp at h; subst h; exact cut_end s
    · rw [List.drop_eq_nil_of_le (by omega), encs_nil] at h; simp at h
  | succ m ih =>
    intro i n p hi hm hp
    obtain ⟨n, rfl⟩ : ∃ q, n = q + 1 := ⟨n - 1, by omega⟩
    have hil : i < x.Numbers.length := by omega
    have hd : x.Numbers.drop i = x.Numbers[i] :: x.Numbers.drop (i + 1) := List.drop_eq_getElem_cons hil
    have hnext : iadd .i64 (i : Int) 1 = ((i + 1 : Nat) : Int) := by rw [add64 (by omega)]; omega
    rw [caballaw10_WireCut.l1, if_pos (by simp; omega), hnext]
    rcases hp with h | ⟨c, h, rfl⟩
    · rw [Number_stuck p (by omega)]
      simp only [Option.bind_some]
      exact ih (i + 1) n p (by omega) (by omega) (.inl h)
    · rw [hd, encs_cons] at h ⊢
      have hv := hu _ (List.getElem_mem hil)
      rw [List.length_append] at h
      rcases take_two (enc x.Numbers[i]) (encs (x.Numbers.drop (i + 1))) c with ⟨a, b⟩ | ⟨a, b⟩
      · obtain ⟨s, hs⟩ := Number_cut _ hv c a
        rw [b, hs]
        simp only [Option.bind_some]
        exact ih (i + 1) n _ (by omega) (by omega) (.inl rfl)
      · rw [b, Number_enc _ hv _ (byt_take (encs_byt _) _)]
        simp only [Option.bind_some]
        exact ih (i + 1) n _ (by omega) (by omega) (.inr ⟨_, by omega, rfl⟩)
/-- keys -/
theorem cut_l2 (x : caballaw10_Item) (hk : Key32 x.Keys) (hn : x.Keys.length ≤ 20) : ∀ (m i n : Nat) (p : wire_Reader), i + m = x.Keys.length → m < n → (p.err = 3 ∨ ∃ c, c < (x.Keys.drop i).flatten.length ∧ p = ⟨(x.Keys.drop i).flatten.take c, 0⟩) →
    caballaw10_WireCut.l2 4000 x n (i : Int) p = some true := by
  intro m
  induction m with
  | zero =>
    intro i n p hi hm hp
    obtain ⟨n, rfl⟩ : ∃ q, n = q + 1 := ⟨n - 1, by omega⟩
    rw [caballaw10_WireCut.l2, if_neg (by simp; omega)]
    rcases hp with h | ⟨c, h, _⟩
    · obtain ⟨s, e⟩ := p
      simp at h; subst h; exact cut_end s
    · rw [List.drop_eq_nil_of_le (by omega)] at h; simp at h
  | succ m ih =>
    intro i n p hi hm hp
    obtain ⟨n, rfl⟩ : ∃ q, n = q + 1 := ⟨n - 1, by omega⟩
    have hil : i < x.Keys.length := by omega
    have hd : x.Keys.drop i = x.Keys[i] :: x.Keys.drop (i + 1) := List.drop_eq_getElem_cons hil
    have hnext : iadd .i64 (i : Int) 1 = ((i + 1 : Nat) : Int) := by rw [add64 (by omega)]; omega
    have hfl := flat_len (l := x.Keys.drop (i + 1)) (fun s hs => hk s (List.mem_of_mem_drop hs))
    rw [List.length_drop] at hfl
    rw [caballaw10_WireCut.l2, if_pos (by simp; omega), hnext]
    rcases hp with h | ⟨c, h, rfl⟩
    · rw [Key_stuck p (by omega)]
      simp only [Option.bind_some]
      exact ih (i + 1) n p (by omega) (by omega) (.inl h)
    · rw [hd, List.flatten_cons] at h ⊢
      have hv := hk _ (List.getElem_mem hil)
      rw [List.length_append] at h
      rcases take_two x.Keys[i] (x.Keys.drop (i + 1)).flatten c with ⟨a, b⟩ | ⟨a, b⟩
      · rw [b, Key_short _ (by rw [List.length_take]; omega)]
        simp only [Option.bind_some]
        exact ih (i + 1) n _ (by omega) (by omega) (.inl rfl)
      · rw [b, Key_ok _ _ hv (by rw [List.length_take]; omega)]
        simp only [Option.bind_some]
        exact ih (i + 1) n _ (by omega) (by omega) (.inr ⟨_, by omega, rfl⟩)

/-- a list of keys -/
theorem listkeys_cut (p : wire_Reader) (n : Nat) (x1 : Int × wire_Reader) (hx : x1.1 = (n : Int)) (hn : n ≤ 3000) : ∀ (l : List (List Int)) (i : Nat) (acc : List (List Int)) (f c : Nat), Key32 l → i + l.length = n → l.length < f → acc.length = i → c < l.flatten.length →
    ∃ v s, wire_list_api_Key_wire_Reader_Key.l1 4000 x1 p f (i : Int) ⟨l.flatten.take c, 0⟩ acc = some (v, ⟨s, 3⟩) := by
  have hL : (1000000 : Nat) ≤ lim := by unfold lim; omega
  intro l
  induction l with
  | nil => intro i acc f c hu hi hf ha hc; simp at hc
  | cons v l ih =>
    intro i acc f c hu hi hf ha hc
    obtain ⟨f, rfl⟩ : ∃ q, f = q + 1 := ⟨f - 1, by omega⟩
    rw [List.length_cons] at hi hf
    rw [List.flatten_cons, List.length_append] at hc
    have hv := hu v (by simp)
    have hfl := flat_len (l := l) (fun s hs => hu s (by simp [hs]))
    rw [wire_list_api_Key_wire_Reader_Key.l1, hx, if_pos (by simp; omega), List.flatten_cons]
    rcases take_two v l.flatten c with ⟨a, b⟩ | ⟨a, b⟩
    · rw [b, Key_short _ (by rw [List.length_take]; omega)]
      simp only [Option.bind_some]
      rw [if_pos (by simp)]
      exact ⟨_, _, rfl⟩
    · rw [b, Key_ok _ _ hv (by rw [List.length_take]; omega)]
      simp only [Option.bind_some]
      rw [if_neg (by simp), if_pos (by simp; omega), add64 (by omega), show ((i : Int) + 1) = ((i + 1 : Nat) : Int) by omega]
      exact ih (i + 1) (acc ++ [v]) f _ (fun z hz => hu z (by simp [hz])) (by omega) (by omega) (by simp [ha]) (by omega)
theorem keylist_cut (keys : List (List Int)) (most : Int) (hk : Key32 keys) (hy : ∀ s ∈ keys, Byt s) (hm : (keys.length : Int) ≤ most ∧ most ≤ 3000) (j : Nat) (hj : j < (enc (keys.length : Int) ++ keys.flatten).length) :
    ∃ v s, wire_list_api_Key_wire_Reader_Key 4000 ⟨(enc (keys.length : Int) ++ keys.flatten).take j, 0⟩ most = some (v, ⟨s, 3⟩) := by
  unfold wire_list_api_Key_wire_Reader_Key
  rw [List.length_append] at hj
  rcases take_two (enc (keys.length : Int)) keys.flatten j with ⟨a, b⟩ | ⟨a, b⟩
  · rw [b]
    obtain ⟨s, h⟩ := count_cut (keys.length : Int) most (by omega) j a
    rw [h]
    simp only [Option.bind_some]
    rw [wire_list_api_Key_wire_Reader_Key.l1, if_neg (by simp)]
    exact ⟨_, _, rfl⟩
  · rw [b, count_enc _ most (by omega) hm.1 _ (byt_take (flat_byt hy) _)]
    simp only [Option.bind_some]
    have := listkeys_cut ⟨enc (keys.length : Int) ++ keys.flatten.take (j - (enc (keys.length : Int)).length), 0⟩ keys.length ((keys.length : Int), ⟨keys.flatten.take (j - (enc (keys.length : Int)).length), 0⟩) rfl (by omega) keys 0 [] 4000 (j - (enc (keys.length : Int)).length) hk (by omega) (by omega) rfl (by omega)
    rw [show ((0 : Nat) : Int) = 0 from rfl] at this
    exact this
/-- a list of numbers -/
theorem listnums_cut (p : wire_Reader) (n : Nat) (x1 : Int × wire_Reader) (hx : x1.1 = (n : Int)) (hn : n ≤ 3000) : ∀ (l : List Int) (i : Nat) (acc : List Int) (f c : Nat), U32 l → i + l.length = n → l.length < f → acc.length = i → c < (encs l).length →
    ∃ v s, wire_list_uint32_wire_Reader_Number.l1 4000 x1 p f (i : Int) ⟨(encs l).take c, 0⟩ acc = some (v, ⟨s, 3⟩) := by
  have hL : (1000000 : Nat) ≤ lim := by unfold lim; omega
  intro l
  induction l with
  | nil => intro i acc f c hu hi hf ha hc; simp [encs_nil] at hc
  | cons v l ih =>
    intro i acc f c hu hi hf ha hc
    obtain ⟨f, rfl⟩ : ∃ q, f = q + 1 := ⟨f - 1, by omega⟩
    rw [List.length_cons] at hi hf
    rw [encs_cons, List.length_append] at hc
    have hv := hu v (by simp)
    rw [wire_list_uint32_wire_Reader_Number.l1, hx, if_pos (by simp; omega), encs_cons]
    rcases take_two (enc v) (encs l) c with ⟨a, b⟩ | ⟨a, b⟩
    · obtain ⟨s, hs⟩ := Number_cut _ hv c a
      rw [b, hs]
      simp only [Option.bind_some]
      rw [if_pos (by simp)]
      exact ⟨_, _, rfl⟩
    · rw [b, Number_enc _ hv _ (byt_take (encs_byt _) _)]
      simp only [Option.bind_some]
      rw [if_neg (by simp), if_pos (by simp; omega), add64 (by omega), show ((i : Int) + 1) = ((i + 1 : Nat) : Int) by omega]
      exact ih (i + 1) (acc ++ [v]) f _ (fun z hz => hu z (by simp [hz])) (by omega) (by omega) (by simp [ha]) (by omega)
theorem numlist_cut (l : List Int) (most : Int) (hu : U32 l) (hm : (l.length : Int) ≤ most ∧ most ≤ 3000) (j : Nat) (hj : j < (enc (l.length : Int) ++ encs l).length) :
    ∃ v s, wire_list_uint32_wire_Reader_Number 4000 ⟨(enc (l.length : Int) ++ encs l).take j, 0⟩ most = some (v, ⟨s, 3⟩) := by
  unfold wire_list_uint32_wire_Reader_Number
  rw [List.length_append] at hj
  rcases take_two (enc (l.length : Int)) (encs l) j with ⟨a, b⟩ | ⟨a, b⟩
  · rw [b]
    obtain ⟨s, h⟩ := count_cut (l.length : Int) most (by omega) j a
    rw [h]
    simp only [Option.bind_some]
    rw [wire_list_uint32_wire_Reader_Number.l1, if_neg (by simp)]
    exact ⟨_, _, rfl⟩
  · rw [b, count_enc _ most (by omega) hm.1 _ (byt_take (encs_byt _) _)]
    simp only [Option.bind_some]
    have := listnums_cut ⟨enc (l.length : Int) ++ (encs l).take (j - (enc (l.length : Int)).length), 0⟩ l.length ((l.length : Int), ⟨(encs l).take (j - (enc (l.length : Int)).length), 0⟩) rfl (by omega) l 0 [] 4000 (j - (enc (l.length : Int)).length) hu (by omega) (by omega) rfl (by omega)
    rw [show ((0 : Nat) : Int) = 0 from rfl] at this
    exact this

end Go.Proofs.Pure
