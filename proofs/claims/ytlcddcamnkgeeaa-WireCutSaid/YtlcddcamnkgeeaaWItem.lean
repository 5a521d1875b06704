/- Items: what is written of them; which are looked at. No program in sight. -/
import Derived.Test.YtlcddcamnkgeeaaWEnc
namespace Go.Proofs.Pure
open Go Go.RowKit Go.Proofs.Kit
set_option linter.unusedVariables false

theorem alive_ok : caballaw10_alive 4000 = some true := by decide +kernel

/-- the items' parts are of their kinds -/
structure ItemOk (x : caballaw10_Item) : Prop where
  nums : U32 x.Numbers
  keys : Key32 x.Keys
/-- not more than is looked at -/
structure ItemFew (x : caballaw10_Item) : Prop where
  text : x.Text.length ≤ 300
  nums : x.Numbers.length ≤ 60
  keys : x.Keys.length ≤ 20

theorem item_ok {x : caballaw10_Item} (h : Fine k_caballaw10_Item x) : ItemOk x := by
  have h1 := Fine.iso h
  obtain ⟨_, h2⟩ := Fine.pair h1
  obtain ⟨_, h3⟩ := Fine.pair h2
  obtain ⟨h4, h5⟩ := Fine.pair h3
  obtain ⟨h6, h7⟩ := Fine.pair h5
  obtain ⟨h8, _⟩ := Fine.pair h7
  refine ⟨fun n hn => ?_, fun s hs => ?_⟩
  · have := Fine.int ((Fine.sl h4).2 n hn)
    unfold IntKind.has IntKind.min IntKind.max at this; simp [IntKind.signed, IntKind.bits] at this; omega
  · exact (Fine.arr ((Fine.sl h8).2 s hs)).1

theorem great_l1 (l : List caballaw10_Item) (hn : l.length ≤ 20) : ∀ (m i n : Nat), i + m = l.length → m < n →
    ∃ b, caballaw10_great.l1 4000 l n (i : Int) = some b ∧ (b = false → ∀ x ∈ l.drop i, ItemFew x) := by
  intro m
  induction m with
  | zero =>
    intro i n hi hm
    obtain ⟨n, rfl⟩ : ∃ q, n = q + 1 := ⟨n - 1, by omega⟩
    refine ⟨false, by rw [caballaw10_great.l1, if_neg (by simp; omega)]; rfl, fun _ => ?_⟩
    rw [List.drop_eq_nil_of_le (by omega)]; simp
  | succ m ih =>
    intro i n hi hm
    obtain ⟨n, rfl⟩ : ∃ q, n = q + 1 := ⟨n - 1, by omega⟩
    have hil : i < l.length := by omega
    have hd : l.drop i = l[i] :: l.drop (i + 1) := List.drop_eq_getElem_cons hil
    rw [caballaw10_great.l1, if_pos (by simp; omega), at_get hil]
    simp only [Option.bind_some]
    by_cases h1 : l[i].Text.length ≤ 300
    · have e1 : decide ((l[i].Text.length : Int) > 300) = false := by simp; omega
      simp only [e1, Bool.false_eq_true, if_false, beq_self_eq_true, if_true, Option.bind_some]
      by_cases h2 : l[i].Numbers.length ≤ 60
      · have e2 : decide ((l[i].Numbers.length : Int) > 60) = false := by simp; omega
        simp only [e2, Bool.false_eq_true, if_false, beq_self_eq_true, if_true, Option.bind_some]
        by_cases h3 : l[i].Keys.length ≤ 20
        · have e3 : decide ((l[i].Keys.length : Int) > 20) = false := by simp; omega
          simp only [e3, Bool.false_eq_true, if_false]
          obtain ⟨b, hb, hr⟩ := ih (i + 1) n (by omega) (by omega)
          refine ⟨b, by rw [add64 (by omega), show ((i : Int) + 1) = ((i + 1 : Nat) : Int) by omega, hb], fun h x hx => ?_⟩
          rw [hd] at hx
          rcases List.mem_cons.1 hx with rfl | hx
          · exact ⟨h1, h2, h3⟩
          · exact hr h x hx
        · have e3 : decide ((l[i].Keys.length : Int) > 20) = true := by simp; omega
          simp only [e3, if_true]
          exact ⟨true, rfl, fun h => by cases h⟩
      · have e2 : decide ((l[i].Numbers.length : Int) > 60) = true := by simp; omega
        simp [e2]
    · have e1 : decide ((l[i].Text.length : Int) > 300) = true := by simp; omega
      simp [e1]

/-- what is not great -/
structure Few (l : List caballaw10_Item) : Prop where
  len : l.length ≤ 20
  each : ∀ x ∈ l, ItemFew x
theorem great_eq (l : List caballaw10_Item) : ∃ b, caballaw10_great 4000 l = some b ∧ (b = false → Few l) := by
  unfold caballaw10_great
  by_cases h : l.length ≤ 20
  · rw [if_neg (by simp; omega)]
    obtain ⟨b, hb, hr⟩ := great_l1 l h l.length 0 4000 (by omega) (by omega)
    exact ⟨b, hb, fun hf => ⟨h, by simpa using hr hf⟩⟩
  · rw [if_pos (by simp; omega)]
    exact ⟨true, rfl, fun h => by cases h⟩

/-- an item's bytes -/
def encI (x : caballaw10_Item) : List Int :=
  if irem x.Kind 5 = 0 then encs x.Numbers else if irem x.Kind 5 = 1 then encT x.Text ++ encT x.Text else if irem x.Kind 5 = 2 then x.Keys.flatten else if irem x.Kind 5 = 3 then enc (x.Keys.length : Int) ++ x.Keys.flatten else if irem x.Kind 5 = 4 then enc (x.Numbers.length : Int) ++ encs x.Numbers else []
theorem encI_len {x : caballaw10_Item} (h : ItemFew x) (g : ItemOk x) : (encI x).length ≤ 1000 := by
  unfold encI
  have h1 := encs_len x.Numbers
  have h2 := h.nums
  have h3 := h.text
  have h4 := flat_len g.keys
  have h5 := h.keys
  have h6 := enc_len (x.Text.length : Int)
  have h7 := enc_len (x.Keys.length : Int)
  have h8 := enc_len (x.Numbers.length : Int)
  unfold encT
  repeat' split
  all_goals (try simp only [List.length_append, List.length_nil]) ; omega

theorem write_l1 (x : caballaw10_Item) (w : wire_Writer) (g : ItemOk x) (hn : x.Numbers.length ≤ 60) : ∀ (m i : Nat) (out : List Int) (n : Nat), i + m = x.Numbers.length → m < n → out.length + 5 * m + 10 ≤ lim →
    caballaw10_write.l1 4000 x w n out (i : Int) = some (out ++ encs (x.Numbers.drop i), w) := by
  intro m
  induction m with
  | zero =>
    intro i out n hi hm hlim
    obtain ⟨n, rfl⟩ : ∃ q, n = q + 1 := ⟨n - 1, by omega⟩
    rw [caballaw10_write.l1, if_neg (by simp; omega), List.drop_eq_nil_of_le (by omega)]; simp [caballaw10_write.j1, encs_nil]
  | succ m ih =>
    intro i out n hi hm hlim
    obtain ⟨n, rfl⟩ : ∃ q, n = q + 1 := ⟨n - 1, by omega⟩
    have hil : i < x.Numbers.length := by omega
    have he := enc_len x.Numbers[i]
    rw [caballaw10_write.l1, if_pos (by simp; omega), at_get hil]
    simp only [Option.bind_some]
    rw [ref_number 4000 _ (g.nums _ (List.getElem_mem hil)) (by omega)]
    simp only [Option.bind_some]
    rw [if_pos (by omega), add64 (by omega)]
    rw [show ((i : Int) + 1) = ((i + 1 : Nat) : Int) by omega, ih (i + 1) _ n (by omega) (by omega) (by simp only [List.length_append]; omega)]
    rw [List.drop_eq_getElem_cons hil, encs_cons]
    simp
theorem write_l2 (x : caballaw10_Item) (w : wire_Writer) (g : ItemOk x) (hn : x.Keys.length ≤ 20) : ∀ (m i : Nat) (out : List Int) (n : Nat), i + m = x.Keys.length → m < n → out.length + 32 * m + 10 ≤ lim →
    caballaw10_write.l2 4000 x w n out (i : Int) = some (out ++ (x.Keys.drop i).flatten, w) := by
  intro m
  induction m with
  | zero =>
    intro i out n hi hm hlim
    obtain ⟨n, rfl⟩ : ∃ q, n = q + 1 := ⟨n - 1, by omega⟩
    rw [caballaw10_write.l2, if_neg (by simp; omega), List.drop_eq_nil_of_le (by omega)]; simp [caballaw10_write.j1]
  | succ m ih =>
    intro i out n hi hm hlim
    obtain ⟨n, rfl⟩ : ∃ q, n = q + 1 := ⟨n - 1, by omega⟩
    have hil : i < x.Keys.length := by omega
    have hsl := g.keys _ (List.getElem_mem hil)
    rw [caballaw10_write.l2, if_pos (by simp; omega), at_get hil]
    simp only [Option.bind_some, cut32 hsl]
    rw [if_pos (by omega), add64 (by omega)]
    rw [show ((i : Int) + 1) = ((i + 1 : Nat) : Int) by omega, ih (i + 1) _ n (by omega) (by omega) (by simp only [List.length_append]; omega)]
    rw [List.drop_eq_getElem_cons hil, List.flatten_cons]
    simp

theorem write_eq (x : caballaw10_Item) (w : wire_Writer) (g : ItemOk x) (h : ItemFew x) (hlim : w.out.length ≤ 1000000) : caballaw10_write 4000 w x = some (encI x, ⟨w.out ++ encI x⟩) := by
  have hL : (1000000 : Nat) + 100000 ≤ lim := by unfold lim; omega
  have h1 := h.nums
  have h2 := h.text
  have h3 := h.keys
  unfold caballaw10_write encI
  by_cases c0 : irem x.Kind 5 = 0
  · rw [if_pos (by simp [c0]), if_pos c0, numbers_eq 4000 w x.Numbers g.nums (by omega) (by omega) (by omega) (by omega)]
    simp only [Option.bind_some]
    have := write_l1 x ⟨w.out ++ encs x.Numbers⟩ g h1 x.Numbers.length 0 [] 4000 (by omega) (by omega) (by simp; omega)
    simpa using this
  rw [if_neg (by simp [c0]), if_neg c0]
  by_cases c1 : irem x.Kind 5 = 1
  · rw [if_pos (by simp [c1]), if_pos c1, texts_eq 4000 w [x.Text, x.Text] (by simp) (fun s hs => by simp at hs; subst hs; omega) (by omega) (by simp) (by simp; omega)]
    simp only [Option.bind_some, ref_text 4000 x.Text (by omega) (by omega)]
    have he := enc_len (x.Text.length : Int)
    rw [if_pos (by unfold encT; simp only [List.length_append]; omega)]
    simp [caballaw10_write.j1]
  rw [if_neg (by simp [c1]), if_neg c1]
  by_cases c2 : irem x.Kind 5 = 2
  · rw [if_pos (by simp [c2]), if_pos c2, keys_eq 4000 w x.Keys (by omega) g.keys (by omega) (by omega)]
    simp only [Option.bind_some]
    have := write_l2 x ⟨w.out ++ x.Keys.flatten⟩ g h3 x.Keys.length 0 [] 4000 (by omega) (by omega) (by simp; omega)
    simpa using this
  rw [if_neg (by simp [c2]), if_neg c2]
  by_cases c3 : irem x.Kind 5 = 3
  · rw [if_pos (by simp [c3]), if_pos c3, keylist_eq 4000 w x.Keys (by omega) g.keys (by omega) (by omega) (by omega), ref_keylist 4000 x.Keys (by omega) g.keys (by omega) (by omega)]
    simp [caballaw10_write.j1]
  rw [if_neg (by simp [c3]), if_neg c3]
  by_cases c4 : irem x.Kind 5 = 4
  · rw [if_pos (by simp [c4]), if_pos c4, numlist_eq 4000 w x.Numbers (by omega) g.nums (by omega) (by omega) (by omega), ref_numlist 4000 x.Numbers (by omega) g.nums (by omega) (by omega)]
    simp [caballaw10_write.j1]
  rw [if_neg (by simp [c4]), if_neg c4]
  simp [caballaw10_write.j1]

end Go.Proofs.Pure
