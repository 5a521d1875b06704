/- Items are bytes; what was written of them is read back. No program in sight. -/
import Derived.Test.YtlcddcamnkgeeaaWList
namespace Go.Proofs.Pure
open Go Go.RowKit Go.Proofs.Kit
set_option linter.unusedVariables false

/-- an item's texts and keys are bytes -/
structure ItemByt (x : caballaw10_Item) : Prop where
  text : Byt x.Text
  keys : ∀ s ∈ x.Keys, Byt s
theorem item_byt {x : caballaw10_Item} (h : Fine k_caballaw10_Item x) : ItemByt x := by
  have h1 := Fine.iso h
  obtain ⟨_, h2⟩ := Fine.pair h1
  obtain ⟨_, h3⟩ := Fine.pair h2
  obtain ⟨h4, h5⟩ := Fine.pair h3
  obtain ⟨h6, h7⟩ := Fine.pair h5
  obtain ⟨h8, _⟩ := Fine.pair h7
  refine ⟨(Fine.str h6).2, fun s hs n hn => ?_⟩
  have := Fine.int ((Fine.arr ((Fine.sl h8).2 s hs)).2 n hn)
  unfold IntKind.has IntKind.min IntKind.max at this; simp [IntKind.signed, IntKind.bits] at this; omega
theorem flat_byt {l : List (List Int)} (h : ∀ s ∈ l, Byt s) : Byt l.flatten := by
  intro b hb
  obtain ⟨s, hs, hb⟩ := List.mem_flatten.1 hb
  exact h s hs b hb
theorem encT_byt {t : List Int} (h : Byt t) : Byt (encT t) := byt_append (enc_byt _) h
theorem encI_byt {x : caballaw10_Item} (h : ItemByt x) : Byt (encI x) := by
  unfold encI
  repeat' split
  · exact encs_byt _
  · exact byt_append (encT_byt h.text) (encT_byt h.text)
  · exact flat_byt h.keys
  · exact byt_append (enc_byt _) (flat_byt h.keys)
  · exact byt_append (enc_byt _) (encs_byt _)
  · intro b hb; cases hb

/-- what is the same with itself -/
theorem samekeys_l1 (l : List (List Int)) (hn : l.length < 4000) : ∀ (m i n : Nat), i + m = l.length → m < n → cabalref08_SameKeys.l1 4000 l l n (i : Int) = some true := by
  intro m
  induction m with
  | zero =>
    intro i n hi hm
    obtain ⟨n, rfl⟩ : ∃ q, n = q + 1 := ⟨n - 1, by omega⟩
    rw [cabalref08_SameKeys.l1, if_neg (by simp; omega)]; rfl
  | succ m ih =>
    intro i n hi hm
    obtain ⟨n, rfl⟩ : ∃ q, n = q + 1 := ⟨n - 1, by omega⟩
    have hil : i < l.length := by omega
    rw [cabalref08_SameKeys.l1, if_pos (by simp; omega), at_get hil]
    simp only [Option.bind_some]
    rw [if_neg (by simp), add64 (by omega), show ((i : Int) + 1) = ((i + 1 : Nat) : Int) by omega]
    exact ih (i + 1) n (by omega) (by omega)
theorem samekeys (l : List (List Int)) (hn : l.length < 4000) : cabalref08_SameKeys 4000 l l = some true := by
  unfold cabalref08_SameKeys
  rw [if_neg (by simp)]
  exact samekeys_l1 l hn l.length 0 4000 (by omega) hn
theorem samenums_l1 (l : List Int) (hn : l.length < 4000) : ∀ (m i n : Nat), i + m = l.length → m < n → cabalref10_SameNumbers.l1 4000 l l n (i : Int) = some true := by
  intro m
  induction m with
  | zero =>
    intro i n hi hm
    obtain ⟨n, rfl⟩ : ∃ q, n = q + 1 := ⟨n - 1, by omega⟩
    rw [cabalref10_SameNumbers.l1, if_neg (by simp; omega)]; rfl
  | succ m ih =>
    intro i n hi hm
    obtain ⟨n, rfl⟩ : ∃ q, n = q + 1 := ⟨n - 1, by omega⟩
    have hil : i < l.length := by omega
    rw [cabalref10_SameNumbers.l1, if_pos (by simp; omega), at_get hil]
    simp only [Option.bind_some]
    rw [if_neg (by simp), add64 (by omega), show ((i : Int) + 1) = ((i + 1 : Nat) : Int) by omega]
    exact ih (i + 1) n (by omega) (by omega)
theorem samenums (l : List Int) (hn : l.length < 4000) : cabalref10_SameNumbers 4000 l l = some true := by
  unfold cabalref10_SameNumbers
  rw [if_neg (by simp)]
  exact samenums_l1 l hn l.length 0 4000 (by omega) hn

/-- an item's numbers are read back -/
theorem back_l2 (x : caballaw10_Item) (y : Int) (L : Int → wire_Reader → Option Bool) (hu : U32 x.Numbers) (hn : x.Numbers.length ≤ 60) (R : List Int) (hR : Byt R) : ∀ (m i n : Nat), i + m = x.Numbers.length → m < n →
    caballaw10_WireBack.l2 4000 x y L n (i : Int) ⟨encs (x.Numbers.drop i) ++ R, 0⟩ = L (iadd .i64 y 1) ⟨R, 0⟩ := by
  intro m
  induction m with
  | zero =>
    intro i n hi hm
    obtain ⟨n, rfl⟩ : ∃ q, n = q + 1 := ⟨n - 1, by omega⟩
    rw [caballaw10_WireBack.l2, if_neg (by simp; omega), List.drop_eq_nil_of_le (by omega), encs_nil, List.nil_append]; rfl
  | succ m ih =>
    intro i n hi hm
    obtain ⟨n, rfl⟩ : ∃ q, n = q + 1 := ⟨n - 1, by omega⟩
    have hil : i < x.Numbers.length := by omega
    have hd : x.Numbers.drop i = x.Numbers[i] :: x.Numbers.drop (i + 1) := List.drop_eq_getElem_cons hil
    rw [caballaw10_WireBack.l2, if_pos (by simp; omega), at_get hil, hd, encs_cons, List.append_assoc, Number_enc _ (hu _ (List.getElem_mem hil)) _ (byt_append (encs_byt _) hR)]
    simp only [Option.bind_some]
    rw [if_neg (by simp), add64 (by omega), show ((i : Int) + 1) = ((i + 1 : Nat) : Int) by omega]
    exact ih (i + 1) n (by omega) (by omega)
/-- .. and its keys -/
theorem back_l3 (x : caballaw10_Item) (y : Int) (L : Int → wire_Reader → Option Bool) (hk : Key32 x.Keys) (hn : x.Keys.length ≤ 20) (R : List Int) (hR : R.length < 1000000) : ∀ (m i n : Nat), i + m = x.Keys.length → m < n →
    caballaw10_WireBack.l3 4000 x y L n (i : Int) ⟨(x.Keys.drop i).flatten ++ R, 0⟩ = L (iadd .i64 y 1) ⟨R, 0⟩ := by
  intro m
  induction m with
  | zero =>
    intro i n hi hm
    obtain ⟨n, rfl⟩ : ∃ q, n = q + 1 := ⟨n - 1, by omega⟩
    rw [caballaw10_WireBack.l3, if_neg (by simp; omega), List.drop_eq_nil_of_le (by omega), List.flatten_nil, List.nil_append]; rfl
  | succ m ih =>
    intro i n hi hm
    obtain ⟨n, rfl⟩ : ∃ q, n = q + 1 := ⟨n - 1, by omega⟩
    have hil : i < x.Keys.length := by omega
    have hd : x.Keys.drop i = x.Keys[i] :: x.Keys.drop (i + 1) := List.drop_eq_getElem_cons hil
    have hfl := flat_len (l := x.Keys.drop (i + 1)) (fun s hs => hk s (List.mem_of_mem_drop hs))
    rw [List.length_drop] at hfl
    rw [caballaw10_WireBack.l3, if_pos (by simp; omega), at_get hil, hd, List.flatten_cons, List.append_assoc, Key_ok _ _ (hk _ (List.getElem_mem hil)) (by rw [List.length_append]; omega)]
    simp only [Option.bind_some]
    rw [if_neg (by simp), add64 (by omega), show ((i : Int) + 1) = ((i + 1 : Nat) : Int) by omega]
    exact ih (i + 1) n (by omega) (by omega)

/-- every item is read back -/
theorem back_l1 (l : List caballaw10_Item) (hf : Few l) (hg : ∀ x ∈ l, ItemOk x) (hb : ∀ x ∈ l, ItemByt x) : ∀ (m i n : Nat), i + m = l.length → m < n →
    caballaw10_WireBack.l1 4000 l n (i : Int) ⟨(l.drop i).flatMap encI, 0⟩ = some true ∧ ((l.drop i).flatMap encI).length ≤ 1000 * m ∧ Byt ((l.drop i).flatMap encI) := by
  intro m
  induction m with
  | zero =>
    intro i n hi hm
    obtain ⟨n, rfl⟩ : ∃ q, n = q + 1 := ⟨n - 1, by omega⟩
    rw [caballaw10_WireBack.l1, if_neg (by simp; omega), List.drop_eq_nil_of_le (by omega)]
    refine ⟨?_, by simp, fun b hb => by simp at hb⟩
    simp [caballaw10_WireBack.j2, alive_ok, wire_Reader_End, wire_Reader_Left]
  | succ m ih =>
    intro i n hi hm
    obtain ⟨n, rfl⟩ : ∃ q, n = q + 1 := ⟨n - 1, by omega⟩
    have hil : i < l.length := by omega
    have hlen := hf.len
    have hx := List.getElem_mem hil
    have hd : l.drop i = l[i] :: l.drop (i + 1) := List.drop_eq_getElem_cons hil
    obtain ⟨t1, t2, t3⟩ := ih (i + 1) n (by omega) (by omega)
    have h1 := (hf.each _ hx).text
    have h2 := (hf.each _ hx).nums
    have h3 := (hf.each _ hx).keys
    have g := hg _ hx
    have gb := hb _ hx
    have he := encI_len (hf.each _ hx) g
    rw [hd, List.flatMap_cons]
    generalize (l.drop (i + 1)).flatMap encI = R at t1 t2 t3
    refine ⟨?_, by rw [List.length_append]; omega, byt_append (encI_byt gb) t3⟩
    rw [caballaw10_WireBack.l1, if_pos (by simp; omega), at_get hil]
    simp only [Option.bind_some]
    have hnext : iadd .i64 (i : Int) 1 = ((i + 1 : Nat) : Int) := by rw [add64 (by omega)]; omega
    unfold encI
    by_cases c0 : irem l[i].Kind 5 = 0
    · rw [if_pos (by simp [c0]), if_pos c0]
      have := back_l2 l[i] (i : Int) (caballaw10_WireBack.l1 4000 l n) g.nums h2 R t3 l[i].Numbers.length 0 4000 (by omega) (by omega)
      rw [List.drop_zero] at this
      rw [show ((0 : Nat) : Int) = 0 from rfl] at this
      rw [this, hnext]; exact t1
    rw [if_neg (by simp [c0]), if_neg c0]
    by_cases c1 : irem l[i].Kind 5 = 1
    · rw [if_pos (by simp [c1]), if_pos c1, List.append_assoc, Text_enc l[i].Text (encT l[i].Text ++ R) 300 (by omega) (by omega) gb.text (byt_append (encT_byt gb.text) t3) (by have := enc_len (l[i].Text.length : Int); unfold encT; simp only [List.length_append]; omega)]
      simp only [Option.bind_some, decide_true, Bool.not_true, beq_self_eq_true, if_true]
      rw [Text_enc l[i].Text R _ (by omega) (by omega) gb.text t3 (by omega)]
      simp only [Option.bind_some, decide_true, Bool.not_true, Bool.false_eq_true, if_false, caballaw10_WireBack.j3, hnext]
      exact t1
    rw [if_neg (by simp [c1]), if_neg c1]
    by_cases c2 : irem l[i].Kind 5 = 2
    · rw [if_pos (by simp [c2]), if_pos c2]
      have := back_l3 l[i] (i : Int) (caballaw10_WireBack.l1 4000 l n) g.keys h3 R (by omega) l[i].Keys.length 0 4000 (by omega) (by omega)
      rw [List.drop_zero] at this
      rw [show ((0 : Nat) : Int) = 0 from rfl] at this
      rw [this, hnext]; exact t1
    rw [if_neg (by simp [c2]), if_neg c2]
    by_cases c3 : irem l[i].Kind 5 = 3
    · have hfl := flat_len g.keys
      have := enc_len (l[i].Keys.length : Int)
      rw [if_pos (by simp [c3]), if_pos c3]
      unfold wire_Reader_KeyList_w2
      rw [keylist_enc l[i].Keys R 20 g.keys (by omega) (byt_append (flat_byt gb.keys) t3) (by simp only [List.length_append]; omega)]
      simp only [Option.bind_some, samekeys l[i].Keys (by omega), Bool.not_true, Bool.false_eq_true, if_false, caballaw10_WireBack.j3, hnext]
      exact t1
    rw [if_neg (by simp [c3]), if_neg c3]
    by_cases c4 : irem l[i].Kind 5 = 4
    · rw [if_pos (by simp [c4]), if_pos c4]
      unfold wire_Reader_NumberList_w2
      rw [numlist_enc l[i].Numbers R 60 g.nums (by omega) t3]
      simp only [Option.bind_some, samenums l[i].Numbers (by omega), Bool.not_true, Bool.false_eq_true, if_false, caballaw10_WireBack.j3, hnext]
      exact t1
    rw [if_neg (by simp [c4]), if_neg c4]
    simp only [List.nil_append, caballaw10_WireBack.j3, hnext]
    exact t1

theorem back_l4 (l : List caballaw10_Item) (hf : Few l) (hg : ∀ x ∈ l, ItemOk x) : ∀ (m i : Nat) (out : List Int) (n : Nat), i + m = l.length → m < n → out.length + 1000 * m ≤ 500000 →
    caballaw10_WireBack.l4 4000 l n (i : Int) out = caballaw10_WireBack.j1 4000 l (out ++ (l.drop i).flatMap encI) := by
  intro m
  induction m with
  | zero =>
    intro i out n hi hm hlim
    obtain ⟨n, rfl⟩ : ∃ q, n = q + 1 := ⟨n - 1, by omega⟩
    rw [caballaw10_WireBack.l4, if_neg (by simp; omega), List.drop_eq_nil_of_le (by omega)]
    simp
  | succ m ih =>
    intro i out n hi hm hlim
    obtain ⟨n, rfl⟩ : ∃ q, n = q + 1 := ⟨n - 1, by omega⟩
    have hil : i < l.length := by omega
    have hlen := hf.len
    have hx := List.getElem_mem hil
    have he := encI_len (hf.each _ hx) (hg _ hx)
    rw [caballaw10_WireBack.l4, if_pos (by simp; omega), at_get hil]
    simp only [Option.bind_some]
    rw [write_eq _ ⟨out⟩ (hg _ hx) (hf.each _ hx) (by show out.length ≤ _; omega)]
    simp only [Option.bind_some]
    rw [add64 (by omega), show ((i : Int) + 1) = ((i + 1 : Nat) : Int) by omega, ih (i + 1) _ n (by omega) (by omega) (by simp only [List.length_append]; omega)]
    rw [List.drop_eq_getElem_cons hil, List.flatMap_cons, List.append_assoc]

end Go.Proofs.Pure
