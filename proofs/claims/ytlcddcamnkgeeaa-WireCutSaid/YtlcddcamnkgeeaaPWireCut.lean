/- WireCut over its plain functions: no program in sight. -/
import Derived.Test.YtlcddcamnkgeeaaWCut
namespace Go.Proofs.Pure
open Go Go.RowKit Go.Proofs.Kit
set_option linter.unusedVariables false

theorem WireCut (x0 : caballaw10_Item) (x1 : Int) (g0 : Fine k_caballaw10_Item x0) (g1 : Fine (kint .i64) x1) : ∃ k, caballaw10_WireCut k x0 x1 = some true := by
  refine ⟨4000, ?_⟩
  unfold caballaw10_WireCut
  rw [alive_ok]
  simp only [Option.bind_some, Bool.not_true, Bool.false_eq_true, if_false]
  obtain ⟨b, hb, hf⟩ := great_eq [x0]
  rw [hb]
  simp only [Option.bind_some]
  cases b with
  | true => simp
  | false =>
    simp only [Bool.false_eq_true, if_false]
    have hw := (hf rfl).each x0 (by simp)
    have hg := item_ok g0
    have hy := item_byt g0
    have h1 := hw.text
    have h2 := hw.nums
    have h3 := hw.keys
    rw [write_eq x0 ⟨[]⟩ hg hw (by simp)]
    simp only [Option.bind_some, wire_Writer_String, List.nil_append]
    have hlen := encI_len hw hg
    by_cases h0 : (encI x0).length = 0
    · rw [if_pos (by simpa using List.eq_nil_of_length_eq_zero h0)]
    · rw [if_neg (by simpa using fun h => h0 (by rw [h]; rfl))]
      have e1 : IntKind.wrap .u64 ((encI x0).length : Int) = ((encI x0).length : Int) := wu64s (by omega)
      rw [e1, if_pos (by omega), wu64, rem_pos (Int.emod_nonneg _ (by decide))]
      obtain ⟨c, hc⟩ : ∃ c : Nat, x1 % 18446744073709551616 % ((encI x0).length : Int) = (c : Int) := ⟨(x1 % 18446744073709551616 % ((encI x0).length : Int)).toNat, by have := Int.emod_nonneg (x1 % 18446744073709551616) (b := ((encI x0).length : Int)) (by omega); omega⟩
      have hc2 : c < (encI x0).length := by have := Int.emod_lt_of_pos (x1 % 18446744073709551616) (b := ((encI x0).length : Int)) (by omega); omega
      rw [hc, wi64 (by omega)]
      simp only [Option.bind_some, cut_pre (Nat.le_of_lt hc2), wire_NewReader]
      unfold encI at hc2 ⊢
      by_cases c0 : irem x0.Kind 5 = 0
      · rw [if_pos c0] at hc2 ⊢
        rw [if_pos (by simp [c0])]
        have := cut_l1 x0 hg.nums h2 x0.Numbers.length 0 4000 ⟨(encs (x0.Numbers.drop 0)).take c, 0⟩ (by omega) (by omega) (.inr ⟨c, hc2, rfl⟩)
        rw [show ((0 : Nat) : Int) = 0 from rfl, List.drop_zero] at this
        exact this
      rw [if_neg c0] at hc2 ⊢
      rw [if_neg (by simp [c0])]
      by_cases c1 : irem x0.Kind 5 = 1
      · rw [if_pos c1] at hc2 ⊢
        rw [if_pos (by simp [c1])]
        rw [List.length_append] at hc2
        rcases take_two (encT x0.Text) (encT x0.Text) c with ⟨a, b⟩ | ⟨a, b⟩
        · obtain ⟨v, s, h⟩ := Text_cut x0.Text 300 (by omega) (by omega) hy.text c a
          rw [b, h]
          simp only [Option.bind_some]
          rw [Text_stuck _ _ (by simp)]
          simp only [Option.bind_some]
          exact cut_end s
        · rw [b, Text_enc x0.Text _ 300 (by omega) (by omega) hy.text (byt_take (encT_byt hy.text) _) (by have := enc_len (x0.Text.length : Int); rw [List.length_take]; unfold encT at hc2 ⊢; rw [List.length_append] at hc2 ⊢; omega)]
          simp only [Option.bind_some]
          obtain ⟨v, s, h⟩ := Text_cut x0.Text 300 (by omega) (by omega) hy.text (c - (encT x0.Text).length) (by omega)
          rw [h]
          simp only [Option.bind_some]
          exact cut_end s
      rw [if_neg c1] at hc2 ⊢
      rw [if_neg (by simp [c1])]
      by_cases c2 : irem x0.Kind 5 = 2
      · rw [if_pos c2] at hc2 ⊢
        rw [if_pos (by simp [c2])]
        have := cut_l2 x0 hg.keys h3 x0.Keys.length 0 4000 ⟨((x0.Keys.drop 0).flatten).take c, 0⟩ (by omega) (by omega) (.inr ⟨c, hc2, rfl⟩)
        rw [show ((0 : Nat) : Int) = 0 from rfl, List.drop_zero] at this
        exact this
      rw [if_neg c2] at hc2 ⊢
      rw [if_neg (by simp [c2])]
      by_cases c3 : irem x0.Kind 5 = 3
      · rw [if_pos c3] at hc2 ⊢
        rw [if_pos (by simp [c3])]
        unfold wire_Reader_KeyList
        obtain ⟨v, s, h⟩ := keylist_cut x0.Keys 20 hg.keys hy.keys (by omega) c hc2
        rw [h]
        simp only [Option.bind_some]
        exact cut_end s
      rw [if_neg c3] at hc2 ⊢
      rw [if_neg (by simp [c3])]
      by_cases c4 : irem x0.Kind 5 = 4
      · rw [if_pos c4] at hc2 ⊢
        rw [if_pos (by simp [c4])]
        unfold wire_Reader_NumberList
        obtain ⟨v, s, h⟩ := numlist_cut x0.Numbers 60 hg.nums (by omega) c hc2
        rw [h]
        simp only [Option.bind_some]
        exact cut_end s
      rw [if_neg c4] at hc2
      simp at hc2

end Go.Proofs.Pure
