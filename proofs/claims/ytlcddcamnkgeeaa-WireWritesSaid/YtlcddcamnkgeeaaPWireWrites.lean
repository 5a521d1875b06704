/- WireWrites over its plain functions: no program in sight. -/
import Derived.Test.YtlcddcamnkgeeaaWItem
namespace Go.Proofs.Pure
open Go Go.RowKit Go.Proofs.Kit
set_option linter.unusedVariables false

theorem ww_l1 (l : List caballaw10_Item) (hf : Few l) (hg : ∀ x ∈ l, ItemOk x) : ∀ (m i : Nat) (out : List Int) (n : Nat), i + m = l.length → m < n → out.length + 1000 * m ≤ 500000 →
    caballaw10_WireWrites.l1 4000 l n out (i : Int) out = some true := by
  have hL : (1000000 : Nat) + 100000 ≤ lim := by unfold lim; omega
  intro m
  induction m with
  | zero =>
    intro i out n hi hm hlim
    obtain ⟨n, rfl⟩ : ∃ q, n = q + 1 := ⟨n - 1, by omega⟩
    rw [caballaw10_WireWrites.l1, if_neg (by simp; omega)]
    simp [caballaw10_WireWrites.j1, alive_ok, wire_Writer_String]
  | succ m ih =>
    intro i out n hi hm hlim
    obtain ⟨n, rfl⟩ : ∃ q, n = q + 1 := ⟨n - 1, by omega⟩
    have hil : i < l.length := by omega
    have hlen := hf.len
    have hx := List.getElem_mem hil
    have he := encI_len (hf.each _ hx) (hg _ hx)
    rw [caballaw10_WireWrites.l1, if_pos (by simp; omega), at_get hil]
    simp only [Option.bind_some]
    rw [write_eq _ ⟨out⟩ (hg _ hx) (hf.each _ hx) (by show out.length ≤ _; omega)]
    simp only [Option.bind_some, wire_Writer_String]
    rw [if_pos (by omega), if_neg (by simp), add64 (by omega)]
    rw [show ((i : Int) + 1) = ((i + 1 : Nat) : Int) by omega]
    exact ih (i + 1) _ n (by omega) (by omega) (by simp only [List.length_append]; omega)

theorem WireWrites (x0 : (List caballaw10_Item)) (g0 : Fine (ksl k_caballaw10_Item) x0) : ∃ k, caballaw10_WireWrites k x0 = some true := by
  refine ⟨4000, ?_⟩
  unfold caballaw10_WireWrites
  rw [alive_ok]
  simp only [Option.bind_some, Bool.not_true, Bool.false_eq_true, if_false]
  obtain ⟨b, hb, hf⟩ := great_eq x0
  rw [hb]
  simp only [Option.bind_some]
  cases b with
  | true => simp
  | false =>
    simp only [Bool.false_eq_true, if_false]
    have hf := hf rfl
    have := ww_l1 x0 hf (fun x hx => item_ok ((Fine.sl g0).2 x hx)) x0.length 0 [] 4000 (by omega) (by have := hf.len; omega) (by have := hf.len; simp; omega)
    exact this

end Go.Proofs.Pure
