/- A kit of this claim's own, part 14: small words of the printed proofs. No condition. -/
import Derived.Test.YtdlnfgpcnfbjiaaKx13
namespace Go.Proofs.Kit
open Go Go.RowKit
set_option linter.unusedSimpArgs false
set_option linter.unusedVariables false

section
variable {α β : Type} {b : Nat} {U : TypeId} {K K' : Kd α} {X X' : α} {ok : Ok} {w : World} {B : List OF} {xs ys : List β} {l h : Int} {n : Nat}
theorem cut_len (e : cut? xs l h = some ys) : h.toNat - l.toNat = ys.length := by
  obtain ⟨h0, h1, h2, rfl⟩ := cut?_some e; simp; omega
theorem cut_cap (e : cut? xs l h = some ys) (g : 0 ≤ l ∧ l ≤ h ∧ h ≤ ((n : Nat) : Int)) (hn : n ≤ maxLen) : ys.length ≤ n - l.toNat ∧ n - l.toNat ≤ maxLen := by
  rw [← cut_len e]; omega
end

theorem LS.to {α β : Type} {K : Kd α} {k : Kd β} {off : Nat} {x x' x2 : α} {y : β} (h : LS K k off x y x') (e : x' = x2) : LS K k off x y x2 := e ▸ h

end Go.Proofs.Kit
