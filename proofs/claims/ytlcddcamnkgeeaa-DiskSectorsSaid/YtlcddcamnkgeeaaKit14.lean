/- A kit of this claim's own, part 14: small words of the printed proofs. No condition. -/
import Derived.Test.YtlcddcamnkgeeaaKit13
namespace Go.Proofs.Kit
open Go Go.RowKit
set_option linter.unusedSimpArgs false
set_option linter.unusedVariables false

def inot (k : IntKind) (x : Int) : Int := ixor k (if k.signed then -1 else k.max) x

section
variable {α β : Type} {b : Nat} {U : TypeId} {K K' : Kd α} {X X' : α} {ok : Ok} {w : World} {B : List OF} {xs ys : List β} {l h : Int} {n : Nat}
theorem nodOne : (idsOf [BF b U K X]).Nodup := by simp [idsOf, BF]
theorem ownOne (h : (BF b U K X).holds ok w) : ∀ q, q ∈ [BF b U K X] → q.holds ok w := fun q hq => by simp at hq; subst hq; exact h
theorem disOne (h : ¬ ok b) : ∀ c, c ∈ idsOf [BF b U K X] → ¬ ok c := fun c hc => by simp [idsOf, BF] at hc; subst hc; exact h
theorem lentIn (h : BF b U K' X' ∈ B) : ∀ c, c ∈ idsOf [BF b U K X] → c ∈ idsOf B := fun c hc => by simp [idsOf, BF] at hc; subst hc; exact mem_idsOf h (by simp [BF])

theorem cut_len (e : cut? xs l h = some ys) : h.toNat - l.toNat = ys.length := by
  obtain ⟨h0, h1, h2, rfl⟩ := cut?_some e; simp; omega
theorem cut_cap (e : cut? xs l h = some ys) (g : 0 ≤ l ∧ l ≤ h ∧ h ≤ ((n : Nat) : Int)) (hn : n ≤ maxLen) : ys.length ≤ n - l.toNat ∧ n - l.toNat ≤ maxLen := by
  rw [← cut_len e]; omega
theorem sl_len (g : 0 ≤ l ∧ l ≤ h ∧ h ≤ ((n : Nat) : Int)) (hn : n ≤ maxLen) : h.toNat - l.toNat ≤ maxLen := by omega
theorem sl_fit (g : 0 ≤ l ∧ l ≤ h ∧ h ≤ ((n : Nat) : Int)) : l.toNat + (h.toNat - l.toNat) ≤ n := by omega
theorem soff_idx {off s : Nat} {i : Int} (g : 0 ≤ l ∧ l ≤ h ∧ h ≤ ((n : Nat) : Int)) (e : 0 ≤ i ∧ i < ((h.toNat - l.toNat : Nat) : Int)) : soff n off l.toNat s + i.toNat * s = off + (l + i).toNat * s := by
  unfold soff
  rw [if_neg (by omega), show (l + i).toNat = l.toNat + i.toNat by omega, Nat.add_mul, Nat.add_assoc]
theorem soff_idxz {off s : Nat} {i : Int} (g : 0 ≤ (0 : Int) ∧ 0 ≤ h ∧ h ≤ ((n : Nat) : Int)) (e : 0 ≤ i ∧ i < ((h.toNat - (0 : Int).toNat : Nat) : Int)) : soff n off (0 : Int).toNat s + i.toNat * s = off + i.toNat * s := by
  have := soff_idx (off := off) (s := s) (l := 0) g e
  rwa [Int.zero_add] at this
theorem soff_idx0 {s : Nat} {i : Int} (g : 0 ≤ l ∧ l ≤ h ∧ h ≤ ((n : Nat) : Int)) (e : 0 ≤ i ∧ i < ((h.toNat - l.toNat : Nat) : Int)) : soff n 0 l.toNat s + i.toNat * s = (l + i).toNat * s := by
  rw [soff_idx g e, Nat.zero_add]
theorem soff_idx0z {s : Nat} {i : Int} (g : 0 ≤ (0 : Int) ∧ 0 ≤ h ∧ h ≤ ((n : Nat) : Int)) (e : 0 ≤ i ∧ i < ((h.toNat - (0 : Int).toNat : Nat) : Int)) : soff n 0 (0 : Int).toNat s + i.toNat * s = i.toNat * s := by
  rw [soff_idxz g e, Nat.zero_add]
end

theorem LS.to {α β : Type} {K : Kd α} {k : Kd β} {off : Nat} {x x' x2 : α} {y : β} (h : LS K k off x y x') (e : x' = x2) : LS K k off x y x2 := e ▸ h

theorem St.keepKnown {C : Ctx} {B : List OF} {E : Env} {a : Act} {w : World} {ok : Ok} {v : Value} {F : Fact} (t : Nat) (h : St C B E a w) (hF : F.holds ok w v) (hk : ∀ n, ok n → okB C (idsOf B) n) : St C B ((t, known v F) :: E) a w :=
  h.fact (F := known v F) (F.mono hF (fun b _ ho => ⟨rfl, hk b ho⟩))
theorem okIn {N : Nat} {w : World} {ok : Ok} : ∀ n, ok n → okB ⟨N, w, ok, []⟩ (idsOf []) n := fun n h => ⟨fun _ => .inl h, by simp [idsOf]⟩
theorem okInX {N : Nat} {w : World} {ok : Ok} {L : List OF} (hd : ∀ b, b ∈ idsOf L → ¬ ok b) : ∀ n, ok n → okB ⟨N, w, ok, idsOf L⟩ (idsOf L) n := fun n h => ⟨fun _ => .inl h, fun hm => hd n hm h⟩

end Go.Proofs.Kit
