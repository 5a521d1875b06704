/- A kit of this claim's own, part 15: a package-level table of whole numbers that is laid. No condition. -/
import Derived.Test.YtankoeffbdnffaaDoorKit10
import Derived.Test.YtankoeffbdnffaaDoorKit14
import Derived.FnData
import Derived.LaidMore
namespace Go.Proofs.Kit
open Go Go.RowKit Go.ChangeShapes Go.WideShapes
set_option linter.unusedSimpArgs false
set_option linter.unusedVariables false

section
variable {P : Program} {T e : TypeId} {H : Type} {enc : TypeId × Value → H} {w : World}

def litsOf (ik : IntKind) (ns : List Int) : List (DataW H) := ns.map fun n => .lit (.int ik n)

theorem rd_ints {base : Nat} {spare : Nat → Bool} {held : Bool} {fuel n : Nat} {ik : IntKind} {cs : List Value} {ns : List Int} {pl : List MemPlace} (hT : P.underlying T = some (.array n e)) (he : P.underlying e = some (.int ik)) (hs : (P.info? e).map (·.size) = some 1) (hS : (P.info? T).map (·.size) = some n)
    (h : DataW.trod enc P w base spare held fuel T cs = some (.agg (litsOf ik ns), pl)) : (karr n (kint ik)).rel (fun _ => True) w ns cs := by
  obtain ⟨xs, m, _, hx0, hl, hx, hi⟩ := DataW.trod_array hT h
  rw [cellsOf_of hS] at hl
  rw [cellsOf_of hs] at hi
  have hd : litsOf ik ns = xs.map (·.1) := by
    have := congrArg Prod.fst hx0
    simpa using this
  have hlen : ns.length = n := by
    have := congrArg List.length hd
    simp [litsOf] at this; omega
  have key : ∀ j, j ≤ n → relL (kint ik) (fun _ => True) w (ns.take j) (cs.take j) := by
    intro j
    induction j with
    | zero => intro _; simp [relL]
    | succ j ih =>
      intro hj
      have h3 := hi j (by omega)
      have h4 : xs[j]? = some (xs[j]'(by omega)) := List.getElem?_eq_getElem (by omega)
      rw [h4] at h3
      obtain ⟨k, h5, h6, h7⟩ := DataW.trod_int he h3
      have h8 : (litsOf (H := H) ik ns)[j]? = some (.lit (.int ik k)) := by
        rw [hd, List.getElem?_map, h4, h6]; rfl
      have h9 : ns[j]? = some k := by
        unfold litsOf at h8
        rw [List.getElem?_map] at h8
        cases hq : ns[j]? with
        | none => rw [hq] at h8; cases h8
        | some q => rw [hq] at h8; simp at h8; rw [h8]
      have e1 : ns.take (j + 1) = ns.take j ++ [k] := by rw [List.take_add_one, h9]; rfl
      have e2 : cs.take (j + 1) = cs.take j ++ [.int ik k] := by
        rw [List.take_add, ← h5]; simp
      rw [e1, e2]
      exact relL_append (ih (by omega)) ⟨_, [], rfl, ⟨rfl, has_of_wf h7⟩, rfl⟩
  have := key n (Nat.le_refl _)
  rw [List.take_of_length_le (by omega), List.take_of_length_le (by omega)] at this
  exact ⟨hlen, this⟩

theorem laid_table {base : Nat} {spare : Nat → Bool} {held : Bool} {fuel n g : Nat} {ik : IntKind} {cs : Array Value} {ns : List Int} {pl : List MemPlace} {nm : String} (hT : P.underlying T = some (.array n e)) (he : P.underlying e = some (.int ik)) (hs : (P.info? e).map (·.size) = some 1) (hS : (P.info? T).map (·.size) = some n)
    (hg : P.globalNamed nm = some g) (hv : w.var? P nm = some cs) (h : DataW.trod enc P w base spare held fuel T cs.toList = some (.agg (litsOf ik ns), pl)) : (ptrTo (karr n (kint ik)) ns).holds (fun _ => True) w (.pointer (some ⟨g, 0, none⟩)) := by
  refine ⟨⟨g, 0, none⟩, cs.toList, rfl, fun j v hj => ⟨?_, trivial⟩, rd_ints hT he hs hS h⟩
  have := World.var?_cell hg hv j
  rw [add_lit, Nat.zero_add, this]
  simpa using hj
end

end Go.Proofs.Kit
