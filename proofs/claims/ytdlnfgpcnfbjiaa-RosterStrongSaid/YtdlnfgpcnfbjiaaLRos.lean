/- Who is a member, by which nodes count. No program in sight. -/
import Derived.Test.YtdlnfgpcnfbjiaaLPerm
namespace Go.Proofs.Pure
open Go Go.RowKit Go.Proofs.Kit
set_option linter.unusedVariables false

def opB (p : List api_Node) (v : Int) (f : api_Op → Bool) : Bool := match p[v.toNat]? with | some x => f x.Op | none => false
/-- i lies behind k -/
def ahdB (p : List api_Node) (i k : Int) : Bool := match p[k.toNat]? with | some x => x.Past.contains i | none => false
def rmvB (p : List api_Node) (c : Int → Bool) (r who : Int) : Bool := c r && opB p r (fun o => decide (o.Kind = 3) && o.Who.contains who)
/-- r stands against node i's letting in of somebody -/
def barB (p : List api_Node) (c : Int → Bool) (o : api_Op) (i who r : Int) : Bool :=
  decide (o.Kind = 2) && rmvB p c r o.Author && !decide (r = i) && !ahdB p r i && !ahdB p i r || rmvB p c r who && !ahdB p r i
def letsB (p : List api_Node) (c : Int → Bool) (set : List Int) (i who : Int) : Bool :=
  c i && opB p i (fun o => (decide (o.Kind = 1) || decide (o.Kind = 2)) && o.Who.contains who && set.all (fun r => !barB p c o i who r))
def inB (p : List api_Node) (c : Int → Bool) (set : List Int) (who : Int) : Bool := set.any (fun i => letsB p c set i who)
def rosL (p : List api_Node) (c : Int → Bool) (set : List Int) : List Int := coll (fun who => inB p c set (who : Int)) 0 8
def cF (c : List Bool) (v : Int) : Bool := c.getD v.toNat false
def cntB (p : List api_Node) (c : Int → Bool) (x : api_Node) : Bool := decide (x.Op.Kind = 1) || (rosL p c x.Past).contains x.Op.Author
def cntL (p : List api_Node) : Nat → List Bool
  | 0 => []
  | n + 1 => cntL p n ++ [match p[n]? with | some x => cntB p (cF (cntL p n)) x | none => false]
/-- does a node count? -/
def cB (p : List api_Node) : Int → Bool := cF (cntL p p.length)

theorem cnt_len (p : List api_Node) : ∀ n, (cntL p n).length = n
  | 0 => rfl
  | n + 1 => by unfold cntL; rw [List.length_append, cnt_len p n]; rfl
theorem cnt_pre (p : List api_Node) (m : Nat) (v : Int) (h : v.toNat < m) : ∀ d, cF (cntL p (m + d)) v = cF (cntL p m) v
  | 0 => rfl
  | d + 1 => by
    rw [← cnt_pre p m v h d]
    show cF (cntL p (m + d + 1)) v = _
    unfold cF
    rw [cntL, List.getD_eq_getElem?_getD, List.getElem?_append_left (by rw [cnt_len]; omega), ← List.getD_eq_getElem?_getD]
theorem cnt_pre' (p : List api_Node) (m n : Nat) (v : Int) (h : v.toNat < m) (g : m ≤ n) : cF (cntL p n) v = cF (cntL p m) v := by
  obtain ⟨d, rfl⟩ : ∃ d, n = m + d := ⟨n - m, by omega⟩
  exact cnt_pre p m v h d

theorem any_rel {α β : Type} (a : List α) (b : List β) (F : α → Bool) (G : β → Bool) (h1 : ∀ x ∈ a, ∃ y ∈ b, F x = G y) (h2 : ∀ y ∈ b, ∃ x ∈ a, F x = G y) : a.any F = b.any G := by
  rw [Bool.eq_iff_iff, List.any_eq_true, List.any_eq_true]
  constructor
  · rintro ⟨x, hx, e⟩; obtain ⟨y, hy, g⟩ := h1 x hx; exact ⟨y, hy, by rw [← g]; exact e⟩
  · rintro ⟨y, hy, e⟩; obtain ⟨x, hx, g⟩ := h2 y hy; exact ⟨x, hx, by rw [g]; exact e⟩
theorem all_rel {α β : Type} (a : List α) (b : List β) (F : α → Bool) (G : β → Bool) (h1 : ∀ x ∈ a, ∃ y ∈ b, F x = G y) (h2 : ∀ y ∈ b, ∃ x ∈ a, F x = G y) : a.all F = b.all G := by
  rw [Bool.eq_iff_iff, List.all_eq_true, List.all_eq_true]
  constructor
  · intro h y hy; obtain ⟨x, hx, g⟩ := h2 y hy; rw [← g]; exact h x hx
  · intro h x hx; obtain ⟨y, hy, g⟩ := h1 x hx; rw [g]; exact h y hy
/-- two graphs, a set of each, and which nodes of them are the same -/
structure Alike (p q : List api_Node) (c d : Int → Bool) (a b : List Int) (R : Int → Int → Prop) : Prop where
  to : ∀ v ∈ a, ∃ u ∈ b, R v u
  fro : ∀ u ∈ b, ∃ v ∈ a, R v u
  cnt : ∀ v ∈ a, ∀ u ∈ b, R v u → c v = d u
  op : ∀ v u f, R v u → opB p v f = opB q u f
  ahd : ∀ v u v' u', R v u → R v' u' → ahdB p v v' = ahdB q u u'
  eq : ∀ v u v' u', R v u → R v' u' → (v = v' ↔ u = u')
theorem Alike.rmv {p q : List api_Node} {c d : Int → Bool} {a b : List Int} {R : Int → Int → Prop} (h : Alike p q c d a b R) {v u : Int} (hv : v ∈ a) (hu : u ∈ b) (r : R v u) (who : Int) : rmvB p c v who = rmvB q d u who := by
  unfold rmvB
  rw [h.cnt v hv u hu r, h.op v u _ r]
theorem Alike.lets {p q : List api_Node} {c d : Int → Bool} {a b : List Int} {R : Int → Int → Prop} (h : Alike p q c d a b R) {v u : Int} (hv : v ∈ a) (hu : u ∈ b) (r : R v u) (who : Int) : letsB p c a v who = letsB q d b u who := by
  unfold letsB
  rw [h.cnt v hv u hu r]
  have key : ∀ o, (a.all (fun x => !barB p c o v who x)) = (b.all (fun x => !barB q d o u who x)) := fun o => by
    have bar : ∀ x ∈ a, ∀ y ∈ b, R x y → barB p c o v who x = barB q d o u who y := fun x hx y hy g => by
      unfold barB
      rw [h.rmv hx hy g, h.rmv hx hy g, h.ahd x y v u g r, h.ahd v u x y r g, decide_eq_decide.2 (h.eq x y v u g r)]
    refine all_rel _ _ _ _ (fun x hx => ?_) (fun y hy => ?_)
    · obtain ⟨y, hy, g⟩ := h.to x hx; exact ⟨y, hy, by rw [bar x hx y hy g]⟩
    · obtain ⟨x, hx, g⟩ := h.fro y hy; exact ⟨x, hx, by rw [bar x hx y hy g]⟩
  have e : (fun o : api_Op => (decide (o.Kind = 1) || decide (o.Kind = 2)) && o.Who.contains who && a.all (fun x => !barB p c o v who x)) = (fun o : api_Op => (decide (o.Kind = 1) || decide (o.Kind = 2)) && o.Who.contains who && b.all (fun x => !barB q d o u who x)) := funext fun o => by rw [key o]
  rw [e, h.op v u _ r]
theorem Alike.inn {p q : List api_Node} {c d : Int → Bool} {a b : List Int} {R : Int → Int → Prop} (h : Alike p q c d a b R) (who : Int) : inB p c a who = inB q d b who := by
  unfold inB
  refine any_rel _ _ _ _ (fun x hx => ?_) (fun y hy => ?_)
  · obtain ⟨y, hy, g⟩ := h.to x hx; exact ⟨y, hy, h.lets hx hy g who⟩
  · obtain ⟨x, hx, g⟩ := h.fro y hy; exact ⟨x, hx, h.lets hx hy g who⟩
theorem Alike.ros {p q : List api_Node} {c d : Int → Bool} {a b : List Int} {R : Int → Int → Prop} (h : Alike p q c d a b R) : rosL p c a = rosL q d b := by
  unfold rosL
  exact coll_congr _ _ _ _ (fun j _ _ => h.inn (j : Int))
/-- only what is in the set matters -/
theorem ros_congr (p : List api_Node) (c d : Int → Bool) (a : List Int) (h : ∀ v ∈ a, c v = d v) : rosL p c a = rosL p d a :=
  Alike.ros (R := fun v u => v = u) ⟨fun v hv => ⟨v, hv, rfl⟩, fun v hv => ⟨v, hv, rfl⟩, fun v hv u _ e => by rw [← e]; exact h v hv, fun v u f e => by rw [e], fun v u v' u' e e' => by rw [e, e'], fun v u v' u' e e' => by rw [e, e']⟩
theorem cB_eq {p : List api_Node} (hr : rightG p = true) (j : Nat) (hj : j < p.length) : cB p (j : Int) = cntB p (cB p) p[j] := by
  unfold cB
  rw [cnt_pre' p (j + 1) p.length (j : Int) (by omega) (by omega)]
  have e : cF (cntL p (j + 1)) (j : Int) = cntB p (cF (cntL p j)) p[j] := by
    show (cntL p (j + 1)).getD ((j : Int).toNat) false = _
    rw [cntL, List.getElem?_eq_getElem hj, List.getD_eq_getElem?_getD, List.getElem?_append_right (by rw [cnt_len]; omega), cnt_len, Int.toNat_natCast, Nat.sub_self]
    rfl
  rw [e]
  show cntB p (cF (cntL p j)) p[j] = cntB p (cF (cntL p p.length)) p[j]
  unfold cntB
  rw [ros_congr p (cF (cntL p j)) (cF (cntL p p.length)) p[j].Past (fun v hv => by
    obtain ⟨t, e, ht⟩ := past_lt hr j hj v hv
    rw [cnt_pre' p j p.length v (by omega) (by omega)])]
def allS (p : List api_Node) : List Int := (List.range p.length).map (fun (i : Nat) => (i : Int))
theorem allS_mem {p : List api_Node} {v : Int} : v ∈ allS p ↔ ∃ j : Nat, v = (j : Int) ∧ j < p.length := by
  unfold allS
  rw [List.mem_map]
  constructor
  · rintro ⟨j, hj, e⟩; exact ⟨j, e.symm, by simpa using hj⟩
  · rintro ⟨j, e, hj⟩; exact ⟨j, by simpa using hj, e.symm⟩
def rosA (p : List api_Node) : List Int := rosL p (cB p) (allS p)

def SameN (l m : List api_Node) (v u : Int) : Prop := ∃ (j i : Nat) (hj : j < m.length) (hi : i < l.length), v = (j : Int) ∧ u = (i : Int) ∧ m[j].Id = l[i].Id
theorem Sub.op_ {l m : List api_Node} (s : Sub l m) (v u : Int) (f : api_Op → Bool) (r : SameN l m v u) : opB m v f = opB l u f := by
  obtain ⟨j, i, hj, hi, rfl, rfl, e⟩ := r
  unfold opB
  rw [Int.toNat_natCast, Int.toNat_natCast, List.getElem?_eq_getElem hj, List.getElem?_eq_getElem hi]
  show f m[j].Op = f l[i].Op
  rw [s.op hj hi e]
theorem Sub.ahd_ {l m : List api_Node} (s : Sub l m) (v u v' u' : Int) (r : SameN l m v u) (r' : SameN l m v' u') : ahdB m v v' = ahdB l u u' := by
  obtain ⟨j, i, hj, hi, rfl, rfl, e⟩ := r
  obtain ⟨j', i', hj', hi', rfl, rfl, e'⟩ := r'
  have h := s.beh j' j' j i i' hj hj' hi hi' (Nat.le_refl _) e e'
  rw [← behB_iff hj', ← behB_iff hi', ← Bool.eq_iff_iff] at h
  unfold ahdB
  unfold behB at h
  rw [Int.toNat_natCast, Int.toNat_natCast]
  exact h
theorem Sub.eq_ {l m : List api_Node} (s : Sub l m) (v u v' u' : Int) (r : SameN l m v u) (r' : SameN l m v' u') : v = v' ↔ u = u' := by
  obtain ⟨j, i, hj, hi, rfl, rfl, e⟩ := r
  obtain ⟨j', i', hj', hi', rfl, rfl, e'⟩ := r'
  constructor
  · intro h
    have : j = j' := by omega
    subst this
    have := pm_ids s.rl i i' hi hi' (by rw [← e, e'])
    omega
  · intro h
    have : i = i' := by omega
    subst this
    have := pm_ids s.rm j j' hj hj' (by rw [e, e'])
    omega
theorem Sub.cnt {l m : List api_Node} (s : Sub l m) : ∀ (n j i : Nat) (hj : j < m.length) (hi : i < l.length), j ≤ n → m[j].Id = l[i].Id → cB m (j : Int) = cB l (i : Int) := by
  intro n
  induction n using Nat.strongRecOn with
  | _ n ih =>
    intro j i hj hi hn e
    rw [cB_eq s.rm j hj, cB_eq s.rl i hi]
    have hop := s.op hj hi e
    unfold cntB
    have al : Alike m l (cB m) (cB l) m[j].Past l[i].Past (SameN l m) := by
      refine ⟨fun v hv => ?_, fun u hu => ?_, fun v hv u hu r => ?_, fun v u f r => s.op_ v u f r, s.ahd_, s.eq_⟩
      · obtain ⟨t, rfl, ht⟩ := past_lt s.rm j hj v hv
        obtain ⟨a, ha, e1, _⟩ := s.of t (by omega)
        obtain ⟨_, hb⟩ := (s.beh j j t a i (by omega) hj ha hi (Nat.le_refl _) e1 e).1 ⟨hj, hv⟩
        exact ⟨_, hb, t, a, by omega, ha, rfl, rfl, e1⟩
      · obtain ⟨a, rfl, ha⟩ := past_lt s.rl i hi u hu
        obtain ⟨t, ht, e1⟩ := s.down j j a i hj hi (by omega) (Nat.le_refl _) e ⟨hi, hu⟩
        obtain ⟨_, hb⟩ := (s.beh j j t a i ht hj (by omega) hi (Nat.le_refl _) e1 e).2 ⟨hi, hu⟩
        exact ⟨_, hb, t, a, ht, by omega, rfl, rfl, e1⟩
      · obtain ⟨t, a, ht, ha, rfl, rfl, e1⟩ := r
        obtain ⟨t', e2, ht'⟩ := past_lt s.rm j hj _ hv
        have : t' = t := by omega
        subst this
        exact ih t' (by omega) t' a ht ha (Nat.le_refl _) e1
    rw [al.ros, hop]
/-- all of a graph: the roster doesn't hang on the order -/
theorem Sub.ros {l m : List api_Node} (s : Sub l m) (h : l.length ≤ m.length) : rosA m = rosA l := by
  unfold rosA
  refine Alike.ros (R := SameN l m) ⟨fun v hv => ?_, fun u hu => ?_, fun v hv u hu r => ?_, fun v u f r => s.op_ v u f r, s.ahd_, s.eq_⟩
  · obtain ⟨j, rfl, hj⟩ := allS_mem.1 hv
    obtain ⟨i, hi, e, _⟩ := s.of j hj
    exact ⟨_, allS_mem.2 ⟨i, rfl, hi⟩, j, i, hj, hi, rfl, rfl, e⟩
  · obtain ⟨i, rfl, hi⟩ := allS_mem.1 hu
    obtain ⟨j, hj, e⟩ := s.all h i hi
    exact ⟨_, allS_mem.2 ⟨j, rfl, hj⟩, j, i, hj, hi, rfl, rfl, e⟩
  · obtain ⟨j, i, hj, hi, rfl, rfl, e⟩ := r
    exact s.cnt j j i hj hi (Nat.le_refl _) e

theorem ros_strong {p : List api_Node} (hr : rightG p = true) (i : Nat) (hi : i < p.length) (who : Int) (hk : p[i].Op.Kind = 3) (hw : who ∈ p[i].Op.Who) (hc : cB p (i : Int) = true)
    (ha : ∀ k (hk : k < p.length), Beh p i k → p[k].Op.Kind = 2 → who ∉ p[k].Op.Who) : who ∉ rosA p := by
  intro hm
  unfold rosA rosL at hm
  obtain ⟨w, e, _, _, h⟩ := (coll_mem _ _ _ _).1 hm
  rw [← e] at h
  unfold inB at h
  obtain ⟨v, hv, h⟩ := List.any_eq_true.1 h
  obtain ⟨j, rfl, hj⟩ := allS_mem.1 hv
  unfold letsB opB at h
  rw [Int.toNat_natCast, List.getElem?_eq_getElem hj] at h
  simp only [Bool.and_eq_true, Bool.or_eq_true, decide_eq_true_eq] at h
  obtain ⟨h1, ⟨h2, h3⟩, h4⟩ := h
  have h5 := List.all_eq_true.1 h4 (i : Int) (allS_mem.2 ⟨i, rfl, hi⟩)
  unfold barB at h5
  simp only [Bool.not_eq_true', Bool.or_eq_false_iff] at h5
  have h6 := h5.2
  have hrm : rmvB p (cB p) (i : Int) who = true := by
    unfold rmvB opB
    rw [hc, Int.toNat_natCast, List.getElem?_eq_getElem hi]
    simp only [Bool.true_and, Bool.and_eq_true, decide_eq_true_eq]
    exact ⟨hk, by simpa using hw⟩
  rw [hrm] at h6
  have hah : ahdB p (i : Int) (j : Int) = true := by simpa using h6
  have hb : Beh p i j := by
    unfold ahdB at hah
    rw [Int.toNat_natCast, List.getElem?_eq_getElem hj] at hah
    exact ⟨hj, by simpa using hah⟩
  rcases h2 with g | g
  · have hlt := (beh_lt hr hb).1
    have ht := (right_at hr j hj).turn
    unfold turnB at ht
    rw [Bool.and_eq_true] at ht
    have := ht.1
    rw [decide_eq_true g, decide_eq_false (by rw [List.length_take]; omega)] at this
    cases this
  · exact ha j hj hb g (by simpa using h3)


end Go.Proofs.Pure
