/- The keyed tag over the document's sum: the program's and the document's are the same. No program in sight. -/
import Derived.Test.YtpihmcfojdkpoaaDoorFSame
namespace Go.Proofs.Pure
open Go Go.RowKit Go.Proofs.Kit

def KK : Nat := 100000
theorem alive_KK : caballaw02_alive KK = some true := by decide +kernel

theorem flat_bound (c : Nat) : ∀ p : List (List Int), (∀ x ∈ p, x.length ≤ c) → p.flatten.length ≤ p.length * c := by
  intro p
  induction p with
  | nil => intro _; simp
  | cons x p ih =>
    intro h
    have h1 := h x (by simp)
    have h2 := ih (fun y hy => h y (by simp [hy]))
    simp only [List.flatten_cons, List.length_append, List.length_cons, Nat.add_mul, Nat.one_mul]
    omega

/-- the document's sum -/
def S (m : List Int) : List Int := (cabalref01_Sum KK m).getD []

theorem S_rep {h : digest_Hash} {m : List Int} (R : Rep KK h m) (hm : m.length ≤ 90000) : digest_Hash_Sum KK h = some (S m) ∧ cabalref01_Sum KK m = some (S m) ∧ (S m).length = 32 ∧ Bytes (S m) := by
  obtain ⟨d, h1, h2, h3, h4⟩ := sum_eq KK (by decide) R (by show m.length + 200 ≤ 100000; omega)
  have : S m = d := by unfold S; rw [h2]; rfl
  rw [this]; exact ⟨h1, h2, h3, h4⟩

theorem S_sum (parts : List (List Int)) (hb : ∀ x ∈ parts, Bytes x) (hp : parts.length ≤ 1000) (hm : parts.flatten.length ≤ 90000) : digest_Sum KK parts = some (S parts.flatten) ∧ cabalref01_Sum KK parts.flatten = some (S parts.flatten) ∧ (S parts.flatten).length = 32 ∧ Bytes (S parts.flatten) := by
  obtain ⟨h1, q1, R1⟩ := write_rep KK (fresh_rep KK) parts hb (by omega) (by show parts.length < 100000; omega) (by show ([] ++ parts.flatten).length + 200 ≤ 100000; rw [List.nil_append]; omega) (by decide)
  rw [List.nil_append] at R1
  obtain ⟨s1, s2, s3, s4⟩ := S_rep R1 hm
  refine ⟨?_, s2, s3, s4⟩
  unfold digest_Sum
  rw [show digest_Hash_Write KK _ parts = some h1 from q1, Option.bind_some, s1]; rfl

theorem S_one (m : List Int) (hb : Bytes m) (hm : m.length ≤ 90000) : digest_Sum KK [m] = some (S m) ∧ cabalref01_Sum KK m = some (S m) ∧ (S m).length = 32 ∧ Bytes (S m) := by
  have := S_sum [m] (fun y hy => by simp at hy; subst hy; exact hb) (by simp) (by simpa using hm)
  simpa using this

theorem bytes_of {x : List Int} (h : Fine kstr x) : Bytes x := h.str.2
theorem Bytes.append {a b : List Int} (ha : Bytes a) (hb : Bytes b) : Bytes (a ++ b) := fun x hx => by
  rcases List.mem_append.1 hx with h | h
  · exact ha x h
  · exact hb x h

/- the key, made up to a block and turned -/
def P (key : List Int) : List Int := key ++ List.replicate (64 - key.length) 0
def T (key : List Int) (by' : Int) : List Int := (P key).map fun x => ixor .u8 x by'
theorem P_len {key : List Int} (h : key.length ≤ 64) : (P key).length = 64 := by simp [P]; omega
theorem T_len {key : List Int} (h : key.length ≤ 64) (b : Int) : (T key b).length = 64 := by simp [T, P_len h]
theorem T_bytes (key : List Int) (b : Int) : Bytes (T key b) := fun x hx => by
  obtain ⟨y, _, rfl⟩ := List.mem_map.1 hx
  exact wrap8_rng _

theorem pad_l1 (K : Nat) (b : Int) : ∀ c n (i : Nat) (y : List Int), i + c = 64 → c < n → y.length = 64 → keyed_pad.l1 K b n (i : Int) y = some (y.take i ++ (y.drop i).map fun x => ixor .u8 x b) := by
  intro c
  induction c with
  | zero =>
    intro n i y hi hn hy
    cases n with
    | zero => omega
    | succ n =>
      rw [keyed_pad.l1, if_neg (by simp; omega), keyed_pad.j1]
      have : cut? y 0 64 = some y := by unfold cut?; rw [if_pos (by omega)]; simp [List.take_of_length_le (Nat.le_of_eq hy)]
      rw [this, List.take_of_length_le (by omega), List.drop_eq_nil_of_le (by omega)]; simp
  | succ c ih =>
    intro n i y hi hn hy
    cases n with
    | zero => omega
    | succ n =>
      have hix : (0 : Int) ≤ (i : Int) ∧ (i : Int) < 64 := by omega
      rw [keyed_pad.l1, if_pos (by simp; omega)]
      simp only [if_pos hix, d_at (show i < y.length by omega) 0, Option.bind_some, d_set (show i < y.length by omega), d_inc i (by omega)]
      rw [ih n (i + 1) _ (by omega) (by omega) (by simpa using hy)]
      congr 1
      have h1 : (y.set i (ixor .u8 (y.getD i 0) b)).take (i + 1) = y.take i ++ [ixor .u8 (y.getD i 0) b] := by
        rw [List.set_eq_take_append_cons_drop, if_pos (by omega), List.take_append]
        simp [List.length_take, Nat.min_eq_left (show i ≤ y.length by omega)]
        rw [List.take_of_length_le (by simp; omega)]
      have h2 : (y.set i (ixor .u8 (y.getD i 0) b)).drop (i + 1) = y.drop (i + 1) := by rw [List.drop_set_of_lt (by omega)]
      have h3 : y.drop i = y.getD i 0 :: y.drop (i + 1) := by
        rw [List.drop_eq_getElem_cons (by omega), List.getD_eq_getElem?_getD, List.getElem?_eq_getElem (by omega)]; rfl
      rw [h1, h2, h3]; simp

theorem pad_eq (K : Nat) (hK : 65 ≤ K) (key : List Int) (b : Int) (h : key.length ≤ 64) : keyed_pad K key b = some (T key b) := by
  unfold keyed_pad
  rw [if_pos (by simpa using h), Option.bind_some]
  have e : (List.replicate 64 (0 : Int)).take (0 : Int).toNat ++ key ++ (List.replicate 64 (0 : Int)).drop ((0 : Int).toNat + key.length) = P key := by
    have e1 : (0 : Int).toNat = 0 := rfl
    rw [e1, List.take_zero, List.nil_append, Nat.zero_add, List.drop_replicate]; rfl
  rw [e]
  refine (pad_l1 K b 64 K 0 (P key) rfl (by omega) (P_len h)).trans ?_
  simp [T]

theorem turned_l1 (K : Nat) (key : List Int) (hk : key.length ≤ 64) (b : Int) : ∀ c n (i : Nat) (y : List Int), i + c = 64 → c < n → y = (T key b).take i → cabalref02_turned.l1 K key b n y (i : Int) = some (T key b) := by
  have hlim : lim = 2147483648 := rfl
  intro c
  induction c with
  | zero =>
    intro n i y hi hn hy
    cases n with
    | zero => omega
    | succ n =>
      rw [cabalref02_turned.l1, if_neg (by simp; omega), cabalref02_turned.j1, hy, List.take_of_length_le (by rw [T_len hk]; omega)]
  | succ c ih =>
    intro n i y hi hn hy
    cases n with
    | zero => omega
    | succ n =>
      have hyl : y.length = i := by rw [hy]; simp [T_len hk]; omega
      have hT : (T key b).take (i + 1) = y ++ [ixor .u8 ((P key).getD i 0) b] := by
        rw [hy, List.take_add_one]
        congr 1
        simp only [T, List.getElem?_map, List.getD_eq_getElem?_getD]
        rw [List.getElem?_eq_getElem (by rw [P_len hk]; omega)]; rfl
      rw [cabalref02_turned.l1, if_pos (by simp; omega)]
      by_cases hlt : i < key.length
      · have hg : (P key).getD i 0 = key.getD i 0 := by simp [P, List.getD_eq_getElem?_getD, List.getElem?_append_left hlt]
        rw [if_pos (by simp; omega), d_at hlt 0, Option.bind_some, cabalref02_turned.j2, if_pos (by rw [hlim]; simp; omega), d_inc i (by omega)]
        exact ih n (i + 1) _ (by omega) (by omega) (by rw [hT, hg])
      · have hg : (P key).getD i 0 = 0 := by
          simp [P, List.getD_eq_getElem?_getD, List.getElem?_append_right (show key.length ≤ i by omega), List.getElem?_replicate]
          split <;> rfl
        rw [if_neg (by simp; omega), cabalref02_turned.j2, if_pos (by rw [hlim]; simp; omega), d_inc i (by omega)]
        exact ih n (i + 1) _ (by omega) (by omega) (by rw [hT, hg])

theorem turned_eq (K : Nat) (hK : 65 ≤ K) (key : List Int) (b : Int) (h : key.length ≤ 64) : cabalref02_turned K key b = some (T key b) :=
  turned_l1 K key h b 64 K 0 [] rfl (by omega) (by simp)

theorem cut32 {l : List Int} (h : l.length = 32) : cut? l 0 32 = some l := by
  unfold cut?; rw [if_pos (by omega)]; simp [List.take_of_length_le (Nat.le_of_eq h)]

/-- a long key's sum stands for it -/
def short (key : List Int) : List Int := if key.length > 64 then S key else key
theorem short_ok {key : List Int} (hb : Bytes key) (hl : key.length ≤ 90000) : (short key).length ≤ 64 ∧ Bytes (short key) := by
  unfold short
  split
  · obtain ⟨_, _, h1, h2⟩ := S_one key hb hl; exact ⟨by omega, h2⟩
  · exact ⟨by omega, hb⟩

/-- the tag -/
def HM (key text : List Int) : List Int := S (T (short key) 92 ++ S (T (short key) 54 ++ text))

theorem one_write {h : digest_Hash} {m : List Int} (R : Rep KK h m) {x : List Int} (hx : Bytes x) (hl : (m ++ x).length ≤ 90000) : ∃ h', digest_Hash_Write KK h [x] = some h' ∧ Rep KK h' (m ++ x) := by
  obtain ⟨h1, q1, R1⟩ := write_rep KK R [x] (fun y hy => by simp at hy; subst hy; exact hx) (by simp) (by show [x].length < 100000; simp) (by show (m ++ [x].flatten).length + 200 ≤ 100000; simp at hl ⊢; omega) (by decide)
  exact ⟨h1, q1, by simpa using R1⟩

theorem HM_ok {key text : List Int} (hk : Bytes key) (hkl : key.length ≤ 90000) (ht : Bytes text) (htl : text.length ≤ 80000) : (HM key text).length = 32 ∧ Bytes (HM key text) := by
  obtain ⟨h1, h2⟩ := short_ok hk hkl
  have a := S_one (T (short key) 54 ++ text) ((T_bytes _ _).append ht) (by rw [List.length_append, T_len h1]; omega)
  have b := S_one (T (short key) 92 ++ S (T (short key) 54 ++ text)) ((T_bytes _ _).append a.2.2.2) (by rw [List.length_append, T_len h1, a.2.2.1]; omega)
  exact ⟨b.2.2.1, b.2.2.2⟩

theorem begin_eq {key : List Int} (hk : Bytes key) (hkl : key.length ≤ 90000) : ∃ M, keyed_Mac_begin KK ⟨⟨false, List.replicate 8 0, List.replicate 64 0, 0, 0⟩, ⟨false, List.replicate 8 0, List.replicate 64 0, 0, 0⟩⟩ key = some M ∧ Rep KK M.Hash (T (short key) 54) ∧ Rep KK M.outer (T (short key) 92) := by
  obtain ⟨h1, h2⟩ := short_ok hk hkl
  obtain ⟨a, qa, Ra⟩ := one_write (fresh_rep KK) (T_bytes (short key) 54) (by rw [List.nil_append, T_len h1]; omega)
  obtain ⟨b, qb, Rb⟩ := one_write (fresh_rep KK) (T_bytes (short key) 92) (by rw [List.nil_append, T_len h1]; omega)
  rw [List.nil_append] at Ra Rb
  refine ⟨⟨a, b⟩, ?_, Ra, Rb⟩
  have j : keyed_Mac_begin.j1 KK ⟨⟨false, List.replicate 8 0, List.replicate 64 0, 0, 0⟩, ⟨false, List.replicate 8 0, List.replicate 64 0, 0, 0⟩⟩ (short key) = some ⟨a, b⟩ := by
    unfold keyed_Mac_begin.j1
    simp only [pad_eq KK (by decide) (short key) _ h1, Option.bind_some, qa, qb]
  unfold keyed_Mac_begin
  by_cases hl : key.length > 64
  · have hs : short key = S key := if_pos hl
    obtain ⟨d1, _, d3, _⟩ := S_one key hk hkl
    rw [if_pos (by simp; omega), d1, Option.bind_some, cut32 d3, Option.bind_some, ← hs]; exact j
  · have hs : short key = key := if_neg hl
    rw [if_neg (by simp; omega)]
    rw [hs] at j; exact j

theorem mactag_eq {M : keyed_Mac} {u v : List Int} (Ru : Rep KK M.Hash u) (Rv : Rep KK M.outer v) (hu : u.length ≤ 90000) (hv : v.length ≤ 80000) : keyed_Mac_Tag KK M = some (S (v ++ S u)) := by
  obtain ⟨s1, _, s3, s4⟩ := S_rep Ru hu
  obtain ⟨h, q, R⟩ := one_write Rv s4 (by rw [List.length_append, s3]; omega)
  obtain ⟨t1, _, _, _⟩ := S_rep R (by rw [List.length_append, s3]; omega)
  unfold keyed_Mac_Tag
  rw [s1, Option.bind_some, cut32 s3, Option.bind_some, q, Option.bind_some, t1]; rfl

theorem tag_eq {key : List Int} (hk : Bytes key) (hkl : key.length ≤ 90000) (parts : List (List Int)) (hb : ∀ x ∈ parts, Bytes x) (hp : parts.length ≤ 1000) (hm : parts.flatten.length ≤ 80000) : keyed_Tag KK key parts = some (HM key parts.flatten) := by
  obtain ⟨M, q, R1, R2⟩ := begin_eq hk hkl
  obtain ⟨h1, _⟩ := short_ok hk hkl
  have l1 := T_len h1 54
  have l2 := T_len h1 92
  obtain ⟨h, q2, R3⟩ := write_rep KK R1 parts hb (by omega) (by show parts.length < 100000; omega) (by show (T (short key) 54 ++ parts.flatten).length + 200 ≤ 100000; rw [List.length_append, l1]; omega) (by decide)
  unfold keyed_Tag
  rw [q, Option.bind_some, q2, Option.bind_some, Option.bind_some, mactag_eq (M := { M with Hash := h }) R3 R2 (by rw [List.length_append, l1]; omega) (by omega)]
  rfl

theorem reftag_eq {key text : List Int} (hk : Bytes key) (hkl : key.length ≤ 90000) (ht : Bytes text) (htl : text.length ≤ 80000) : cabalref02_Tag KK key text = some (HM key text) := by
  have hlim : lim = 2147483648 := rfl
  obtain ⟨h1, _⟩ := short_ok hk hkl
  have l1 := T_len h1 54
  have l2 := T_len h1 92
  obtain ⟨_, a2, a3, a4⟩ := S_one (T (short key) 54 ++ text) ((T_bytes _ _).append ht) (by rw [List.length_append, l1]; omega)
  obtain ⟨_, b2, _, _⟩ := S_one (T (short key) 92 ++ S (T (short key) 54 ++ text)) ((T_bytes _ _).append a4) (by rw [List.length_append, l2, a3]; omega)
  have j : cabalref02_Tag.j1 KK text (short key) = some (HM key text) := by
    unfold cabalref02_Tag.j1
    rw [turned_eq KK (by decide) _ _ h1, Option.bind_some, turned_eq KK (by decide) _ _ h1, Option.bind_some, if_pos (by rw [hlim, l1]; omega), a2, Option.bind_some, cabalref02_Text, cut32 a3, Option.bind_some, Option.bind_some, if_pos (by rw [hlim, l2, a3]; omega), b2]; rfl
  unfold cabalref02_Tag
  by_cases hl : key.length > 64
  · have hs : short key = S key := if_pos hl
    obtain ⟨_, d2, d3, _⟩ := S_one key hk hkl
    rw [if_pos (by simp; omega), d2, Option.bind_some, cabalref02_Text, cut32 d3, Option.bind_some, Option.bind_some, ← hs]; exact j
  · have hs : short key = key := if_neg hl
    rw [if_neg (by simp; omega)]
    rw [hs] at j; exact j

end Go.Proofs.Pure
