/- Numbers, texts and keys as bytes: the two ways of writing come to the same. No program in sight. -/
import Derived.Test.YtlcddcamnkgeeaaWPure
import Derived.Test.YtlcddcamnkgeeaaNum
namespace Go.Proofs.Pure
open Go Go.RowKit Go.Proofs.Kit
set_option linter.unusedVariables false

/-- a number's bytes -/
def enc (n : Int) : List Int :=
  (if 268435456 ≤ n then [n / 268435456 % 128 + 128] else []) ++ (if 2097152 ≤ n then [n / 2097152 % 128 + 128] else []) ++ (if 16384 ≤ n then [n / 16384 % 128 + 128] else []) ++ (if 128 ≤ n then [n / 128 % 128 + 128] else []) ++ [n % 128]
theorem enc_len (n : Int) : (enc n).length ≤ 5 := by unfold enc; simp only [List.length_append]; split <;> split <;> split <;> split <;> simp
theorem enc_pos (n : Int) : 1 ≤ (enc n).length := by unfold enc; simp only [List.length_append, List.length_cons, List.length_nil]; omega

theorem shr7 {x a : Int} (hx : 0 ≤ x ∧ x < 4294967296) (ha : 0 ≤ a ∧ a ≤ 28) : ishr .u32 x a = x / 2 ^ a.toNat := shr_def (by show a.toNat ≤ 32; omega)

theorem l2_step (k n : Nat) (x y1 a : Int) (L : Int → List Int → Option wire_Writer) (out : List Int) (p : Int) (hp : (2 : Int) ^ a.toNat = p) (hp0 : 0 < p) (hx : 0 ≤ x ∧ x < 4294967296) (ha : 0 < a ∧ a ≤ 28) (hl : out.length + 1 ≤ lim) :
    wire_Writer_Numbers.l2 k x y1 L (n + 1) a out = wire_Writer_Numbers.l2 k x y1 L n (a - 7) (out ++ (if p ≤ x then [x / p % 128 + 128] else [])) := by
  rw [wire_Writer_Numbers.l2]
  have h1 : decide (a > 0) = true := by simp; omega
  have h2 : (0 : Int) ≤ a := by omega
  have hs : ishr .u32 x a = x / p := by rw [shr7 hx ⟨h2, ha.2⟩, hp]
  rw [if_pos h1, if_pos h2, hs]
  have hq : (0 < x / p) ↔ p ≤ x := by
    rw [Int.lt_iff_add_one_le, Int.le_ediv_iff_mul_le hp0]; omega
  have hsub : isub .i64 a 7 = a - 7 := sub64 (by omega)
  by_cases hc : p ≤ x
  · have h3 : decide (x / p > 0) = true := by simp; exact hq.2 hc
    have hb : ior .u8 (IntKind.wrap .u8 (x / p)) 128 = x / p % 128 + 128 := by rw [wu8, or128 (by omega)]; omega
    rw [if_pos h3, hb, if_pos hc]
    simp only [Option.bind_some, List.length_cons, List.length_nil, wire_Writer_Numbers.j3, hsub]
    repeat rw [if_pos (by omega)]
  · have h3 : decide (x / p > 0) = false := by simp; exact Int.not_lt.1 (fun h => hc (hq.1 h))
    rw [if_neg (by rw [h3]; decide), if_neg hc]
    simp only [wire_Writer_Numbers.j3, hsub, List.append_nil]

theorem l2_end (k n : Nat) (x y1 a : Int) (L : Int → List Int → Option wire_Writer) (out : List Int) (hx : 0 ≤ x ∧ x < 4294967296) (ha : a ≤ 0) (hy : 0 ≤ y1 ∧ y1 < 4294967296) (hl : out.length + 1 ≤ lim) :
    wire_Writer_Numbers.l2 k x y1 L (n + 1) a out = L (y1 + 1) (out ++ [x % 128]) := by
  rw [wire_Writer_Numbers.l2]
  have h1 : decide (a > 0) = false := by simp; omega
  have hb : iandn .u8 (IntKind.wrap .u8 x) 128 = x % 128 := by rw [wu8, andn128 (by omega)]; omega
  rw [if_neg (by rw [h1]; decide)]
  simp only [wire_Writer_Numbers.j2, wire_Writer_Numbers.j1, hb, List.length_cons, List.length_nil]
  rw [if_pos (by omega), add64 (by omega)]

theorem l2_all (k n : Nat) (x y1 : Int) (L : Int → List Int → Option wire_Writer) (out : List Int) (hx : 0 ≤ x ∧ x < 4294967296) (hy : 0 ≤ y1 ∧ y1 < 4294967296) (hl : out.length + 5 ≤ lim) :
    wire_Writer_Numbers.l2 k x y1 L (n + 5) 28 out = L (y1 + 1) (out ++ enc x) := by
  have q : ∀ c : Prop, [Decidable c] → ∀ v : Int, (if c then [v] else []).length ≤ 1 := fun c _ v => by split <;> simp
  rw [show n + 5 = (n + 4) + 1 from rfl, l2_step k (n + 4) x y1 28 L out 268435456 (by decide) (by decide) hx (by decide) (by omega)]
  rw [show n + 4 = (n + 3) + 1 from rfl, l2_step k (n + 3) x y1 (28 - 7) L _ 2097152 (by decide) (by decide) hx (by decide) (by have := q (268435456 ≤ x) (x / 268435456 % 128 + 128); simp only [List.length_append]; omega)]
  rw [show n + 3 = (n + 2) + 1 from rfl, l2_step k (n + 2) x y1 (28 - 7 - 7) L _ 16384 (by decide) (by decide) hx (by decide) (by have := q (268435456 ≤ x) (x / 268435456 % 128 + 128); have := q (2097152 ≤ x) (x / 2097152 % 128 + 128); simp only [List.length_append]; omega)]
  rw [show n + 2 = (n + 1) + 1 from rfl, l2_step k (n + 1) x y1 (28 - 7 - 7 - 7) L _ 128 (by decide) (by decide) hx (by decide) (by have := q (268435456 ≤ x) (x / 268435456 % 128 + 128); have := q (2097152 ≤ x) (x / 2097152 % 128 + 128); have := q (16384 ≤ x) (x / 16384 % 128 + 128); simp only [List.length_append]; omega)]
  rw [l2_end k n x y1 _ L _ hx (by decide) hy (by
    have := q (268435456 ≤ x) (x / 268435456 % 128 + 128); have := q (2097152 ≤ x) (x / 2097152 % 128 + 128); have := q (16384 ≤ x) (x / 16384 % 128 + 128); have := q (128 ≤ x) (x / 128 % 128 + 128); simp only [List.length_append]; omega)]
  congr 1
  unfold enc
  simp only [List.append_assoc]

def encs (l : List Int) : List Int := l.flatMap enc
theorem encs_nil : encs [] = [] := rfl
theorem encs_cons (x : Int) (l : List Int) : encs (x :: l) = enc x ++ encs l := rfl
theorem encs_append (a b : List Int) : encs (a ++ b) = encs a ++ encs b := by simp [encs]
theorem encs_len (l : List Int) : (encs l).length ≤ 5 * l.length := by
  induction l with
  | nil => simp [encs]
  | cons x l ih => rw [encs_cons, List.length_append, List.length_cons]; have := enc_len x; omega
def U32 (l : List Int) : Prop := ∀ x ∈ l, 0 ≤ x ∧ x < 4294967296

/-- the writer writes numbers -/
theorem numbers_l1 (k : Nat) (l : List Int) (hl : U32 l) (hn : l.length < 1000000) (hk : 5 ≤ k) : ∀ (m i : Nat) (out : List Int) (n : Nat), i + m = l.length → m < n → out.length + 5 * m + 5 ≤ lim →
    wire_Writer_Numbers.l1 k l n (i : Int) out = some ⟨out ++ encs (l.drop i)⟩ := by
  intro m
  induction m with
  | zero =>
    intro i out n hi hm hlim
    obtain ⟨n, rfl⟩ : ∃ q, n = q + 1 := ⟨n - 1, by omega⟩
    rw [wire_Writer_Numbers.l1, if_neg (by simp; omega), List.drop_eq_nil_of_le (by omega), encs_nil, List.append_nil]
  | succ m ih =>
    intro i out n hi hm hlim
    obtain ⟨n, rfl⟩ : ∃ q, n = q + 1 := ⟨n - 1, by omega⟩
    have hil : i < l.length := by omega
    rw [wire_Writer_Numbers.l1, if_pos (by simp; omega), at_get hil]
    simp only [Option.bind_some]
    obtain ⟨k', rfl⟩ : ∃ q, k = q + 5 := ⟨k - 5, by omega⟩
    rw [l2_all _ _ _ _ _ _ (hl _ (List.getElem_mem hil)) (by omega) (by omega)]
    have := ih (i + 1) (out ++ enc l[i]) n (by omega) (by omega) (by have := enc_len l[i]; rw [List.length_append]; omega)
    rw [show ((i : Int) + 1) = ((i + 1 : Nat) : Int) by omega, this, List.drop_eq_getElem_cons hil, encs_cons, List.append_assoc]

theorem numbers_eq (k : Nat) (w : wire_Writer) (l : List Int) (hl : U32 l) (hk : l.length < k) (h5 : 5 ≤ k) (hn : l.length < 1000000) (hlim : w.out.length + 5 * l.length + 5 ≤ lim) : wire_Writer_Numbers k w l = some ⟨w.out ++ encs l⟩ := by
  have := numbers_l1 k l hl hn h5 l.length 0 w.out k (by omega) hk hlim
  simpa [wire_Writer_Numbers] using this

/-- the reference writes a number -/
theorem ref_step (k n : Nat) (x : Int) (acc : List Int) (hx : 0 < x ∧ x < 4294967296) (hl : acc.length + 1 ≤ lim) : cabalref10_Number.l1 k (n + 1) x acc = cabalref10_Number.l1 k n (x / 128) ((x % 128 + 128) :: acc) := by
  rw [cabalref10_Number.l1, if_pos (by simp; omega), rem_pos (by omega), add32 (by omega), wu8s (by omega), quo32 (by omega) (by omega)]
  simp only [Option.bind_some, List.length_cons, List.length_nil, List.cons_append, List.nil_append]
  rw [if_pos (by omega)]
theorem ref_end (k n : Nat) (acc : List Int) : cabalref10_Number.l1 k (n + 1) 0 acc = some acc := by
  rw [cabalref10_Number.l1, if_neg (by decide)]; rfl

theorem ref_number (k : Nat) (x : Int) (hx : 0 ≤ x ∧ x < 4294967296) (hk : 6 ≤ k) : cabalref10_Number k x = some (enc x) := by
  obtain ⟨n, rfl⟩ : ∃ q, k = q + 6 := ⟨k - 6, by omega⟩
  unfold cabalref10_Number
  have L : ∀ m : Nat, m ≤ 100 → m ≤ lim := fun m h => by unfold lim; omega
  rw [quo32 hx (by omega), rem_pos hx.1, wu8s (by omega)]
  by_cases h1 : x < 128
  · rw [show x / 128 = 0 by omega, ref_end]
    unfold enc
    rw [if_neg (by omega), if_neg (by omega), if_neg (by omega), if_neg (by omega)]; rfl
  rw [show n + 6 = (n + 5) + 1 from rfl, ref_step _ _ _ _ (by omega) (L _ (by simp))]
  by_cases h2 : x < 16384
  · rw [show x / 128 / 128 = 0 by omega, ref_end]
    unfold enc
    rw [if_neg (by omega), if_neg (by omega), if_neg (by omega), if_pos (by omega)]; rfl
  rw [show n + 5 = (n + 4) + 1 from rfl, ref_step _ _ _ _ (by omega) (L _ (by simp))]
  by_cases h3 : x < 2097152
  · rw [show x / 128 / 128 / 128 = 0 by omega, ref_end]
    unfold enc
    rw [if_neg (by omega), if_neg (by omega), if_pos (by omega), if_pos (by omega), show x / 128 / 128 = x / 16384 by omega]; rfl
  rw [show n + 4 = (n + 3) + 1 from rfl, ref_step _ _ _ _ (by omega) (L _ (by simp))]
  by_cases h4 : x < 268435456
  · rw [show x / 128 / 128 / 128 / 128 = 0 by omega, ref_end]
    unfold enc
    rw [if_neg (by omega), if_pos (by omega), if_pos (by omega), if_pos (by omega), show x / 128 / 128 / 128 = x / 2097152 by omega, show x / 128 / 128 = x / 16384 by omega]; rfl
  rw [show n + 3 = (n + 2) + 1 from rfl, ref_step _ _ _ _ (by omega) (L _ (by simp))]
  rw [show x / 128 / 128 / 128 / 128 / 128 = 0 by omega, ref_end]
  unfold enc
  rw [if_pos (by omega), if_pos (by omega), if_pos (by omega), if_pos (by omega), show x / 128 / 128 / 128 / 128 = x / 268435456 by omega, show x / 128 / 128 / 128 = x / 2097152 by omega, show x / 128 / 128 = x / 16384 by omega]; rfl

/-- a text's bytes -/
def encT (s : List Int) : List Int := enc (s.length : Int) ++ s
theorem texts_l1 (k : Nat) (l : List (List Int)) (hn : l.length < 1000) (hs : ∀ s ∈ l, s.length ≤ 5000) (hk : 6 ≤ k) : ∀ (m i : Nat) (out : List Int) (n : Nat), i + m = l.length → m < n → out.length + 6000 * m + 10 ≤ lim →
    wire_Writer_Texts.l1 k l n (i : Int) out = some ⟨out ++ (l.drop i).flatMap encT⟩ := by
  intro m
  induction m with
  | zero =>
    intro i out n hi hm hlim
    obtain ⟨n, rfl⟩ : ∃ q, n = q + 1 := ⟨n - 1, by omega⟩
    rw [wire_Writer_Texts.l1, if_neg (by simp; omega), List.drop_eq_nil_of_le (by omega)]; simp
  | succ m ih =>
    intro i out n hi hm hlim
    obtain ⟨n, rfl⟩ : ∃ q, n = q + 1 := ⟨n - 1, by omega⟩
    have hil : i < l.length := by omega
    have hsl := hs _ (List.getElem_mem hil)
    rw [wire_Writer_Texts.l1, if_pos (by simp; omega), at_get hil]
    simp only [Option.bind_some]
    rw [wu32s (by omega), numbers_eq k ⟨out⟩ [((l[i].length : Nat) : Int)] (fun x hx => by simp at hx; subst hx; omega) (by simp; omega) (by omega) (by simp) (by simp; omega)]
    simp only [Option.bind_some]
    have he := enc_len (l[i].length : Int)
    have e1 : encs [((l[i].length : Nat) : Int)] = enc (l[i].length : Int) := by simp [encs]
    rw [e1, if_pos (by rw [List.length_append]; omega), add64 (by omega)]
    rw [show ((i : Int) + 1) = ((i + 1 : Nat) : Int) by omega, ih (i + 1) _ n (by omega) (by omega) (by simp only [List.length_append]; omega)]
    rw [List.drop_eq_getElem_cons hil, List.flatMap_cons]
    simp [encT]
theorem texts_eq (k : Nat) (w : wire_Writer) (l : List (List Int)) (hn : l.length < 1000) (hs : ∀ s ∈ l, s.length ≤ 5000) (hk : 6 ≤ k) (hk2 : l.length < k) (hlim : w.out.length + 6000 * l.length + 10 ≤ lim) : wire_Writer_Texts k w l = some ⟨w.out ++ l.flatMap encT⟩ := by
  have := texts_l1 k l hn hs hk l.length 0 w.out k (by omega) hk2 hlim
  simpa [wire_Writer_Texts] using this
theorem ref_text (k : Nat) (s : List Int) (hs : s.length ≤ 5000) (hk : 6 ≤ k) : cabalref10_Text k s = some (encT s) := by
  unfold cabalref10_Text
  rw [wu32s (by omega), ref_number k _ (by omega) hk]
  simp only [Option.bind_some]
  rw [if_pos (by have := enc_len (s.length : Int); unfold lim; omega)]; rfl

/-- keys' bytes -/
def Key32 (l : List (List Int)) : Prop := ∀ s ∈ l, s.length = 32
theorem flat_len {l : List (List Int)} (h : Key32 l) : l.flatten.length = 32 * l.length := by
  induction l with
  | nil => rfl
  | cons s l ih => rw [List.flatten_cons, List.length_append, ih (fun x hx => h x (by simp [hx])), h s (by simp), List.length_cons]; omega
theorem cut32 {s : List Int} (h : s.length = 32) : cut? s (0 : Int) (32 : Int) = some s := by
  have := cut_pre (l := s) (n := 32) (by omega)
  rw [List.take_of_length_le (by omega)] at this; exact this
theorem keys_l1 (k : Nat) (l : List (List Int)) (hn : l.length < 1000) (hs : Key32 l) : ∀ (m i : Nat) (out : List Int) (n : Nat), i + m = l.length → m < n → out.length + 32 * m + 10 ≤ lim →
    wire_Writer_Keys.l1 k l n (i : Int) out = some ⟨out ++ (l.drop i).flatten⟩ := by
  intro m
  induction m with
  | zero =>
    intro i out n hi hm hlim
    obtain ⟨n, rfl⟩ : ∃ q, n = q + 1 := ⟨n - 1, by omega⟩
    rw [wire_Writer_Keys.l1, if_neg (by simp; omega), List.drop_eq_nil_of_le (by omega)]; simp
  | succ m ih =>
    intro i out n hi hm hlim
    obtain ⟨n, rfl⟩ : ∃ q, n = q + 1 := ⟨n - 1, by omega⟩
    have hil : i < l.length := by omega
    have hsl := hs _ (List.getElem_mem hil)
    rw [wire_Writer_Keys.l1, if_pos (by simp; omega), at_get hil]
    simp only [Option.bind_some, cut32 hsl]
    rw [if_pos (by omega), add64 (by omega)]
    rw [show ((i : Int) + 1) = ((i + 1 : Nat) : Int) by omega, ih (i + 1) _ n (by omega) (by omega) (by simp only [List.length_append]; omega)]
    rw [List.drop_eq_getElem_cons hil, List.flatten_cons]
    simp
theorem keys_eq (k : Nat) (w : wire_Writer) (l : List (List Int)) (hn : l.length < 1000) (hs : Key32 l) (hk2 : l.length < k) (hlim : w.out.length + 32 * l.length + 10 ≤ lim) : wire_Writer_Keys k w l = some ⟨w.out ++ l.flatten⟩ := by
  have := keys_l1 k l hn hs l.length 0 w.out k (by omega) hk2 hlim
  simpa [wire_Writer_Keys] using this
theorem keylist_eq (k : Nat) (w : wire_Writer) (l : List (List Int)) (hn : l.length < 1000) (hs : Key32 l) (hk : 6 ≤ k) (hk2 : l.length < k) (hlim : w.out.length + 32 * l.length + 100 ≤ lim) : wire_Writer_KeyList k w l = some ⟨w.out ++ (enc (l.length : Int) ++ l.flatten)⟩ := by
  unfold wire_Writer_KeyList
  have he := enc_len (l.length : Int)
  have e1 : encs [((l.length : Nat) : Int)] = enc (l.length : Int) := by simp [encs]
  rw [wu32s (by omega), numbers_eq k w [((l.length : Nat) : Int)] (fun x hx => by simp at hx; subst hx; omega) (by simp; omega) (by omega) (by simp) (by simp; omega), e1]
  simp only [Option.bind_some]
  rw [keys_eq k _ l hn hs hk2 (by simp only [List.length_append]; omega)]
  simp
theorem numlist_eq (k : Nat) (w : wire_Writer) (l : List Int) (hn : l.length < 10000) (hs : U32 l) (hk : 6 ≤ k) (hk2 : l.length < k) (hlim : w.out.length + 5 * l.length + 100 ≤ lim) : wire_Writer_NumberList k w l = some ⟨w.out ++ (enc (l.length : Int) ++ encs l)⟩ := by
  unfold wire_Writer_NumberList
  have he := enc_len (l.length : Int)
  have e1 : encs [((l.length : Nat) : Int)] = enc (l.length : Int) := by simp [encs]
  rw [wu32s (by omega), numbers_eq k w [((l.length : Nat) : Int)] (fun x hx => by simp at hx; subst hx; omega) (by simp; omega) (by omega) (by simp) (by simp; omega), e1]
  simp only [Option.bind_some]
  rw [numbers_eq k _ l hs hk2 (by omega) (by omega) (by simp only [List.length_append]; omega)]
  simp
theorem ref_keys_l1 (k : Nat) (l : List (List Int)) (hn : l.length < 1000) (hs : Key32 l) : ∀ (m i : Nat) (out : List Int) (n : Nat), i + m = l.length → m < n → out.length + 32 * m + 10 ≤ lim →
    cabalref10_KeyList.l1 k l n out (i : Int) = some (out ++ (l.drop i).flatten) := by
  intro m
  induction m with
  | zero =>
    intro i out n hi hm hlim
    obtain ⟨n, rfl⟩ : ∃ q, n = q + 1 := ⟨n - 1, by omega⟩
    rw [cabalref10_KeyList.l1, if_neg (by simp; omega), List.drop_eq_nil_of_le (by omega)]; simp [cabalref10_KeyList.j1]
  | succ m ih =>
    intro i out n hi hm hlim
    obtain ⟨n, rfl⟩ : ∃ q, n = q + 1 := ⟨n - 1, by omega⟩
    have hil : i < l.length := by omega
    have hsl := hs _ (List.getElem_mem hil)
    rw [cabalref10_KeyList.l1, if_pos (by simp; omega), at_get hil]
    simp only [Option.bind_some, cut32 hsl]
    rw [if_pos (by omega), add64 (by omega)]
    rw [show ((i : Int) + 1) = ((i + 1 : Nat) : Int) by omega, ih (i + 1) _ n (by omega) (by omega) (by simp only [List.length_append]; omega)]
    rw [List.drop_eq_getElem_cons hil, List.flatten_cons]
    simp
theorem ref_keylist (k : Nat) (l : List (List Int)) (hn : l.length < 1000) (hs : Key32 l) (hk : 6 ≤ k) (hk2 : l.length < k) : cabalref10_KeyList k l = some (enc (l.length : Int) ++ l.flatten) := by
  unfold cabalref10_KeyList
  rw [wu32s (by omega), ref_number k _ (by omega) hk]
  simp only [Option.bind_some]
  have := ref_keys_l1 k l hn hs l.length 0 (enc (l.length : Int)) k (by omega) hk2 (by have := enc_len (l.length : Int); unfold lim; omega)
  simpa using this
theorem ref_nums_l1 (k : Nat) (l : List Int) (hn : l.length < 10000) (hs : U32 l) (hk : 6 ≤ k) : ∀ (m i : Nat) (out : List Int) (n : Nat), i + m = l.length → m < n → out.length + 5 * m + 10 ≤ lim →
    cabalref10_NumberList.l1 k l n out (i : Int) = some (out ++ encs (l.drop i)) := by
  intro m
  induction m with
  | zero =>
    intro i out n hi hm hlim
    obtain ⟨n, rfl⟩ : ∃ q, n = q + 1 := ⟨n - 1, by omega⟩
    rw [cabalref10_NumberList.l1, if_neg (by simp; omega), List.drop_eq_nil_of_le (by omega)]; simp [cabalref10_NumberList.j1, encs_nil]
  | succ m ih =>
    intro i out n hi hm hlim
    obtain ⟨n, rfl⟩ : ∃ q, n = q + 1 := ⟨n - 1, by omega⟩
    have hil : i < l.length := by omega
    have he := enc_len l[i]
    rw [cabalref10_NumberList.l1, if_pos (by simp; omega), at_get hil]
    simp only [Option.bind_some]
    rw [ref_number k _ (hs _ (List.getElem_mem hil)) hk]
    simp only [Option.bind_some]
    rw [if_pos (by omega), add64 (by omega)]
    rw [show ((i : Int) + 1) = ((i + 1 : Nat) : Int) by omega, ih (i + 1) _ n (by omega) (by omega) (by simp only [List.length_append]; omega)]
    rw [List.drop_eq_getElem_cons hil, encs_cons]
    simp
theorem ref_numlist (k : Nat) (l : List Int) (hn : l.length < 10000) (hs : U32 l) (hk : 6 ≤ k) (hk2 : l.length < k) : cabalref10_NumberList k l = some (enc (l.length : Int) ++ encs l) := by
  unfold cabalref10_NumberList
  rw [wu32s (by omega), ref_number k _ (by omega) hk]
  simp only [Option.bind_some]
  have := ref_nums_l1 k l hn hs hk l.length 0 (enc (l.length : Int)) k (by omega) hk2 (by have := enc_len (l.length : Int); unfold lim; omega)
  simpa using this

end Go.Proofs.Pure
