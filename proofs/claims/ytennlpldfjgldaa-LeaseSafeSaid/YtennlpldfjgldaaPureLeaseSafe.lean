/- LeaseSafe answers true at any three numbers and any two lists of bytes, and leaves its arguments as they were; no condition beside the row's own. -/
import Derived.Test.YtennlpldfjgldaaWSized
import Derived.Test.YtennlpldfjgldaaPLeaseSafex2
namespace Go.Proofs.Ytennlpldfjgldaa.PrintWords
/-- The print's word, under the name by which the printed row calls it. -/
abbrev sized_ints := @Go.Proofs.YtennlpldfjgldaaW.PrintWords.sized_ints
end Go.Proofs.Ytennlpldfjgldaa.PrintWords
namespace Go.Proofs.Ytennlpldfjgldaa.Pure
open Go.RowKit Go.Proofs.Ytennlpldfjgldaa.PLeaseSafe Go.Proofs.YtennlpldfjgldaaW.PrintWords Go.Proofs.YtennlpldfjgldaaW.PrintLast
set_option linter.unusedVariables false
set_option linter.unusedSimpArgs false
theorem w64 {x : Int} (h0 : -9223372036854775808 ≤ x) (h1 : x ≤ 9223372036854775807) : wrap64 x = x := by unfold wrap64; omega
theorem bd64 {n : Int} (h : (Lit.int .i64 n).wf = true) : -9223372036854775808 ≤ n ∧ n ≤ 9223372036854775807 := by
  simp [Lit.wf, IntKind.min, IntKind.max, IntKind.bits, IntKind.signed] at h; omega
theorem within_one (k : Nat) (lo hi a : Int) : lease_within.f (k + 2) lo hi [a] = some (decide (lo ≤ a ∧ a ≤ hi)) := by
  have w1 : wrap64 (0 + 1) = 1 := w64 (by omega) (by omega)
  simp only [lease_within.f, lease_within.l0, List.length_singleton, rd, w1]
  by_cases h1 : a < lo
  · simp [h1]; omega
  · by_cases h2 : a > hi
    · simp [h1, h2]
    · simp [h1, h2]; omega
/-- What 'later' answers. -/
def lat (a n e : Int) : Int × Int := if 0 ≤ a ∧ a ≤ 1099511627776 ∧ 1 ≤ n ∧ n ≤ 1000 then (if a > 1099511627776 - e then (0, 8) else (a + e, 0)) else (0, 1)
theorem later_is (k : Nat) (a n e : Int) (he0 : 0 ≤ e) (he1 : e ≤ 100000) : lease_later.f (k + 2) a n e = some (lat a n e) := by
  have w1 : wrap64 (1099511627776 - e) = 1099511627776 - e := w64 (by omega) (by omega)
  simp only [lease_later.f, within_one, Option.bind_some, lat]
  by_cases h1 : 0 ≤ a ∧ a ≤ 1099511627776
  · have w2 : wrap64 (a + e) = a + e := w64 (by omega) (by omega)
    by_cases h2 : 1 ≤ n ∧ n ≤ 1000
    · have h3 : 0 ≤ a ∧ a ≤ 1099511627776 ∧ 1 ≤ n ∧ n ≤ 1000 := ⟨h1.1, h1.2, h2⟩
      rw [if_pos h3]
      simp only [lease_later.j0, w1, w2, h1, h2, decide_true, Bool.not_true, and_self]
      simp
      split <;> rfl
    · have h3 : ¬ (0 ≤ a ∧ a ≤ 1099511627776 ∧ 1 ≤ n ∧ n ≤ 1000) := fun h => h2 h.2.2
      rw [if_neg h3]
      simp [lease_later.j0, h1, h2]
  · have h3 : ¬ (0 ≤ a ∧ a ≤ 1099511627776 ∧ 1 ≤ n ∧ n ≤ 1000) := fun h => h1 ⟨h.1, h.2.1⟩
    rw [if_neg h3]
    simp [lease_later.j0, h1]
theorem bound_is (n : Int) : lease_bound.f n = some (max 1 (min n 1000)) := by
  simp only [lease_bound.f, mx, mn]; congr 1; omega
/-- What 'Until' and 'Free' answer. -/
def unt (a n : Int) : Int × Int := if 0 ≤ a ∧ a ≤ 1099511627776 ∧ 1 ≤ n ∧ n ≤ 1000 then (if a > 1099511627776 - 8 * n then (0, 8) else (a + 8 * n, 0)) else (0, 1)
def fre (a n : Int) : Int × Int := if 0 ≤ a ∧ a ≤ 1099511627776 ∧ 1 ≤ n ∧ n ≤ 1000 then (if a > 1099511627776 - (72 * n + 6) / 7 then (0, 8) else (a + (72 * n + 6) / 7, 0)) else (0, 1)
theorem until_is (k : Nat) (a n : Int) : lease_Until.f (k + 2) a n = some (unt a n) := by
  have w1 : wrap64 (8 * max 1 (min n 1000)) = 8 * max 1 (min n 1000) := w64 (by omega) (by omega)
  simp only [lease_Until.f, bound_is, Option.bind_some, w1]
  rw [later_is k a n _ (by omega) (by omega)]
  simp only [Option.bind_some, lat, unt]
  by_cases h : 0 ≤ a ∧ a ≤ 1099511627776 ∧ 1 ≤ n ∧ n ≤ 1000
  · have e : max 1 (min n 1000) = n := by omega
    rw [if_pos h, if_pos h, e]
  · rw [if_neg h, if_neg h]
theorem free_is (k : Nat) (a n : Int) : lease_Free.f (k + 2) a n = some (fre a n) := by
  have w1 : wrap64 (72 * max 1 (min n 1000)) = 72 * max 1 (min n 1000) := w64 (by omega) (by omega)
  have w2 : wrap64 (72 * max 1 (min n 1000) + 6) = 72 * max 1 (min n 1000) + 6 := w64 (by omega) (by omega)
  have w3 : Int.tdiv (72 * max 1 (min n 1000) + 6) 7 = (72 * max 1 (min n 1000) + 6) / 7 := Int.tdiv_eq_ediv_of_nonneg (by omega)
  have w4 : wrap64 ((72 * max 1 (min n 1000) + 6) / 7) = (72 * max 1 (min n 1000) + 6) / 7 := w64 (by omega) (by omega)
  simp only [lease_Free.f, bound_is, Option.bind_some, w1, w2, w3, w4]
  rw [later_is k a n _ (by omega) (by omega)]
  simp only [Option.bind_some, lat, fre]
  by_cases h : 0 ≤ a ∧ a ≤ 1099511627776 ∧ 1 ≤ n ∧ n ≤ 1000
  · have e : max 1 (min n 1000) = n := by omega
    rw [if_pos h, if_pos h, e]
  · rw [if_neg h, if_neg h]
theorem holds_is (a b : Int) : lease_Holds.f a b = some (decide (a < b)) := rfl
theorem gone_is (a b : Int) : lease_Gone.f a b = some (decide (a ≥ b)) := rfl
theorem knows_is (k : Nat) : haywainlaw12_knows.f (k + 2) = some true := by
  have u : unt 100 10 = (180, 0) := by decide
  have f : fre 100 10 = (203, 0) := by decide
  simp [haywainlaw12_knows.f, until_is, free_is, u, f, holds_is, gone_is]
theorem tmod9 (x : Int) (h0 : 0 ≤ x) (h1 : x ≤ 255) : ∃ r : Int, wrap64 (Int.tmod x 9) = r ∧ 0 ≤ r ∧ r ≤ 8 ∧ Int.tmod r 3 = r % 3 ∧ wrap64 (Int.tdiv r 3) = r / 3 := by
  have e : Int.tmod x 9 = x % 9 := Int.tmod_eq_emod_of_nonneg h0
  refine ⟨x % 9, ?_, by omega, by omega, Int.tmod_eq_emod_of_nonneg (by omega), ?_⟩
  · rw [e]; exact w64 (by omega) (by omega)
  · rw [Int.tdiv_eq_ediv_of_nonneg (by omega)]; exact w64 (by omega) (by omega)
theorem rd_u8 {l : List Int} (h : ∀ x ∈ l, (Lit.int .u8 x).wf = true) (i : Int) : 0 ≤ rd l i ∧ rd l i ≤ 255 := by
  unfold rd
  rcases Nat.lt_or_ge i.toNat l.length with hl | hl
  · rw [List.getD_eq_getElem?_getD, List.getElem?_eq_getElem hl]
    have := h _ (List.getElem_mem hl)
    simp [Lit.wf, IntKind.min, IntKind.max, IntKind.bits, IntKind.signed] at this
    simp; omega
  · rw [List.getD_eq_getElem?_getD, List.getElem?_eq_none hl]; simp
theorem safe_l1 (l : List Int) (hl : ∀ x ∈ l, (Lit.int .u8 x).wf = true) (a b n : Int) (ha : 0 ≤ a ∧ a ≤ 1073741824) (hb : 0 ≤ b ∧ b ≤ 1073741824) (hn : 1 ≤ n ∧ n ≤ 60) (d : Nat) :
    ∀ (k : Nat) (w c i : Int), 0 ≤ i → a + 7 * i ≤ w → w ≤ a + 1000 + 9 * i → b + 7 * i ≤ c → c ≤ b + 9 * i → 150 - i = d → 2 * d + 2 < k →
      haywainlaw12_LeaseSafe.l1 k l (a + 8 * n) (b + (72 * n + 6) / 7) w c i = some true := by
  induction d with
  | zero =>
    intro k w c i h0 h1 h2 h3 h4 h5 h6
    obtain ⟨k, rfl⟩ : ∃ m, k = m + 3 := ⟨k - 3, by omega⟩
    simp only [haywainlaw12_LeaseSafe.l1]
    rw [if_neg (by omega), knows_is]; rfl
  | succ d ih =>
    intro k w c i h0 h1 h2 h3 h4 h5 h6
    obtain ⟨k, rfl⟩ : ∃ m, k = m + 2 := ⟨k - 2, by omega⟩
    simp only [haywainlaw12_LeaseSafe.l1, holds_is, gone_is, Option.bind_some]
    rw [if_pos (by omega)]
    have key : haywainlaw12_LeaseSafe.j5 (k + 1) l (a + 8 * n) (b + (72 * n + 6) / 7) w c i false = some true := by
      simp only [haywainlaw12_LeaseSafe.j5, Bool.false_eq_true, if_false]
      have u := rd_u8 hl i
      obtain ⟨r, e1, r0, r8, e2, e3⟩ := tmod9 _ u.1 u.2
      rw [e1, e2, e3]
      have w1 : wrap64 (w + 7) = w + 7 := w64 (by omega) (by omega)
      have w2 : wrap64 (c + 7) = c + 7 := w64 (by omega) (by omega)
      have w3 : wrap64 (i + 1) = i + 1 := w64 (by omega) (by omega)
      have go : ∀ s : Int, 0 ≤ s → s ≤ 8 → haywainlaw12_LeaseSafe.l1 k l (a + 8 * n) (b + (72 * n + 6) / 7) (wrap64 (wrap64 (w + 7) + s % 3)) (wrap64 (wrap64 (c + 7) + s / 3)) (wrap64 (i + 1)) = some true := by
        intro s s0 s8
        have w4 : wrap64 (w + 7 + s % 3) = w + 7 + s % 3 := w64 (by omega) (by omega)
        have w5 : wrap64 (c + 7 + s / 3) = c + 7 + s / 3 := w64 (by omega) (by omega)
        rw [w1, w2, w3, w4, w5]
        exact ih k _ _ _ (by omega) (by omega) (by omega) (by omega) (by omega) (by omega) (by omega)
      by_cases hi : i < (l.length : Int)
      · rw [if_pos hi, if_pos h0]; exact go r r0 r8
      · rw [if_neg hi]
        split
        · exact go 6 (by omega) (by omega)
        · exact go 0 (by omega) (by omega)
    by_cases hh : w < a + 8 * n
    · have g : decide (c ≥ b + (72 * n + 6) / 7) = false := decide_eq_false (by omega)
      rw [decide_eq_true hh, g, if_pos rfl]; exact key
    · rw [decide_eq_false hh]; exact key
theorem safe_l0 (l3 l : List Int) (hl3 : ∀ x ∈ l3, (Lit.int .u8 x).wf = true) (hl : ∀ x ∈ l, (Lit.int .u8 x).wf = true) (a b n : Int) (ha : 0 ≤ a ∧ a ≤ 1073741824) (hb : 0 ≤ b ∧ b ≤ 1073741824) (hn : 1 ≤ n ∧ n ≤ 60) (d : Nat) :
    ∀ (k : Nat) (w i : Int), 0 ≤ i → a + 7 * i ≤ w → w ≤ a + 9 * i → i ≤ 50 → 50 - i = d → d + 400 < k →
      haywainlaw12_LeaseSafe.l0 k l3 l (a + 8 * n) (b + (72 * n + 6) / 7) w b i = some true := by
  have stop : ∀ (k : Nat) (w i : Int), 0 ≤ i → a + 7 * i ≤ w → w ≤ a + 9 * i → i ≤ 50 → 350 < k → haywainlaw12_LeaseSafe.j3 k l (a + 8 * n) (b + (72 * n + 6) / 7) w b = some true := by
    intro k w i h0 h1 h2 h3 h4
    obtain ⟨k, rfl⟩ : ∃ m, k = m + 1 := ⟨k - 1, by omega⟩
    simp only [haywainlaw12_LeaseSafe.j3]
    exact safe_l1 l hl a b n ha hb hn 150 k w b 0 (by omega) (by omega) (by omega) (by omega) (by omega) (by omega) (by omega)
  induction d with
  | zero =>
    intro k w i h0 h1 h2 h3 h4 h5
    obtain ⟨k, rfl⟩ : ∃ m, k = m + 1 := ⟨k - 1, by omega⟩
    simp only [haywainlaw12_LeaseSafe.l0]
    have s := stop k w i h0 h1 h2 h3 (by omega)
    split
    · rw [if_neg (by omega)]; exact s
    · exact s
  | succ d ih =>
    intro k w i h0 h1 h2 h3 h4 h5
    obtain ⟨k, rfl⟩ : ∃ m, k = m + 1 := ⟨k - 1, by omega⟩
    simp only [haywainlaw12_LeaseSafe.l0]
    by_cases hi : i < (l3.length : Int)
    · rw [if_pos hi, if_pos (by omega), if_pos h0]
      have u := rd_u8 hl3 i
      have e : Int.tmod (rd l3 i) 3 = rd l3 i % 3 := Int.tmod_eq_emod_of_nonneg u.1
      have w0 : wrap64 (rd l3 i % 3) = rd l3 i % 3 := w64 (by omega) (by omega)
      have w1 : wrap64 (w + 7) = w + 7 := w64 (by omega) (by omega)
      have w4 : wrap64 (w + 7 + rd l3 i % 3) = w + 7 + rd l3 i % 3 := w64 (by omega) (by omega)
      have w3 : wrap64 (i + 1) = i + 1 := w64 (by omega) (by omega)
      rw [e, w0, w1, w4, w3]
      exact ih k _ _ (by omega) (by omega) (by omega) (by omega) (by omega) (by omega)
    · rw [if_neg hi]; exact stop k w i h0 h1 h2 h3 (by omega)
theorem LeaseSafe : haywainlaw12_LeaseSafe.Pure := by
  intro a b n l3 l4 _ _ _ _ _ hl3 _ _ hl4
  refine ⟨1000, ?_⟩
  have out : haywainlaw12_LeaseSafe.j0 1000 a b n l3 l4 true = some true := by
    rw [show (1000 : Nat) = 999 + 1 from rfl]
    simp only [haywainlaw12_LeaseSafe.j0, if_true]; rw [knows_is 997]; rfl
  simp only [haywainlaw12_LeaseSafe.f]
  by_cases h1 : a < 0
  · rw [if_pos h1]; exact out
  by_cases h2 : a > 1073741824
  · rw [if_neg h1, if_pos h2]; exact out
  by_cases h3 : b < 0
  · rw [if_neg h1, if_neg h2, if_pos h3]; exact out
  by_cases h4 : b > 1073741824
  · rw [if_neg h1, if_neg h2, if_neg h3, if_pos h4]; exact out
  by_cases h5 : n < 1
  · rw [if_neg h1, if_neg h2, if_neg h3, if_neg h4, if_pos h5]; exact out
  rw [if_neg h1, if_neg h2, if_neg h3, if_neg h4, if_neg h5]
  by_cases h6 : n > 60
  · rw [decide_eq_true h6]; exact out
  rw [decide_eq_false h6]
  have e1 : unt a n = (a + 8 * n, 0) := by rw [unt, if_pos (by omega), if_neg (by omega)]
  have e2 : fre b n = (b + (72 * n + 6) / 7, 0) := by rw [fre, if_pos (by omega), if_neg (by omega)]
  rw [show (1000 : Nat) = 998 + 1 + 1 from rfl]
  simp only [haywainlaw12_LeaseSafe.j0, haywainlaw12_LeaseSafe.j1, Bool.false_eq_true, if_false, until_is 997, free_is 997, Option.bind_some, e1, e2, if_true, bne_self_eq_false]
  exact safe_l0 l3 l4 hl3 hl4 a b n (by omega) (by omega) (by omega) 50 998 a 0 (by omega) (by omega) (by omega) (by omega) (by omega) (by omega)
end Go.Proofs.Ytennlpldfjgldaa.Pure
