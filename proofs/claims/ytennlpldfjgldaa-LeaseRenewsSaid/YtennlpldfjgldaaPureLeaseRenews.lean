/- LeaseRenews answers true at any three numbers and any list of bytes, and leaves its arguments as they were; no condition beside the row's own. -/
import Derived.Test.YtennlpldfjgldaaWSized
import Derived.Test.YtennlpldfjgldaaPLeaseRenewsx2
namespace Go.Proofs.Ytennlpldfjgldaa.PrintWords
/-- The print's word, under the name by which the printed row calls it. -/
abbrev sized_ints := @Go.Proofs.YtennlpldfjgldaaW.PrintWords.sized_ints
end Go.Proofs.Ytennlpldfjgldaa.PrintWords
namespace Go.Proofs.Ytennlpldfjgldaa.Pure
open Go.RowKit Go.Proofs.Ytennlpldfjgldaa.PLeaseRenews Go.Proofs.YtennlpldfjgldaaW.PrintWords Go.Proofs.YtennlpldfjgldaaW.PrintLast
set_option linter.unusedVariables false
set_option linter.unusedSimpArgs false
theorem w64 {x : Int} (h0 : -9223372036854775808 ≤ x) (h1 : x ≤ 9223372036854775807) : wrap64 x = x := by unfold wrap64; omega
theorem bd64 {n : Int} (h : (Lit.int .i64 n).wf = true) : -9223372036854775808 ≤ n ∧ n ≤ 9223372036854775807 := by
  simp [Lit.wf, IntKind.min, IntKind.max, IntKind.bits, IntKind.signed] at h; omega
theorem within_one (k : Nat) (lo hi a : Int) : lease_within.f (k + 2) lo hi [a] = some (decide (lo ≤ a ∧ a ≤ hi)) := by
  have w1 : wrap64 (0 + 1) = 1 := w64 (by omega) (by omega)
  simp only [lease_within.f, lease_within.l0, List.length_singleton, rd, w1]
  by_cases h1 : a < lo
  · simp [h1]; omega
  · by_cases h2 : a > hi
    · simp [h1, h2]
    · simp [h1, h2]; omega
/-- What 'later' answers. -/
def lat (a n e : Int) : Int × Int := if 0 ≤ a ∧ a ≤ 1099511627776 ∧ 1 ≤ n ∧ n ≤ 1000 then (if a > 1099511627776 - e then (0, 8) else (a + e, 0)) else (0, 1)
theorem later_is (k : Nat) (a n e : Int) (he0 : 0 ≤ e) (he1 : e ≤ 100000) : lease_later.f (k + 2) a n e = some (lat a n e) := by
  have w1 : wrap64 (1099511627776 - e) = 1099511627776 - e := w64 (by omega) (by omega)
  simp only [lease_later.f, within_one, Option.bind_some, lat]
  by_cases h1 : 0 ≤ a ∧ a ≤ 1099511627776
  · have w2 : wrap64 (a + e) = a + e := w64 (by omega) (by omega)
    by_cases h2 : 1 ≤ n ∧ n ≤ 1000
    · have h3 : 0 ≤ a ∧ a ≤ 1099511627776 ∧ 1 ≤ n ∧ n ≤ 1000 := ⟨h1.1, h1.2, h2⟩
      rw [if_pos h3]
      simp only [lease_later.j0, w1, w2, h1, h2, decide_true, Bool.not_true, and_self]
      simp
      split <;> rfl
    · have h3 : ¬ (0 ≤ a ∧ a ≤ 1099511627776 ∧ 1 ≤ n ∧ n ≤ 1000) := fun h => h2 h.2.2
      rw [if_neg h3]
      simp [lease_later.j0, h1, h2]
  · have h3 : ¬ (0 ≤ a ∧ a ≤ 1099511627776 ∧ 1 ≤ n ∧ n ≤ 1000) := fun h => h1 ⟨h.1, h.2.1⟩
    rw [if_neg h3]
    simp [lease_later.j0, h1]
theorem bound_is (n : Int) : lease_bound.f n = some (max 1 (min n 1000)) := by
  simp only [lease_bound.f, mx, mn]; congr 1; omega
/-- What 'Until' and 'Free' answer. -/
def unt (a n : Int) : Int × Int := if 0 ≤ a ∧ a ≤ 1099511627776 ∧ 1 ≤ n ∧ n ≤ 1000 then (if a > 1099511627776 - 8 * n then (0, 8) else (a + 8 * n, 0)) else (0, 1)
def fre (a n : Int) : Int × Int := if 0 ≤ a ∧ a ≤ 1099511627776 ∧ 1 ≤ n ∧ n ≤ 1000 then (if a > 1099511627776 - (72 * n + 6) / 7 then (0, 8) else (a + (72 * n + 6) / 7, 0)) else (0, 1)
theorem until_is (k : Nat) (a n : Int) : lease_Until.f (k + 2) a n = some (unt a n) := by
  have w1 : wrap64 (8 * max 1 (min n 1000)) = 8 * max 1 (min n 1000) := w64 (by omega) (by omega)
  simp only [lease_Until.f, bound_is, Option.bind_some, w1]
  rw [later_is k a n _ (by omega) (by omega)]
  simp only [Option.bind_some, lat, unt]
  by_cases h : 0 ≤ a ∧ a ≤ 1099511627776 ∧ 1 ≤ n ∧ n ≤ 1000
  · have e : max 1 (min n 1000) = n := by omega
    rw [if_pos h, if_pos h, e]
  · rw [if_neg h, if_neg h]
theorem free_is (k : Nat) (a n : Int) : lease_Free.f (k + 2) a n = some (fre a n) := by
  have w1 : wrap64 (72 * max 1 (min n 1000)) = 72 * max 1 (min n 1000) := w64 (by omega) (by omega)
  have w2 : wrap64 (72 * max 1 (min n 1000) + 6) = 72 * max 1 (min n 1000) + 6 := w64 (by omega) (by omega)
  have w3 : Int.tdiv (72 * max 1 (min n 1000) + 6) 7 = (72 * max 1 (min n 1000) + 6) / 7 := Int.tdiv_eq_ediv_of_nonneg (by omega)
  have w4 : wrap64 ((72 * max 1 (min n 1000) + 6) / 7) = (72 * max 1 (min n 1000) + 6) / 7 := w64 (by omega) (by omega)
  simp only [lease_Free.f, bound_is, Option.bind_some, w1, w2, w3, w4]
  rw [later_is k a n _ (by omega) (by omega)]
  simp only [Option.bind_some, lat, fre]
  by_cases h : 0 ≤ a ∧ a ≤ 1099511627776 ∧ 1 ≤ n ∧ n ≤ 1000
  · have e : max 1 (min n 1000) = n := by omega
    rw [if_pos h, if_pos h, e]
  · rw [if_neg h, if_neg h]
theorem holds_is (a b : Int) : lease_Holds.f a b = some (decide (a < b)) := rfl
theorem gone_is (a b : Int) : lease_Gone.f a b = some (decide (a ≥ b)) := rfl
theorem knows_is (k : Nat) : haywainlaw12_knows.f (k + 2) = some true := by
  have u : unt 100 10 = (180, 0) := by decide
  have f : fre 100 10 = (203, 0) := by decide
  simp [haywainlaw12_knows.f, until_is, free_is, u, f, holds_is, gone_is]
theorem tmod9 (x : Int) (h0 : 0 ≤ x) (h1 : x ≤ 255) : ∃ r : Int, wrap64 (Int.tmod x 9) = r ∧ 0 ≤ r ∧ r ≤ 8 ∧ Int.tmod r 3 = r % 3 ∧ wrap64 (Int.tdiv r 3) = r / 3 := by
  have e : Int.tmod x 9 = x % 9 := Int.tmod_eq_emod_of_nonneg h0
  refine ⟨x % 9, ?_, by omega, by omega, Int.tmod_eq_emod_of_nonneg (by omega), ?_⟩
  · rw [e]; exact w64 (by omega) (by omega)
  · rw [Int.tdiv_eq_ediv_of_nonneg (by omega)]; exact w64 (by omega) (by omega)
theorem rd_u8 {l : List Int} (h : ∀ x ∈ l, (Lit.int .u8 x).wf = true) (i : Int) : 0 ≤ rd l i ∧ rd l i ≤ 255 := by
  unfold rd
  rcases Nat.lt_or_ge i.toNat l.length with hl | hl
  · rw [List.getD_eq_getElem?_getD, List.getElem?_eq_getElem hl]
    have := h _ (List.getElem_mem hl)
    simp [Lit.wf, IntKind.min, IntKind.max, IntKind.bits, IntKind.signed] at this
    simp; omega
  · rw [List.getD_eq_getElem?_getD, List.getElem?_eq_none hl]; simp
/-- What holds between the clocks: w the worker's, c the coordinator's, u until when it is held, f from when it is free, s when it was asked, g when what was given was asked. -/
def Inv (n w c u f s g : Int) : Prop := -1 ≤ s ∧ s ≤ w ∧ -1 ≤ g ∧ g ≤ s ∧ (g < 0 → u ≤ 0) ∧ (0 ≤ g → u ≤ g + 8 * n ∧ ∃ x, f = x + (72 * n + 6) / 7 ∧ 7 * (c - x) ≤ 9 * (w - g))
theorem renews_j7 (l : List Int) (n : Int) (k : Nat) (w c u f s g i : Int) (hI : Inv n w c u f s g) (hn : 1 ≤ n ∧ n ≤ 30)
    (ih : haywainlaw12_LeaseRenews.l0 k w c n l u f s g (wrap64 (i + 1)) = some true) : haywainlaw12_LeaseRenews.j7 (k + 1) w c n l u f s g i = some true := by
  simp only [haywainlaw12_LeaseRenews.j7, holds_is, gone_is, Option.bind_some]
  obtain ⟨_, _, _, _, _, h⟩ := hI
  split
  · split
    · by_cases hw : w < u
      · rw [decide_eq_true hw, if_pos rfl]
        obtain ⟨h1, x, h2, h3⟩ := h (by omega)
        rw [decide_eq_false (show ¬ c ≥ f by omega)]
        exact ih
      · rw [decide_eq_false hw]; exact ih
    · exact ih
  · exact ih
theorem renews_j6 (l : List Int) (n : Int) (k : Nat) (w c u f s g i : Int) (b : Bool) (hI : Inv n w c u f s g) (hn : 1 ≤ n ∧ n ≤ 30) (hw : w ≤ 2000000000) (hb : b = true → 0 ≤ g) (hk : 1 ≤ k)
    (ih : ∀ u', Inv n w c u' f s g → haywainlaw12_LeaseRenews.l0 k w c n l u' f s g (wrap64 (i + 1)) = some true) : haywainlaw12_LeaseRenews.j6 (k + 2) w c n l u f s g i b = some true := by
  obtain ⟨k, rfl⟩ : ∃ m, k = m + 1 := ⟨k - 1, by omega⟩
  rw [haywainlaw12_LeaseRenews.j6]
  cases b with
  | false => exact renews_j7 l n _ w c u f s g i hI hn (ih u hI)
  | true =>
    have hg := hb rfl
    obtain ⟨i1, i2, i3, i4, i0, i5⟩ := hI
    have e1 : unt g n = (g + 8 * n, 0) := by rw [unt, if_pos (by omega), if_neg (by omega)]
    rw [until_is, e1, if_pos rfl, Option.bind_some, if_pos rfl]
    have hI' : Inv n w c (g + 8 * n) f s g := ⟨i1, i2, i3, i4, fun h => by omega, fun h => ⟨by omega, (i5 h).2⟩⟩
    split
    · exact renews_j7 l n _ w c _ f s g i hI' hn (ih _ hI')
    · exact renews_j7 l n _ w c u f s g i ⟨i1, i2, i3, i4, i0, i5⟩ hn (ih u ⟨i1, i2, i3, i4, i0, i5⟩)
theorem renews_j3 (l : List Int) (n : Int) (k : Nat) (w c u f s g i b : Int) (hI : Inv n w c u f s g) (hn : 1 ≤ n ∧ n ≤ 30) (hw : w ≤ 2000000000) (hc : 0 ≤ c ∧ c ≤ 2000000000) (hk : 1 ≤ k)
    (ih : ∀ u' f' s' g', Inv n w c u' f' s' g' → haywainlaw12_LeaseRenews.l0 k w c n l u' f' s' g' (wrap64 (i + 1)) = some true) : haywainlaw12_LeaseRenews.j3 (k + 5) w c n l u f s g i b = some true := by
  have j5 : ∀ f' g', Inv n w c u f' s g' → haywainlaw12_LeaseRenews.j5 (k + 3) w c n l u f' s g' i b = some true := by
    intro f' g' hI'
    rw [haywainlaw12_LeaseRenews.j5]
    split
    · exact renews_j6 l n k w c u f' s g' i _ hI' hn hw (fun h => of_decide_eq_true h) hk (fun u' h' => ih u' f' s g' h')
    · exact renews_j6 l n k w c u f' s g' i _ hI' hn hw (fun h => by simp at h) hk (fun u' h' => ih u' f' s g' h')
  have j4 : ∀ x : Bool, (x = true → 0 ≤ s) → haywainlaw12_LeaseRenews.j4 (k + 4) w c n l u f s g i b x = some true := by
    intro x hx
    rw [haywainlaw12_LeaseRenews.j4]
    cases x with
    | false => exact j5 f g hI
    | true =>
      have hs := hx rfl
      obtain ⟨i1, i2, i3, i4, i0, i5⟩ := hI
      have e1 : fre c n = (c + (72 * n + 6) / 7, 0) := by rw [fre, if_pos (by omega), if_neg (by omega)]
      rw [free_is (k + 1), e1, if_pos rfl, Option.bind_some, if_pos rfl]
      refine j5 _ s ⟨i1, i2, i1, Int.le_refl _, fun h => by omega, fun _ => ⟨?_, c, rfl, by omega⟩⟩
      by_cases h : g < 0
      · have := i0 h; omega
      · have := (i5 (by omega)).1; omega
  rw [haywainlaw12_LeaseRenews.j3]
  split
  · exact j4 _ (fun h => of_decide_eq_true h)
  · exact j4 _ (fun h => by simp at h)
theorem renews_l0 (l : List Int) (hl : ∀ x ∈ l, (Lit.int .u8 x).wf = true) (n : Int) (hn : 1 ≤ n ∧ n ≤ 30) (d : Nat) :
    ∀ (k : Nat) (w c u f s g i : Int), Inv n w c u f s g → 0 ≤ i → i ≤ 100 → 0 ≤ w → w ≤ 1073741824 + 9 * i → 0 ≤ c → c ≤ 1073741824 + 9 * i → 100 - i = d → 7 * d + 10 < k →
      haywainlaw12_LeaseRenews.l0 k w c n l u f s g i = some true := by
  induction d with
  | zero =>
    intro k w c u f s g i hI h0 h1 h2 h3 h4 h5 h6 h7
    obtain ⟨k, rfl⟩ : ∃ m, k = m + 4 := ⟨k - 4, by omega⟩
    simp only [haywainlaw12_LeaseRenews.l0, haywainlaw12_LeaseRenews.j2]
    rw [decide_eq_false (show ¬ i < 100 by omega), knows_is]
    simp
  | succ d ih =>
    intro k w c u f s g i hI h0 h1 h2 h3 h4 h5 h6 h7
    obtain ⟨k, rfl⟩ : ∃ m, k = m + 7 := ⟨k - 7, by omega⟩
    rw [haywainlaw12_LeaseRenews.l0]
    by_cases hi : i < (l.length : Int)
    · rw [if_pos hi, decide_eq_true (show i < 100 by omega), haywainlaw12_LeaseRenews.j2, if_pos rfl, if_pos h0, if_pos hi]
      have ub := rd_u8 hl i
      have w0 : wrap64 (rd l i) = rd l i := w64 (by omega) (by omega)
      have w1 : wrap64 (w + 7) = w + 7 := w64 (by omega) (by omega)
      have w2 : wrap64 (c + 7) = c + 7 := w64 (by omega) (by omega)
      have w3 : wrap64 (i + 1) = i + 1 := w64 (by omega) (by omega)
      have e1 : Int.tmod (rd l i) 3 = rd l i % 3 := Int.tmod_eq_emod_of_nonneg ub.1
      have e2 : Int.tdiv (rd l i) 3 = rd l i / 3 := Int.tdiv_eq_ediv_of_nonneg ub.1
      have w4 : wrap64 (rd l i / 3) = rd l i / 3 := w64 (by omega) (by omega)
      have e3 : Int.tmod (rd l i / 3) 3 = rd l i / 3 % 3 := Int.tmod_eq_emod_of_nonneg (by omega)
      have w5 : wrap64 (w + 7 + rd l i % 3) = w + 7 + rd l i % 3 := w64 (by omega) (by omega)
      have w6 : wrap64 (c + 7 + rd l i / 3 % 3) = c + 7 + rd l i / 3 % 3 := w64 (by omega) (by omega)
      rw [w0, w1, w2, e1, e2, w4, e3, w5, w6]
      obtain ⟨i1, i2, i3, i4, i5, i6⟩ := hI
      have hI' : ∀ s', s' = s ∨ s' = w + 7 + rd l i % 3 → Inv n (w + 7 + rd l i % 3) (c + 7 + rd l i / 3 % 3) u f s' g := by
        intro s' hs'
        refine ⟨by omega, by omega, i3, by omega, i5, fun h => ?_⟩
        obtain ⟨h1, x, h2, h3⟩ := i6 h
        exact ⟨h1, x, h2, by omega⟩
      have nxt : ∀ s', s' = s ∨ s' = w + 7 + rd l i % 3 → haywainlaw12_LeaseRenews.j3 (k + 5) (w + 7 + rd l i % 3) (c + 7 + rd l i / 3 % 3) n l u f s' g i (rd l i) = some true := by
        intro s' hs'
        refine renews_j3 l n k _ _ u f s' g i _ (hI' s' hs') hn (by omega) (by omega) (by omega) ?_
        intro u' f' s'' g' hI2
        rw [w3]
        exact ih k _ _ u' f' s'' g' (i + 1) hI2 (by omega) (by omega) (by omega) (by omega) (by omega) (by omega) (by omega) (by omega)
      split
      · exact nxt _ (.inr rfl)
      · exact nxt _ (.inl rfl)
    · rw [if_neg hi, haywainlaw12_LeaseRenews.j2, if_neg (by decide), show k + 5 = (k + 3) + 2 from rfl, knows_is]; rfl
theorem LeaseRenews : haywainlaw12_LeaseRenews.Pure := by
  intro a b n l3 _ _ _ _ _ hl3
  refine ⟨1000, ?_⟩
  have out : haywainlaw12_LeaseRenews.j0 1000 a b n l3 true = some true := by
    rw [show (1000 : Nat) = 999 + 1 from rfl]
    simp only [haywainlaw12_LeaseRenews.j0, if_true]; rw [knows_is 997]; rfl
  simp only [haywainlaw12_LeaseRenews.f]
  by_cases h1 : a < 0
  · rw [if_pos h1]; exact out
  by_cases h2 : a > 1073741824
  · rw [if_neg h1, if_pos h2]; exact out
  by_cases h3 : b < 0
  · rw [if_neg h1, if_neg h2, if_pos h3]; exact out
  by_cases h4 : b > 1073741824
  · rw [if_neg h1, if_neg h2, if_neg h3, if_pos h4]; exact out
  by_cases h5 : n < 1
  · rw [if_neg h1, if_neg h2, if_neg h3, if_neg h4, if_pos h5]; exact out
  rw [if_neg h1, if_neg h2, if_neg h3, if_neg h4, if_neg h5]
  by_cases h6 : n > 30
  · rw [decide_eq_true h6]; exact out
  rw [decide_eq_false h6]
  rw [show (1000 : Nat) = 999 + 1 from rfl]
  simp only [haywainlaw12_LeaseRenews.j0, Bool.false_eq_true, if_false]
  exact renews_l0 l3 hl3 n (by omega) 100 999 a b 0 0 (-1) (-1) 0 ⟨by omega, by omega, by omega, by omega, fun _ => by omega, fun h => by omega⟩ (by omega) (by omega) (by omega) (by omega) (by omega) (by omega) (by omega) (by omega)
end Go.Proofs.Ytennlpldfjgldaa.Pure
