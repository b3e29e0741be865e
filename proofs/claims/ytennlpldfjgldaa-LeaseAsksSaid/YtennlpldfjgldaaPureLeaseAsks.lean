/- LeaseAsks answers true at any two numbers, and leaves its arguments as they were; no condition beside the row's own. -/
import Derived.Test.YtennlpldfjgldaaPLeaseAsksx1
namespace Go.Proofs.Ytennlpldfjgldaa.Pure
open Go.RowKit Go.Proofs.Ytennlpldfjgldaa.PLeaseAsks Go.Proofs.YtennlpldfjgldaaW.PrintWords Go.Proofs.YtennlpldfjgldaaW.PrintLast
set_option linter.unusedVariables false
set_option linter.unusedSimpArgs false
theorem w64 {x : Int} (h0 : -9223372036854775808 ≤ x) (h1 : x ≤ 9223372036854775807) : wrap64 x = x := by unfold wrap64; omega
theorem bd64 {n : Int} (h : (Lit.int .i64 n).wf = true) : -9223372036854775808 ≤ n ∧ n ≤ 9223372036854775807 := by
  simp [Lit.wf, IntKind.min, IntKind.max, IntKind.bits, IntKind.signed] at h; omega
theorem within_one (k : Nat) (lo hi a : Int) : lease_within.f (k + 2) lo hi [a] = some (decide (lo ≤ a ∧ a ≤ hi)) := by
  have w1 : wrap64 (0 + 1) = 1 := w64 (by omega) (by omega)
  simp only [lease_within.f, lease_within.l0, List.length_singleton, rd, w1]
  by_cases h1 : a < lo
  · simp [h1]; omega
  · by_cases h2 : a > hi
    · simp [h1, h2]
    · simp [h1, h2]; omega
/-- What 'later' answers. -/
def lat (a n e : Int) : Int × Int := if 0 ≤ a ∧ a ≤ 1099511627776 ∧ 1 ≤ n ∧ n ≤ 1000 then (if a > 1099511627776 - e then (0, 8) else (a + e, 0)) else (0, 1)
theorem later_is (k : Nat) (a n e : Int) (he0 : 0 ≤ e) (he1 : e ≤ 100000) : lease_later.f (k + 2) a n e = some (lat a n e) := by
  have w1 : wrap64 (1099511627776 - e) = 1099511627776 - e := w64 (by omega) (by omega)
  simp only [lease_later.f, within_one, Option.bind_some, lat]
  by_cases h1 : 0 ≤ a ∧ a ≤ 1099511627776
  · have w2 : wrap64 (a + e) = a + e := w64 (by omega) (by omega)
    by_cases h2 : 1 ≤ n ∧ n ≤ 1000
    · have h3 : 0 ≤ a ∧ a ≤ 1099511627776 ∧ 1 ≤ n ∧ n ≤ 1000 := ⟨h1.1, h1.2, h2⟩
      rw [if_pos h3]
      simp only [lease_later.j0, w1, w2, h1, h2, decide_true, Bool.not_true, and_self]
      simp
      split <;> rfl
    · have h3 : ¬ (0 ≤ a ∧ a ≤ 1099511627776 ∧ 1 ≤ n ∧ n ≤ 1000) := fun h => h2 h.2.2
      rw [if_neg h3]
      simp [lease_later.j0, h1, h2]
  · have h3 : ¬ (0 ≤ a ∧ a ≤ 1099511627776 ∧ 1 ≤ n ∧ n ≤ 1000) := fun h => h1 ⟨h.1, h.2.1⟩
    rw [if_neg h3]
    simp [lease_later.j0, h1]
theorem bound_is (n : Int) : lease_bound.f n = some (max 1 (min n 1000)) := by
  simp only [lease_bound.f, mx, mn]; congr 1; omega
/-- What 'Until' and 'Free' answer. -/
def unt (a n : Int) : Int × Int := if 0 ≤ a ∧ a ≤ 1099511627776 ∧ 1 ≤ n ∧ n ≤ 1000 then (if a > 1099511627776 - 8 * n then (0, 8) else (a + 8 * n, 0)) else (0, 1)
def fre (a n : Int) : Int × Int := if 0 ≤ a ∧ a ≤ 1099511627776 ∧ 1 ≤ n ∧ n ≤ 1000 then (if a > 1099511627776 - (72 * n + 6) / 7 then (0, 8) else (a + (72 * n + 6) / 7, 0)) else (0, 1)
theorem until_is (k : Nat) (a n : Int) : lease_Until.f (k + 2) a n = some (unt a n) := by
  have w1 : wrap64 (8 * max 1 (min n 1000)) = 8 * max 1 (min n 1000) := w64 (by omega) (by omega)
  simp only [lease_Until.f, bound_is, Option.bind_some, w1]
  rw [later_is k a n _ (by omega) (by omega)]
  simp only [Option.bind_some, lat, unt]
  by_cases h : 0 ≤ a ∧ a ≤ 1099511627776 ∧ 1 ≤ n ∧ n ≤ 1000
  · have e : max 1 (min n 1000) = n := by omega
    rw [if_pos h, if_pos h, e]
  · rw [if_neg h, if_neg h]
theorem free_is (k : Nat) (a n : Int) : lease_Free.f (k + 2) a n = some (fre a n) := by
  have w1 : wrap64 (72 * max 1 (min n 1000)) = 72 * max 1 (min n 1000) := w64 (by omega) (by omega)
  have w2 : wrap64 (72 * max 1 (min n 1000) + 6) = 72 * max 1 (min n 1000) + 6 := w64 (by omega) (by omega)
  have w3 : Int.tdiv (72 * max 1 (min n 1000) + 6) 7 = (72 * max 1 (min n 1000) + 6) / 7 := Int.tdiv_eq_ediv_of_nonneg (by omega)
  have w4 : wrap64 ((72 * max 1 (min n 1000) + 6) / 7) = (72 * max 1 (min n 1000) + 6) / 7 := w64 (by omega) (by omega)
  simp only [lease_Free.f, bound_is, Option.bind_some, w1, w2, w3, w4]
  rw [later_is k a n _ (by omega) (by omega)]
  simp only [Option.bind_some, lat, fre]
  by_cases h : 0 ≤ a ∧ a ≤ 1099511627776 ∧ 1 ≤ n ∧ n ≤ 1000
  · have e : max 1 (min n 1000) = n := by omega
    rw [if_pos h, if_pos h, e]
  · rw [if_neg h, if_neg h]
theorem holds_is (a b : Int) : lease_Holds.f a b = some (decide (a < b)) := rfl
theorem gone_is (a b : Int) : lease_Gone.f a b = some (decide (a ≥ b)) := rfl
theorem knows_is (k : Nat) : haywainlaw12_knows.f (k + 2) = some true := by
  have u : unt 100 10 = (180, 0) := by decide
  have f : fre 100 10 = (203, 0) := by decide
  simp [haywainlaw12_knows.f, until_is, free_is, u, f, holds_is, gone_is]
theorem LeaseAsks : haywainlaw12_LeaseAsks.Pure := by
  intro a b _ _
  refine ⟨2, ?_⟩
  simp [haywainlaw12_LeaseAsks.f, knows_is 0, holds_is, gone_is]
end Go.Proofs.Ytennlpldfjgldaa.Pure
