/- Checkpoints, in plain Lean: the document's names of files. -/
import Derived.Test.YtkcpbehgjbionaaCk2
set_option linter.unusedVariables false
set_option linter.unusedSimpArgs false
namespace Go.Proofs.Ytkcpbehgjbionaa.Pure
open Go Go.RowKit Go.Hw Go.Proofs.Ytkcpbehgjbionaa.G
theorem rdigits_loop (K : Nat) : ∀ (f k n : Nat) (t : List Int), f ≤ 20 → n ≤ 1099511627776 → n < 10 ^ (f + 1) → f < k → t.length + f ≤ 100 → haywainref03_Digits.l1 K k ((n : Int), strOfNums t) = some (strOfNums (dgs (f + 1) n ++ t)) := by
  intro f
  induction f with
  | zero =>
    intro k n t _ hm hn hk ht
    obtain ⟨k, rfl⟩ : ∃ j, k = j + 1 := ⟨k - 1, by omega⟩
    have c' : n < 10 := by simpa using hn
    have t1 : (n : Int).tdiv 10 = ((n / 10 : Nat) : Int) := tdivN (n : Int) 10 (by omega)
    have t2 : (n : Int).tmod 10 = ((n % 10 : Nat) : Int) := tmodN (n : Int) 10 (by omega)
    have e1 : divO .i64 (n : Int) 10 = some ((n / 10 : Nat) : Int) := by rw [divO, if_neg (by omega), t1, wrapI (by omega) (by omega)]
    have e2 : remO (n : Int) 10 = some ((n % 10 : Nat) : Int) := by rw [remO, if_neg (by omega), t2]
    rw [haywainref03_Digits.l1]
    simp only [e2, Option.bind_some, t2, t1]
    rw [wrapI (by omega) (by omega), wrapU8, show (48 + ((n % 10 : Nat) : Int)) % 256 = 48 + (n : Int) by omega, catN (by rw [strOf_size, strOf_size]; simp only [List.length_singleton]; omega), Option.bind_some, e1, Option.bind_some, wrapI (by omega) (by omega), condB, if_pos (by omega), strOf_append, dgs, if_pos c']
  | succ f ih =>
    intro k n t hf hm hn hk ht
    obtain ⟨k, rfl⟩ : ∃ j, k = j + 1 := ⟨k - 1, by omega⟩
    have t1 : (n : Int).tdiv 10 = ((n / 10 : Nat) : Int) := tdivN (n : Int) 10 (by omega)
    have t2 : (n : Int).tmod 10 = ((n % 10 : Nat) : Int) := tmodN (n : Int) 10 (by omega)
    have e1 : divO .i64 (n : Int) 10 = some ((n / 10 : Nat) : Int) := by rw [divO, if_neg (by omega), t1, wrapI (by omega) (by omega)]
    have e2 : remO (n : Int) 10 = some ((n % 10 : Nat) : Int) := by rw [remO, if_neg (by omega), t2]
    rw [haywainref03_Digits.l1]
    simp only [e2, Option.bind_some, t2, t1]
    rw [wrapI (by omega) (by omega), wrapU8, show (48 + ((n % 10 : Nat) : Int)) % 256 = 48 + ((n % 10 : Nat) : Int) by omega, catN (by rw [strOf_size, strOf_size]; simp only [List.length_singleton]; omega), Option.bind_some, e1, Option.bind_some, wrapI (by omega) (by omega), condB, strOf_append, dgs]
    by_cases c' : n < 10
    · have c : ((n / 10 : Nat) : Int) = 0 := by omega
      rw [if_pos c, if_pos c', show ((n % 10 : Nat) : Int) = (n : Int) by omega]
    · have c : ¬ ((n / 10 : Nat) : Int) = 0 := by omega
      have h2 : n / 10 < 10 ^ (f + 1) := by rw [Nat.pow_succ] at hn; omega
      rw [if_neg c, if_neg c', ih k _ _ (by omega) (by omega) h2 (by omega) (by simp only [List.length_append, List.length_singleton]; omega), List.append_assoc]
theorem rfile_f {K : Nat} (hK : 30000 ≤ K) (n : Int) : haywainref14_File.f K n = some (fileB n) := by
  rw [haywainref14_File.f, condD, condD, fileB]
  by_cases h : Fr n
  · have h1 : ¬ n < 1 := by have := h.1; omega
    have h2 : ¬ n > 1099511627776 := by have := h.2; omega
    rw [if_neg h1, if_neg h2, if_pos h]
    obtain ⟨j, rfl⟩ := Int.eq_ofNat_of_zero_le (show 0 ≤ n by omega)
    have hj : j ≤ 1099511627776 := by omega
    have hd : haywainref03_Digits.f K (j : Int) = some (strOfNums (dgs 13 j)) := by
      have := rdigits_loop K 12 K j [] (by omega) hj (Nat.lt_of_le_of_lt hj (by decide)) (by omega) (by simp)
      rw [List.append_nil] at this
      exact this
    have hl := dgs_len 13 j
    have e : (⟨#[99]⟩ : ByteArray) = strOfNums [99] := rfl
    rw [hd, Option.bind_some, Int.toNat_natCast, catN (by rw [strOf_size]; show 1 + _ ≤ _; omega), Option.bind_some, e, strOf_append]
    rfl
  · rw [if_neg h]
    by_cases h1 : n < 1
    · rw [if_pos h1]
    · have h2 : n > 1099511627776 := by
        have := fun k => h ⟨by omega, k⟩
        omega
      rw [if_neg h1, if_pos h2]
end Go.Proofs.Ytkcpbehgjbionaa.Pure
