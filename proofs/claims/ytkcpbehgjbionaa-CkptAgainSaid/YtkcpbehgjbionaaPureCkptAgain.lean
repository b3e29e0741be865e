/- The plain law of CkptAgain. -/
import Derived.Test.YtkcpbehgjbionaaCk6p
import Derived.Test.YtkcpbehgjbionaaCkF
import Derived.Test.YtkcpbehgjbionaaLCkptAgain
set_option linter.unusedVariables false
set_option linter.unusedSimpArgs false
namespace Go.Proofs.Ytkcpbehgjbionaa.Pure
open Go Go.RowKit Go.Hw Go.Proofs.Ytkcpbehgjbionaa.G
theorem CkptAgain : haywainlaw14_CkptAgain.Pure := by
  intro pl q fuel keep step hpl hqw hf hkw hst
  have hqb : Bytes q := Bytes.of_wf hqw.2
  obtain ⟨t1, t2⟩ := bd8 hst
  obtain ⟨K, hK, hkn⟩ := knows_f
  refine ⟨K, ?_⟩
  rw [haywainlaw14_CkptAgain.f, hkn, condD, condD]
  by_cases c1 : (q.length : Int) > 500
  · rw [if_pos c1]; rfl
  rw [if_neg c1]
  by_cases c2 : (keep.length : Int) > 100
  · rw [if_pos c2]; rfl
  rw [if_neg c2]
  obtain ⟨n, p, _, hkept, hn, hp, hpl5⟩ := kept_f hK (Bytes2 hpl.2)
  obtain ⟨cs, j, x, y, b1, b2, b3, b4, b5, b6, b7, hL⟩ := begin_f hK hn hp hpl5 hqb (show q.length ≤ 500 by omega) fuel (show keep.length ≤ 100 by omega)
  have w1 : IntKind.wrap .i64 ((n : Int) + 1) = (n : Int) + 1 := wrapI (by omega) (by omega)
  rw [hkept]
  simp only [Option.bind_some, Bool.not_true, cond_false]
  rw [appN (by simp only [List.length_nil]; omega), Option.bind_some, List.nil_append]
  simp only [w1, b2, b3, b5, b6, b7, Option.bind_some]
  -- what is the last one, and what follows
  have hlast : ∃ (m : Nat) (ns : List Nat), (lastS y).1 = (m : Int) ∧ m ≤ 11 ∧ Gd y ns ∧ ns.length ≤ 100 ∧ lastN 0 ns = m ∧ ((lastS y).2.2 = 0 ∨ (lastS y).2.2 = 4) := by
    rcases hL.last hp hpl5 hqb (by omega) with ⟨e, g, _⟩ | ⟨e, g, _⟩
    · refine ⟨n, nsn n, ?_, by omega, g, by rw [nsn_len]; omega, nsn_last n, ?_⟩
      · rw [e]; split
        · simp only; omega
        · rfl
      · rw [e]; split
        · exact .inr rfl
        · exact .inl rfl
    · refine ⟨n + 1, nsn (n + 1), ?_, by omega, g, by rw [nsn_len]; omega, nsn_last (n + 1), ?_⟩
      · rw [e]; simp only; omega
      · rw [e]; exact .inl rfl
  obtain ⟨m, ns, f1, f2, f3, f4, f5, f6⟩ := hlast
  obtain ⟨s, hs, hs2⟩ : ∃ s : Nat, step.tmod 3 = (s : Int) ∧ s ≤ 2 := by
    refine ⟨(step.tmod 3).toNat, ?_, ?_⟩
    · have := Int.tmod_eq_emod_of_nonneg (b := 3) t1; omega
    · have := Int.tmod_eq_emod_of_nonneg (b := 3) t1; omega
  have r1 : remO step 3 = some (s : Int) := by rw [remO, if_neg (by omega), hs]
  have w2 : IntKind.wrap .i64 ((m : Int) + 1) = (m : Int) + 1 := wrapI (by omega) (by omega)
  have w3 : IntKind.wrap .i64 (s : Int) = (s : Int) := wrapI (by omega) (by omega)
  have w4 : IntKind.wrap .i64 ((m : Int) + 1 + (s : Int)) = ((m + 1 + s : Nat) : Int) := by rw [wrapI (by omega) (by omega)]; omega
  have hnx : Bytes [110, 101, 120, 116] := by
    intro v hv
    simp only [List.mem_cons, List.not_mem_nil, or_false] at hv
    rcases hv with rfl | rfl | rfl | rfl <;> exact ⟨by decide, by decide⟩
  obtain ⟨cs2, z, g1, g2, g3, g4, g5⟩ := next_f hK f3 hL.np hL.len f4 (num := m + 1 + s) (by omega) (by omega) hnx (by simp)
  have en : (strOfNums [110, 101, 120, 116]).toList = (⟨#[110, 101, 120, 116]⟩ : ByteArray).toList := rfl
  have hfb : fileB ((m + 1 + s : Nat) : Int) = fn (m + 1 + s) := fileB_of (by omega) (by omega)
  have i0 : idxO [fn (m + 1 + s), mN] 0 = some (fn (m + 1 + s)) := idxN (i := 0)
  have i1 : idxO [fn (m + 1 + s), mN] 1 = some mN := idxN (i := 1)
  have l2 : (([fn (m + 1 + s), mN] : List ByteArray).length : Int) = 2 := rfl
  simp only [f1, hs, r1, w2, w3, w4, g1, g2, g3, g4, g5, en, i0, i1, l2, hfb, rfile_f hK, Option.bind_some, condN, condB, if_true, beq_self_eq_true, cond_true, Bool.not_true, cond_false]
  rcases f6 with h | h
  · rw [if_pos h]
  · rw [if_neg (by rw [h]; decide), if_pos h]
end Go.Proofs.Ytkcpbehgjbionaa.Pure
