/- The plain law of CkptCuts. -/
import Derived.Test.YtkcpbehgjbionaaCk6p
import Derived.Test.YtkcpbehgjbionaaLCkptCuts
set_option linter.unusedVariables false
set_option linter.unusedSimpArgs false
namespace Go.Proofs.Ytkcpbehgjbionaa.Pure
open Go Go.RowKit Go.Hw Go.Proofs.Ytkcpbehgjbionaa.G
theorem CkptCuts : haywainlaw14_CkptCuts.Pure := by
  intro pl q fuel keep hpl hqw hf hkw
  have hqb : Bytes q := Bytes.of_wf hqw.2
  obtain ⟨K, hK, hkn⟩ := knows_f
  refine ⟨K, ?_⟩
  rw [haywainlaw14_CkptCuts.f, hkn, condD, condD]
  by_cases c1 : (q.length : Int) > 500
  · rw [if_pos c1]; rfl
  rw [if_neg c1]
  by_cases c2 : (keep.length : Int) > 100
  · rw [if_pos c2]; rfl
  rw [if_neg c2]
  obtain ⟨n, p, _, hkept, hn, hp, hpl5⟩ := kept_f hK (Bytes2 hpl.2)
  obtain ⟨cs, j, x, y, b1, b2, b3, b4, b5, b6, b7, hL⟩ := begin_f hK hn hp hpl5 hqb (show q.length ≤ 500 by omega) fuel (show keep.length ≤ 100 by omega)
  have w1 : IntKind.wrap .i64 ((n : Int) + 1) = (n : Int) + 1 := wrapI (by omega) (by omega)
  rw [hkept]
  simp only [Option.bind_some, Bool.not_true, cond_false, b1]
  rw [appN (by simp only [List.length_nil]; omega), Option.bind_some, List.nil_append]
  simp only [w1, b2, b3, b5, b6, b7, Option.bind_some, condN, condD, if_true]
  have j0 : ¬ ((j : Int) < 0) := by omega
  have j1 : ¬ ((j : Int) > (cs.length : Int)) := by omega
  rw [if_neg j0, if_neg j1]
  have ha : (if n = 0 then ((0 : Int), ([] : List Int), (4 : Int)) else ((n : Int), p, 0)).1 ≠ (n : Int) + 1 := by
    split
    · simp only; omega
    · simp only; omega
  generalize hA : (if n = 0 then ((0 : Int), ([] : List Int), (4 : Int)) else ((n : Int), p, 0)) = a at ha
  rcases hL.last hp hpl5 hqb (by omega) with ⟨e, _, hj⟩ | ⟨e, _, hj⟩
  · rw [hA] at e
    have h3 : ¬ ((j : Int) > 3) := by omega
    rw [e]
    simp only [beq_self_eq_true, cond_true, condB, if_neg ha, if_true, if_neg h3]
    split <;> rfl
  · have ha' : ¬ ((n : Int) + 1 = a.1) := fun h => ha h.symm
    have h3 : ¬ ((j : Int) < 3) := by omega
    rw [e]
    simp only [beq_self_eq_true, cond_true, condB, if_neg ha', if_true, if_neg h3]
    by_cases h4 : (j : Int) > 3
    · simp [h4]
    · simp [h4]
end Go.Proofs.Ytkcpbehgjbionaa.Pure
