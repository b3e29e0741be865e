/- The plain law of CkptLasts. -/
import Derived.Test.YtkcpbehgjbionaaCk4r
import Derived.Test.YtkcpbehgjbionaaLCkptLasts
set_option linter.unusedVariables false
set_option linter.unusedSimpArgs false
namespace Go.Proofs.Ytkcpbehgjbionaa.Pure
open Go Go.RowKit Go.Hw Go.Proofs.Ytkcpbehgjbionaa.G
theorem CkptLasts : haywainlaw14_CkptLasts.Pure := by
  rintro ⟨l⟩ num hw hn
  have hb : BD l := BD_of hw
  obtain ⟨K, hK, hkn⟩ := knows_f
  refine ⟨K, ?_⟩
  obtain ⟨g, hg, hgl⟩ := great_f hK l
  rw [haywainlaw14_CkptLasts.f, hg, Option.bind_some, hkn]
  cases g with
  | true => rfl
  | false =>
    have hl : l.length ≤ 1000 := by have := hgl rfl; omega
    simp only [cond_false, last_f hK hl hb, as_f hl (show 2000 ≤ K by omega), rLast_f hK hl hb, file_f hK, rfile_f hK, Option.bind_some, beq_self_eq_true, cond_true]
end Go.Proofs.Ytkcpbehgjbionaa.Pure
