/- What the law BoxSorts asks of plain Lean. -/
import Derived.Test.YtdbeannfjjbegaaPure
import Derived.Test.YtdbeannfjjbegaaLBoxSorts
set_option linter.unusedVariables false
set_option linter.unusedSimpArgs false
namespace Go.Proofs.Ytdbeannfjjbegaa.Pure
open Go Go.RowKit Go.Hw Go.Proofs.Ytdbeannfjjbegaa.G
theorem BoxSorts : haywainlaw05_BoxSorts.Pure := by
  intro l hw
  refine ⟨10001, ?_⟩
  rw [haywainlaw05_BoxSorts.f, great_f, knows_f]
  simp only [Option.bind_some]
  by_cases h : 300 < l.length
  · simp [h]
  obtain ⟨r, e1, e2, p, s⟩ := sorts (K := 10001) (Nat.le_refl _) l (by omega)
  have hr := p.length_eq
  simp only [h, decide_false, cond_false]
  rw [own_f (by omega), Option.bind_some, e1, Option.bind_some, e2, Option.bind_some, same_f (by omega) (by omega)]
  rfl
end Go.Proofs.Ytdbeannfjjbegaa.Pure
