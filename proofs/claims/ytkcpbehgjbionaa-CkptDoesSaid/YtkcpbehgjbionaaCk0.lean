/- Checkpoints, in plain Lean: the examples; what is too great. -/
import Derived.Test.YtkcpbehgjbionaaCk2
set_option linter.unusedVariables false
set_option linter.unusedSimpArgs false
namespace Go.Proofs.Ytkcpbehgjbionaa.Pure
open Go Go.RowKit Go.Hw Go.Proofs.Ytkcpbehgjbionaa.G
set_option maxRecDepth 100000 in
theorem knows_f : ∃ K, 30000 ≤ K ∧ haywainlaw14_knows.f K = some true := ⟨30000, Nat.le_refl _, by kernel_rfl⟩
end Go.Proofs.Ytkcpbehgjbionaa.Pure
