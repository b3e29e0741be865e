/- The plain law of MailRights. -/
import Derived.Test.YtlcbgmaajijbjaaMail7
import Derived.Test.YtlcbgmaajijbjaaLMailRights
set_option linter.unusedVariables false
set_option linter.unusedSimpArgs false
namespace Go.Proofs.Ytlcbgmaajijbjaa.Pure
open Go Go.RowKit Go.Hw Go.Proofs.Ytlcbgmaajijbjaa.G
theorem MailRights : haywainlaw15_MailRights.Pure := by
  intro m hw
  obtain ⟨K, hK, hkn⟩ := knows_f
  refine ⟨K, ?_⟩
  obtain ⟨w, e, hfew⟩ := wide_f (K := K) m hK
  rw [haywainlaw15_MailRights.f, e, Option.bind_some, condD]
  by_cases h : w > 100
  · rw [if_pos h, hkn]; rfl
  · have hf := hfew (by omega)
    rw [if_neg h, right_f hf hK, Option.bind_some, as_f, Option.bind_some, rright_f hf hK, Option.bind_some, hkn]
    simp
end Go.Proofs.Ytlcbgmaajijbjaa.Pure
