/- The plain law of MailEncodes. -/
import Derived.Test.YtlcbgmaajijbjaaMail7
import Derived.Test.YtlcbgmaajijbjaaLMailEncodes
set_option linter.unusedVariables false
set_option linter.unusedSimpArgs false
namespace Go.Proofs.Ytlcbgmaajijbjaa.Pure
open Go Go.RowKit Go.Hw Go.Proofs.Ytlcbgmaajijbjaa.G
theorem MailEncodes : haywainlaw15_MailEncodes.Pure := by
  intro m hw
  obtain ⟨K, hK, hkn⟩ := knows_f
  refine ⟨K, ?_⟩
  obtain ⟨w, e, hfew⟩ := wide_f (K := K) m hK
  rw [haywainlaw15_MailEncodes.f, e, Option.bind_some, condD]
  by_cases h : w > 100
  · rw [if_pos h, hkn]; rfl
  · have hf := hfew (by omega)
    rw [if_neg h, encode_f hf hK, Option.bind_some]
    simp only [as_f, Option.bind_some, rright_f hf hK]
    by_cases hr : RR m
    · rw [decide_eq_true hr, if_pos hr, rencode_f hr hK, hkn]
      simp
    · rw [decide_eq_false hr, if_neg hr, hkn]
      simp
end Go.Proofs.Ytlcbgmaajijbjaa.Pure
