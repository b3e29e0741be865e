/- The plain law of MailBack. -/
import Derived.Test.YtlcbgmaajijbjaaMail7
import Derived.Test.YtlcbgmaajijbjaaLMailBack
set_option linter.unusedVariables false
set_option linter.unusedSimpArgs false
namespace Go.Proofs.Ytlcbgmaajijbjaa.Pure
open Go Go.RowKit Go.Hw Go.Proofs.Ytlcbgmaajijbjaa.G
theorem MailBack : haywainlaw15_MailBack.Pure := by
  intro m hw
  obtain ⟨K, hK, hkn⟩ := knows_f
  refine ⟨K, ?_⟩
  obtain ⟨w, e, hfew⟩ := wide_f (K := K) m hK
  rw [haywainlaw15_MailBack.f, e, Option.bind_some, condD]
  by_cases h : w > 100
  · rw [if_pos h, hkn]; rfl
  · have hf := hfew (by omega)
    rw [if_neg h, encode_f hf hK, Option.bind_some]
    by_cases hr : RR m
    · have hlen : (((Wl (nums m)).length : Int) ≤ 4000) := by have := nums_length hr; rw [Wl_length]; omega
      rw [if_pos hr]
      simp only [decode_nums hK hr (RM_of hw), as_f, Option.bind_some, same_as hK hf, hkn]
      simp only [condN, condB, condD, if_true, hlen, decide_true, cond_true]
    · rw [if_neg hr]
      simp only [right_f hf hK, Option.bind_some, decide_eq_false hr, hkn]
      rfl
end Go.Proofs.Ytlcbgmaajijbjaa.Pure
