/- The plain law of MailApart. -/
import Derived.Test.YtlcbgmaajijbjaaMail7
import Derived.Test.YtlcbgmaajijbjaaLMailApart
set_option linter.unusedVariables false
set_option linter.unusedSimpArgs false
namespace Go.Proofs.Ytlcbgmaajijbjaa.Pure
open Go Go.RowKit Go.Hw Go.Proofs.Ytlcbgmaajijbjaa.G
theorem MailApart : haywainlaw15_MailApart.Pure := by
  intro m n hw hv
  obtain ⟨K, hK, hkn⟩ := knows_f
  refine ⟨K, ?_⟩
  obtain ⟨w, e, hfew⟩ := wide_f (K := K) m hK
  obtain ⟨w', e', hfew'⟩ := wide_f (K := K) n hK
  rw [haywainlaw15_MailApart.f, e, Option.bind_some, condD]
  by_cases h : w > 100
  · rw [if_pos h, hkn]; rfl
  rw [if_neg h, e', Option.bind_some, condD]
  by_cases h' : w' > 100
  · rw [if_pos h', hkn]; rfl
  have hf := hfew (by omega)
  have hf' := hfew' (by omega)
  rw [if_neg h', encode_f hf hK, Option.bind_some, encode_f hf' hK, Option.bind_some]
  by_cases hr : RR m
  · by_cases hr' : RR n
    · rw [if_pos hr, if_pos hr']
      simp only [as_f, Option.bind_some, same_as hK hf, hkn, condN, if_true]
      rw [strEq (Wl_bytes _) (Wl_bytes _)]
      have : decide (Wl (nums m) = Wl (nums n)) = decide (asM m = asM n) := by
        apply decide_eq_decide.2
        constructor
        · intro hh
          have d1 := decode_nums hK hr (RM_of hw)
          have d2 := decode_nums hK hr' (RM_of hv)
          rw [hh, d2] at d1
          have := (Prod.mk.inj (Option.some.inj d1)).1
          rw [this]
        · intro hh; rw [asM_inj hh]
      rw [this]
      simp
    · rw [if_neg hr', hkn]
      simp only [condN, Option.bind_some]
      split <;> rfl
  · rw [if_neg hr, hkn]
    simp only [condN, Option.bind_some]
    rfl
end Go.Proofs.Ytlcbgmaajijbjaa.Pure
