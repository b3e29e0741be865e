/- The plain law of MailDecodes. -/
import Derived.Test.YtlcbgmaajijbjaaMail7
import Derived.Test.YtlcbgmaajijbjaaLMailDecodes
set_option linter.unusedVariables false
set_option linter.unusedSimpArgs false
namespace Go.Proofs.Ytlcbgmaajijbjaa.Pure
open Go Go.RowKit Go.Hw Go.Proofs.Ytlcbgmaajijbjaa.G
theorem MailDecodes : haywainlaw15_MailDecodes.Pure := by
  intro b hw
  obtain ⟨K, hK, hkn⟩ := knows_f
  refine ⟨K, ?_⟩
  rw [haywainlaw15_MailDecodes.f, condD]
  by_cases h : (b.length : Int) > 5000
  · rw [if_pos h, hkn]; rfl
  · have hb : Bytes b := Bytes.of_wf hw.2
    obtain ⟨l, t, e, ht, hbt, hl⟩ := bytes_split b.length b hb (Nat.le_refl _)
    have hlen : b.length = 8 * l.length + t.length := by rw [e, List.length_append, Wl_length]
    rw [if_neg h, appN (by simp only [List.length_nil]; omega), Option.bind_some, List.nil_append]
    have d1 := decode_f hK ht hbt hl (show l.length ≤ 1000 by omega)
    have d2 := rdecode_f hK ht hl (show l.length ≤ 1000 by omega)
    rw [← e] at d1 d2
    rw [d1, Option.bind_some, d2, Option.bind_some, hkn]
    have hz : haywainref15_Same.f K (asM Z) Z' = some (decide (asM Z = Z')) := same_f hK ⟨by decide, by decide, by decide, by decide, by decide, by decide, by decide⟩
    cases hd : (if t = [] then dec l else none) with
    | none =>
      simp only [fin, ansM, as_f, Option.bind_some, Bool.not_false, cond_true]
      rw [hz, decide_eq_true (show asM Z = Z' from rfl)]
      rfl
    | some m =>
      have hr : RR m := by
        by_cases ct : t = []
        · rw [if_pos ct] at hd; exact ((dec_iff _ _).1 hd).1
        · rw [if_neg ct] at hd; cases hd
      simp only [fin, ansM, as_f, Option.bind_some, Bool.not_true, cond_false]
      rw [same_as hK (RR_few hr), decide_eq_true rfl]
      rfl
end Go.Proofs.Ytlcbgmaajijbjaa.Pure
