/- The plain law of CkptSaves. -/
import Derived.Test.YtkcpbehgjbionaaCk4r
import Derived.Test.YtkcpbehgjbionaaLCkptSaves
set_option linter.unusedVariables false
set_option linter.unusedSimpArgs false
namespace Go.Proofs.Ytkcpbehgjbionaa.Pure
open Go Go.RowKit Go.Hw Go.Proofs.Ytkcpbehgjbionaa.G
theorem CkptSaves : haywainlaw14_CkptSaves.Pure := by
  rintro ⟨l⟩ num p hw hn hp
  have hb : BD l := BD_of hw
  have hpb : Bytes p := Bytes.of_wf hp.2
  obtain ⟨K, hK, hkn⟩ := knows_f
  refine ⟨K, ?_⟩
  obtain ⟨g, hg, hgl⟩ := great_f hK l
  rw [haywainlaw14_CkptSaves.f, hg, Option.bind_some, hkn]
  cases g with
  | true => rfl
  | false =>
    have hl : l.length ≤ 1000 := by have := hgl rfl; omega
    rw [cond_false, condD]
    by_cases h : (p.length : Int) > 10000
    · rw [if_pos h]; rfl
    · have hcl := chg_len l num p
      rw [if_neg h, appN (by simp only [List.length_nil]; omega), Option.bind_some, List.nil_append]
      simp only [save_f hK hl hb num hpb, as_f hl (show 2000 ≤ K by omega), rsave_f hK hl hb num hpb, Option.bind_some, asC_f hK (show (saveS (own l) num p).1.length ≤ 1000 by omega), sameC_f hK (show ((saveS (own l) num p).1.map asC).length ≤ 1000 by rw [List.length_map]; omega), beq_self_eq_true, cond_true]
end Go.Proofs.Ytkcpbehgjbionaa.Pure
