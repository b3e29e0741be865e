/- What the law CodeFrames asks of plain Lean. -/
import Derived.Test.YtpachjomjoaipaaCode2
import Derived.Test.YtpachjomjoaipaaLCodeFrames
set_option linter.unusedVariables false
set_option linter.unusedSimpArgs false
namespace Go.Proofs.Ytpachjomjoaipaa.Pure
open Go Go.RowKit Go.Hw Go.Proofs.Ytpachjomjoaipaa.G
theorem knows_f : haywainlaw02_knows.f 40000 = some true := by kernel_rfl
theorem great_f {K : Nat} {l : List Int} : haywainlaw02_great.f K l = some (decide (10000 < l.length)) := by
  rw [haywainlaw02_great.f]
  congr 1
  apply decide_eq_decide.2
  omega
theorem CodeFrames : haywainlaw02_CodeFrames.Pure := by
  intro p b hp hb
  refine ⟨40000, ?_⟩
  rw [haywainlaw02_CodeFrames.f, great_f, great_f, knows_f]
  simp only [Option.bind_some, condD, List.nil_append]
  by_cases h1 : 10000 < p.length
  · simp only [if_pos h1]
  by_cases h2 : 10000 < b.length
  · simp only [if_neg h1, if_pos h2]
  have bp := Bytes.of_wf hp.2
  have bb := Bytes.of_wf hb.2
  simp only [if_neg h1, if_neg h2, takeFrame_f (K := 40000) bb (by omega) (by omega), rtakeFrame_f (K := 40000) bb (by omega) (by omega)]
  rw [appN (by simp only [List.length_nil]; omega), appN (by simp only [List.length_nil]; omega)]
  simp only [Option.bind_some]
  have hrest : ∀ x : Option (Unit ⊕ Bool), x = some (.inl ()) → x.bind (Sum.elim (fun o3 : Unit => cond ((takeS b).2.2 != (takeS b).2.2) (some false) (cond (!((strOfNums (takeS b).1).toList == (strOfNums (takeS b).1).toList)) (some false) (cond ((takeS b).2.2 == 0) ((cutO b (if (takeS b).2.2 = 0 then 8 + val 0 (b.take 4) else 0) (b.length : Int)).bind fun y13_7 => cond ((strOfNums (takeS b).2.1).toList == (strOfNums (cutL b ((if (takeS b).2.2 = 0 then 8 + val 0 (b.take 4) else 0 : Int).toNat) (((b.length : Int) : Int).toNat))).toList) (some true) (cond ((takeS b).2.2 != 0) (cond (((takeS b).2.1.length : Int) == 0) (some true) (some false)) (some false))) (cond ((takeS b).2.2 != 0) (cond (((takeS b).2.1.length : Int) == 0) (some true) (some false)) (some false))))) some) = some true := by
    intro x hx
    rw [hx]
    simp only [Option.bind_some, Sum.elim_inl, condN, condB, if_true, strEq' (rfl : (takeS b).1 = (takeS b).1), Bool.not_true, cond_false]
    by_cases h0 : (takeS b).2.2 = 0
    · obtain ⟨N, e1, e2, e3, e4, e5⟩ := takeS_zero bb h0
      have e8 : 8 + val 0 (b.take 4) = ((8 + N : Nat) : Int) := by omega
      have c3 : cutO b ((8 + N : Nat) : Int) (b.length : Int) = some (b.drop (8 + N)) := by rw [cutN (by omega), List.take_length]
      have c4 : cutL b ((((8 + N : Nat) : Int)).toNat) (((b.length : Int)).toNat) = b.drop (8 + N) := by simp only [cutL, Int.toNat_natCast, List.take_length]
      simp only [e8, e4, if_true, c3, c4, Option.bind_some, strEq' (rfl : b.drop (8 + N) = b.drop (8 + N)), cond_true]
    · have e := takeS_err h0
      simp only [if_neg h0]
      rw [e]
      rfl
  by_cases h4 : 4000 < p.length
  · have h4' : (p.length : Int) > 4000 := by omega
    rw [frame_full h4]
    simp only [Option.bind_some, if_pos h4']
    exact hrest _ rfl
  · have h4' : ¬ (p.length : Int) > 4000 := by omega
    rw [frame_f bp (by omega) (by omega), rframe_f bp (by omega) (by omega)]
    simp only [Option.bind_some, if_neg h4', strEq' (rfl : frameS p = frameS p), Bool.not_true, cond_false]
    exact hrest _ rfl
end Go.Proofs.Ytpachjomjoaipaa.Pure
