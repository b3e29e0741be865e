/- What the law DiskPlays asks of plain Lean. -/
import Derived.Test.YtfgdceeceehmpaaDisk5
import Derived.Test.YtfgdceeceehmpaaLDiskPlays
set_option linter.unusedVariables false
set_option linter.unusedSimpArgs false
namespace Go.Proofs.Ytfgdceeceehmpaa.Pure
open Go Go.RowKit Go.Hw Go.Proofs.Ytfgdceeceehmpaa.G
theorem play_loop {K : Nat} (hK : 30000 ≤ K) (hkn : haywainlaw13_knows.f K = some true) (acts : List S52) : ∀ (k i : Nat) (l : List S43), l.length ≤ 1000 → i ≤ 30 → 30 < k + i → haywainlaw13_DiskPlays.l3 K acts k (A l, (i : Int), l) = some true := by
  intro k
  induction k with
  | zero => intro i l _ h1 h2; omega
  | succ k ih =>
    intro i l hl h1 h2
    rw [haywainlaw13_DiskPlays.l3]
    by_cases hi : i < acts.length
    · by_cases h30 : i < 30
      · have hx : acts[i]? = some acts[i] := List.getElem?_eq_getElem hi
        have hlt : ((i : Int) < (acts.length : Int)) := by omega
        have hlt2 : ((i : Int) < 30) := by omega
        obtain ⟨w, hw, hwl⟩ := wide_f (K := K) (a := acts[i])
        simp only [condD, if_pos hlt, if_pos hlt2, idxN, hx, Option.bind_some, step1 (show i < 1000000000 by omega), hw]
        cases w with
        | true =>
          rw [cond_true]
          exact ih (i + 1) l hl (by omega) (by omega)
        | false =>
          obtain ⟨w1, w2⟩ := hwl rfl
          have hR := RD_do l acts[i]
          have hdl : (doS l acts[i]).1.length ≤ 1000 := by have := hR.len; omega
          rw [cond_false, do_f hl hK w1 w2, does_f hl hK w1 w2]
          simp only [Option.bind_some, condN, if_true, as_f hdl (show 2000 ≤ K by omega), same_f hdl (show 2000 ≤ K by omega), Bool.not_true, cond_false]
          exact ih (i + 1) _ hdl (by omega) (by omega)
      · have hlt : ((i : Int) < (acts.length : Int)) := by omega
        have hlt2 : ¬ ((i : Int) < 30) := by omega
        simp only [condD, if_pos hlt, if_neg hlt2, hkn, Option.bind_some]
    · have hlt : ¬ ((i : Int) < (acts.length : Int)) := by omega
      simp only [condD, if_neg hlt, hkn, Option.bind_some]
theorem DiskPlays : haywainlaw13_DiskPlays.Pure := by
  rintro ⟨l⟩ acts _ _
  obtain ⟨K, hK, hkn⟩ := knows_f
  refine ⟨K, ?_⟩
  have hK2 : 2000 ≤ K := by omega
  rw [haywainlaw13_DiskPlays.f]
  obtain ⟨g, hg, hgl⟩ := great_f hK2 l
  rw [hg, Option.bind_some]
  cases g with
  | true => simp only [cond_true, hkn, Option.bind_some]
  | false =>
    have hl := hgl rfl
    have hl2 : l.length ≤ 1000 := by omega
    simp only [cond_false, as_f hl2 hK2, right_f hl2 hK2, rright_f hl2 hK2, Option.bind_some, beq_self_eq_true, Bool.not_true]
    exact play_loop hK hkn acts K 0 l hl2 (by omega) (by omega)
end Go.Proofs.Ytfgdceeceehmpaa.Pure
