/- What the law DiskAsks asks of plain Lean. -/
import Derived.Test.YtfgdceeceehmpaaDisk5
import Derived.Test.YtfgdceeceehmpaaLDiskAsks
set_option linter.unusedVariables false
set_option linter.unusedSimpArgs false
namespace Go.Proofs.Ytfgdceeceehmpaa.Pure
open Go Go.RowKit Go.Hw Go.Proofs.Ytfgdceeceehmpaa.G
theorem idxMap {α β : Type} {f : α → β} {l : List α} {i : Nat} : idxO (l.map f) (i : Int) = (l[i]?).map f := by rw [idxN, List.getElem?_map]
theorem loop8 {K : Nat} (hkn : haywainlaw13_knows.f K = some true) (l : List S43) (hl : l.length ≤ 1000000) : ∀ (k i : Nat), i ≤ l.length → l.length < k + i → haywainlaw13_DiskAsks.l8 K (A l) (l.map (·.f0)) k (i : Int) = some true := by
  intro k
  induction k with
  | zero => intro i h1 h2; omega
  | succ k ih =>
    intro i h1 h2
    rw [haywainlaw13_DiskAsks.l8]
    by_cases hi : i < l.length
    · have hx : l[i]? = some l[i] := List.getElem?_eq_getElem hi
      have hlt : ((i : Int) < (l.length : Int)) := by omega
      simp only [List.length_map, condD, if_pos hlt, idxMap, idxA, hx, Option.map_some, Option.bind_some, step1 (show i < 1000000000 by omega), ih (i + 1) hi (by omega), asF, beq_self_eq_true, Bool.not_true, cond_false]
    · have hlt : ¬ ((i : Int) < (l.length : Int)) := by omega
      simp only [List.length_map, condD, if_neg hlt, hkn, Option.bind_some]
theorem loop17 {K : Nat} (hkn : haywainlaw13_knows.f K = some true) (l : List S43) (hl : l.length ≤ 1000000) : ∀ (k i : Nat), i ≤ l.length → l.length < k + i → haywainlaw13_DiskAsks.l17 K (A l) (l.map (·.f0)) k (i : Int) = some true := by
  intro k
  induction k with
  | zero => intro i h1 h2; omega
  | succ k ih =>
    intro i h1 h2
    rw [haywainlaw13_DiskAsks.l17]
    by_cases hi : i < l.length
    · have hx : l[i]? = some l[i] := List.getElem?_eq_getElem hi
      have hlt : ((i : Int) < (l.length : Int)) := by omega
      simp only [List.length_map, condD, if_pos hlt, idxMap, idxA, hx, Option.map_some, Option.bind_some, step1 (show i < 1000000000 by omega), ih (i + 1) hi (by omega), asF, beq_self_eq_true, Bool.not_true, cond_false]
    · have hlt : ¬ ((i : Int) < (l.length : Int)) := by omega
      simp only [List.length_map, condD, if_neg hlt, hkn, Option.bind_some]
theorem DiskAsks : haywainlaw13_DiskAsks.Pure := by
  rintro ⟨l⟩ n _ _
  obtain ⟨K, hK, hkn⟩ := knows_f
  refine ⟨K, ?_⟩
  have hK2 : 2000 ≤ K := by omega
  rw [haywainlaw13_DiskAsks.f]
  obtain ⟨g, hg, hgl⟩ := great_f hK2 l
  rw [hg, Option.bind_some]
  cases g with
  | true => simp only [cond_true, hkn, Option.bind_some]
  | false =>
    have hl := hgl rfl
    have hl2 : l.length ≤ 1000 := by omega
    by_cases h1 : (n.size : Int) > 100
    · simp only [cond_false, condD, if_pos h1, hkn, Option.bind_some]
    simp only [cond_false, condD, if_neg h1, as_f hl2 hK2, rgood_f hl2 hK2, get_f hl2 hK2, names_f hl2 hK2, Option.bind_some]
    have hR := own_RD l
    generalize own l = l at *
    have hlo := hR.len
    have hl3 : l.length ≤ 1000 := by omega
    have a1 := loop8 hkn l (by omega) K 0 (by omega) (by omega)
    have a2 := loop17 hkn l (by omega) K 0 (by omega) (by omega)
    rw [show (0 : Int) = ((0 : Nat) : Int) from rfl]
    simp only [has_f hl3 hK2, rget_f hl3 hK2, Option.bind_some, a1, a2, List.length_map, lenA, condN, if_true]
    unfold getS
    cases mi n.toList l with
    | nil => simp
    | cons x r => simp
end Go.Proofs.Ytfgdceeceehmpaa.Pure
