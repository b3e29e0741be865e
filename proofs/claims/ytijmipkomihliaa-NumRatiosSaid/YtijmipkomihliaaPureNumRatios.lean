/- NumRatios answers true at any three numbers; no condition beside the row's own. -/
import Derived.Test.YtijmipkomihliaaPNumRatiosx2
namespace Go.Proofs.Ytijmipkomihliaa.Pure
open Go.RowKit Go.Proofs.Ytijmipkomihliaa.PNumRatios Go.Proofs.YtijmipkomihliaaW.PrintWords Go.Proofs.YtijmipkomihliaaW.PrintLast
set_option linter.unusedVariables false
set_option linter.unusedSimpArgs false
theorem w64 {x : Int} (h0 : -9223372036854775808 ≤ x) (h1 : x ≤ 9223372036854775807) : wrap64 x = x := by unfold wrap64; omega
theorem bd64 {n : Int} (h : (Lit.int .i64 n).wf = true) : -9223372036854775808 ≤ n ∧ n ≤ 9223372036854775807 := by
  simp [Lit.wf, IntKind.min, IntKind.max, IntKind.bits, IntKind.signed] at h; omega
/-- What may be. -/
abbrev Fits (x : Int) : Prop := -9223372036854775808 ≤ x ∧ x ≤ 9223372036854775807
/-- A number, or that it is too great. -/
def told (x : Int) : Int × Bool := if Fits x then (x, true) else (0, false)
theorem add_is (a b : Int) (ha : Fits a) (hb : Fits b) : num_Add.f a b = some (told (a + b)) := by
  unfold Fits at ha hb
  unfold num_Add.f told Fits
  by_cases h : -9223372036854775808 ≤ a + b ∧ a + b ≤ 9223372036854775807
  · rw [if_pos h, w64 h.1 h.2]
    split
    · rename_i e
      rw [beq_iff_eq, decide_eq_decide] at e
      rw [if_neg]
      simp only [bne_iff_ne, ne_eq, Decidable.not_not, decide_eq_decide]
      omega
    · rfl
  · rw [if_neg h]
    have e : (decide (a ≥ 0) == decide (b ≥ 0)) = true := by rw [beq_iff_eq, decide_eq_decide]; omega
    have e2 : (decide (wrap64 (a + b) ≥ 0) != decide (a ≥ 0)) = true := by
      rw [bne_iff_ne, ne_eq, decide_eq_decide]; unfold wrap64; omega
    rw [if_pos e, if_pos e2]
theorem sub_is (a b : Int) (ha : Fits a) (hb : Fits b) : num_Sub.f a b = some (told (a - b)) := by
  unfold Fits at ha hb
  unfold num_Sub.f told Fits
  by_cases h : -9223372036854775808 ≤ a - b ∧ a - b ≤ 9223372036854775807
  · rw [if_pos h, w64 h.1 h.2]
    split
    · rename_i e
      rw [bne_iff_ne, ne_eq, decide_eq_decide] at e
      rw [if_neg]
      simp only [bne_iff_ne, ne_eq, Decidable.not_not, decide_eq_decide]
      omega
    · rfl
  · rw [if_neg h]
    have e : (decide (a ≥ 0) != decide (b ≥ 0)) = true := by rw [bne_iff_ne, ne_eq, decide_eq_decide]; omega
    have e2 : (decide (wrap64 (a - b) ≥ 0) != decide (a ≥ 0)) = true := by
      rw [bne_iff_ne, ne_eq, decide_eq_decide]; unfold wrap64; omega
    rw [if_pos e, if_pos e2]
theorem mul_is (a b : Int) (ha : Fits a) (hb : Fits b) : num_Mul.f a b = some (told (a * b)) := by
  unfold Fits at ha hb
  unfold num_Mul.f told Fits
  rw [if_pos ⟨ha.1, ha.2, hb.1, hb.2⟩]
  split <;> rfl
/-- What 'Ratio' answers. -/
def ratio (v n d : Int) : Int × Bool := if d < 1 then (0, false) else if Fits (v * n) then (Int.tdiv (v * n) d, true) else (0, false)
theorem tdiv_fits (p d : Int) (hp : Fits p) (hd : 1 ≤ d) : wrap64 (Int.tdiv p d) = Int.tdiv p d := by
  unfold Fits at hp
  have h : (Int.tdiv p d).natAbs = p.natAbs / d.natAbs := Int.natAbs_tdiv p d
  have h2 := Nat.div_le_self p.natAbs d.natAbs
  refine w64 ?_ ?_
  · omega
  · by_cases hz : 0 ≤ p
    · omega
    · have : Int.tdiv p d ≤ 0 := by
        rw [show p = -(-p) from by omega, Int.neg_tdiv]
        have := Int.tdiv_nonneg (show 0 ≤ -p by omega) (show 0 ≤ d by omega)
        omega
      omega
theorem ratio_is (v n d : Int) (hv : Fits v) (hn : Fits n) : num_Ratio.f v n d = some (ratio v n d) := by
  unfold num_Ratio.f ratio
  rw [mul_is v n hv hn, Option.bind_some]
  unfold told
  by_cases h : Fits (v * n)
  · rw [if_pos h, if_pos rfl]
    by_cases h1 : d < 1
    · rw [if_pos h1, if_pos h1]
    · rw [if_neg h1, if_neg h1, if_neg (by omega), if_pos h, tdiv_fits _ _ h (by omega)]
  · rw [if_neg h, if_neg (by decide)]
    split <;> rfl
theorem knows_is : haywainlaw01_knows.f = some true := by
  unfold haywainlaw01_knows.f
  rw [add_is 2 3 (by decide) (by decide), mul_is (-4294967296) 2147483648 (by decide) (by decide), ratio_is 1000000 85 100 (by decide) (by decide), sub_is (-9223372036854775808) 1 (by decide) (by decide)]
  decide
theorem tmod_lt_abs (p b : Int) (hb : b ≠ 0) : (Int.tmod p b).natAbs < b.natAbs := by
  rw [Int.natAbs_tmod]; exact Nat.mod_lt _ (by omega)
theorem quot_fits (a b : Int) (ha : Fits a) (hb : Fits b) (hb0 : b ≠ 0) (hb1 : b ≠ -1) : wrap64 (Int.tdiv (wrap64 (a * b)) b) = a ↔ Fits (a * b) := by
  unfold Fits at ha hb ⊢
  constructor
  · intro h
    by_cases h1 : b = 1
    · subst h1; omega
    have hp : -9223372036854775808 ≤ wrap64 (a * b) ∧ wrap64 (a * b) ≤ 9223372036854775807 := by unfold wrap64; omega
    have hm : ∃ m : Int, wrap64 (a * b) = a * b + m * 18446744073709551616 := ⟨-((a * b + 9223372036854775808) / 18446744073709551616), by unfold wrap64; omega⟩
    obtain ⟨m, hm⟩ := hm
    generalize hP : wrap64 (a * b) = P at *
    have e := Int.mul_tdiv_add_tmod P b
    have r := tmod_lt_abs P b hb0
    have q : (Int.tdiv P b).natAbs = P.natAbs / b.natAbs := Int.natAbs_tdiv P b
    have q2 : P.natAbs / b.natAbs ≤ P.natAbs / 2 := Nat.div_le_div_left (by omega) (by omega)
    have w : wrap64 (Int.tdiv P b) = Int.tdiv P b := w64 (by omega) (by omega)
    rw [w] at h
    rw [h, Int.mul_comm] at e
    omega
  · intro h
    rw [w64 h.1 h.2, Int.mul_tdiv_cancel _ hb0]
    exact w64 ha.1 ha.2
theorem refmul_is (k : Nat) (a b : Int) (ha : Fits a) (hb : Fits b) : haywainref01_Mul.f (k + 3) a b = some (told (a * b)) := by
  have t0 : told 0 = (0, true) := by decide
  by_cases h1 : a = 0
  · subst h1
    rw [haywainref01_Mul.f, if_pos rfl, haywainref01_Mul.j0, if_pos rfl, Int.zero_mul, t0]
  rw [haywainref01_Mul.f, if_neg h1, haywainref01_Mul.j0]
  by_cases h2 : b = 0
  · subst h2
    rw [if_pos (by simp), Int.mul_zero, t0]
  rw [if_neg (by simp [h2])]
  have ones : a = -1 ∨ b = -1 → haywainref01_Mul.j1 (k + 1 + 1) a b true = some (told (a * b)) := by
    intro ho
    rw [haywainref01_Mul.j1, if_pos rfl]
    unfold told
    unfold Fits at ha hb ⊢
    by_cases h3 : a = -9223372036854775808
    · rw [if_pos h3, haywainref01_Mul.j2, if_pos rfl]
      rw [if_neg]
      rcases ho with ho | ho
      · omega
      · rw [h3, ho]; omega
    · rw [if_neg h3, haywainref01_Mul.j2]
      by_cases h4 : b = -9223372036854775808
      · rw [if_pos (by simp [h4])]
        rw [if_neg]
        rcases ho with ho | ho
        · rw [h4, ho]; omega
        · omega
      · rw [if_neg (by simp [h4])]
        have hf : -9223372036854775808 ≤ a * b ∧ a * b ≤ 9223372036854775807 := by
          rcases ho with ho | ho <;> rw [ho] <;> omega
        rw [if_pos hf, w64 hf.1 hf.2]
  by_cases h3 : a = -1
  · rw [if_pos h3]; exact ones (.inl h3)
  rw [if_neg h3]
  by_cases h4 : b = -1
  · rw [show (b == -1) = true by simp [h4]]; exact ones (.inr h4)
  rw [show (b == -1) = false by simp [h4], haywainref01_Mul.j1, if_neg (by decide), if_neg h2]
  have q := quot_fits a b ha hb h2 h4
  unfold told
  by_cases h5 : Fits (a * b)
  · rw [if_pos (q.2 h5), if_pos h5, w64 h5.1 h5.2]
  · rw [if_neg (fun h => h5 (q.1 h)), if_neg h5]
theorem NumRatios : haywainlaw01_NumRatios.Pure := by
  intro v n d hv hn hd
  refine ⟨3, ?_⟩
  have r : haywainref01_Ratio.f 3 v n d = some (ratio v n d) := by
    unfold haywainref01_Ratio.f ratio
    by_cases h1 : d < 1
    · rw [if_pos h1, if_pos h1]
    · rw [if_neg h1, if_neg h1, refmul_is 0 v n (bd64 hv) (bd64 hn), Option.bind_some]
      unfold told
      by_cases h : Fits (v * n)
      · rw [if_pos h, if_pos h, if_pos rfl, if_neg (by omega), tdiv_fits _ _ h (by omega)]
      · rw [if_neg h, if_neg h, if_neg (by decide)]
  unfold haywainlaw01_NumRatios.f
  rw [ratio_is v n d (bd64 hv) (bd64 hn), r, knows_is]
  simp
end Go.Proofs.Ytijmipkomihliaa.Pure
