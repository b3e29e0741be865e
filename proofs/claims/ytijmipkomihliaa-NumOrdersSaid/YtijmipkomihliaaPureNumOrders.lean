/- NumOrders answers true at any three numbers; no condition beside the row's own. -/
import Derived.Test.YtijmipkomihliaaPNumOrdersx1
namespace Go.Proofs.Ytijmipkomihliaa.Pure
open Go.RowKit Go.Proofs.Ytijmipkomihliaa.PNumOrders Go.Proofs.YtijmipkomihliaaW.PrintWords Go.Proofs.YtijmipkomihliaaW.PrintLast
set_option linter.unusedVariables false
set_option linter.unusedSimpArgs false
theorem w64 {x : Int} (h0 : -9223372036854775808 ≤ x) (h1 : x ≤ 9223372036854775807) : wrap64 x = x := by unfold wrap64; omega
theorem bd64 {n : Int} (h : (Lit.int .i64 n).wf = true) : -9223372036854775808 ≤ n ∧ n ≤ 9223372036854775807 := by
  simp [Lit.wf, IntKind.min, IntKind.max, IntKind.bits, IntKind.signed] at h; omega
/-- What may be. -/
abbrev Fits (x : Int) : Prop := -9223372036854775808 ≤ x ∧ x ≤ 9223372036854775807
/-- A number, or that it is too great. -/
def told (x : Int) : Int × Bool := if Fits x then (x, true) else (0, false)
theorem add_is (a b : Int) (ha : Fits a) (hb : Fits b) : num_Add.f a b = some (told (a + b)) := by
  unfold Fits at ha hb
  unfold num_Add.f told Fits
  by_cases h : -9223372036854775808 ≤ a + b ∧ a + b ≤ 9223372036854775807
  · rw [if_pos h, w64 h.1 h.2]
    split
    · rename_i e
      rw [beq_iff_eq, decide_eq_decide] at e
      rw [if_neg]
      simp only [bne_iff_ne, ne_eq, Decidable.not_not, decide_eq_decide]
      omega
    · rfl
  · rw [if_neg h]
    have e : (decide (a ≥ 0) == decide (b ≥ 0)) = true := by rw [beq_iff_eq, decide_eq_decide]; omega
    have e2 : (decide (wrap64 (a + b) ≥ 0) != decide (a ≥ 0)) = true := by
      rw [bne_iff_ne, ne_eq, decide_eq_decide]; unfold wrap64; omega
    rw [if_pos e, if_pos e2]
theorem sub_is (a b : Int) (ha : Fits a) (hb : Fits b) : num_Sub.f a b = some (told (a - b)) := by
  unfold Fits at ha hb
  unfold num_Sub.f told Fits
  by_cases h : -9223372036854775808 ≤ a - b ∧ a - b ≤ 9223372036854775807
  · rw [if_pos h, w64 h.1 h.2]
    split
    · rename_i e
      rw [bne_iff_ne, ne_eq, decide_eq_decide] at e
      rw [if_neg]
      simp only [bne_iff_ne, ne_eq, Decidable.not_not, decide_eq_decide]
      omega
    · rfl
  · rw [if_neg h]
    have e : (decide (a ≥ 0) != decide (b ≥ 0)) = true := by rw [bne_iff_ne, ne_eq, decide_eq_decide]; omega
    have e2 : (decide (wrap64 (a - b) ≥ 0) != decide (a ≥ 0)) = true := by
      rw [bne_iff_ne, ne_eq, decide_eq_decide]; unfold wrap64; omega
    rw [if_pos e, if_pos e2]
theorem mul_is (a b : Int) (ha : Fits a) (hb : Fits b) : num_Mul.f a b = some (told (a * b)) := by
  unfold Fits at ha hb
  unfold num_Mul.f told Fits
  rw [if_pos ⟨ha.1, ha.2, hb.1, hb.2⟩]
  split <;> rfl
/-- What 'Ratio' answers. -/
def ratio (v n d : Int) : Int × Bool := if d < 1 then (0, false) else if Fits (v * n) then (Int.tdiv (v * n) d, true) else (0, false)
theorem tdiv_fits (p d : Int) (hp : Fits p) (hd : 1 ≤ d) : wrap64 (Int.tdiv p d) = Int.tdiv p d := by
  unfold Fits at hp
  have h : (Int.tdiv p d).natAbs = p.natAbs / d.natAbs := Int.natAbs_tdiv p d
  have h2 := Nat.div_le_self p.natAbs d.natAbs
  refine w64 ?_ ?_
  · omega
  · by_cases hz : 0 ≤ p
    · omega
    · have : Int.tdiv p d ≤ 0 := by
        rw [show p = -(-p) from by omega, Int.neg_tdiv]
        have := Int.tdiv_nonneg (show 0 ≤ -p by omega) (show 0 ≤ d by omega)
        omega
      omega
theorem ratio_is (v n d : Int) (hv : Fits v) (hn : Fits n) : num_Ratio.f v n d = some (ratio v n d) := by
  unfold num_Ratio.f ratio
  rw [mul_is v n hv hn, Option.bind_some]
  unfold told
  by_cases h : Fits (v * n)
  · rw [if_pos h, if_pos rfl]
    by_cases h1 : d < 1
    · rw [if_pos h1, if_pos h1]
    · rw [if_neg h1, if_neg h1, if_neg (by omega), if_pos h, tdiv_fits _ _ h (by omega)]
  · rw [if_neg h, if_neg (by decide)]
    split <;> rfl
theorem knows_is : haywainlaw01_knows.f = some true := by
  unfold haywainlaw01_knows.f
  rw [add_is 2 3 (by decide) (by decide), mul_is (-4294967296) 2147483648 (by decide) (by decide), ratio_is 1000000 85 100 (by decide) (by decide), sub_is (-9223372036854775808) 1 (by decide) (by decide)]
  decide
theorem NumOrders : haywainlaw01_NumOrders.Pure := by
  intro a b c ha hb hc
  have fa : Fits a := bd64 ha
  have fb : Fits b := bd64 hb
  have fc : Fits c := bd64 hc
  refine ⟨1, ?_⟩
  unfold haywainlaw01_NumOrders.f
  rw [add_is a c fa fc, add_is b c fb fc]
  simp only [Option.bind_some, show (1 : Nat) = 0 + 1 from rfl, haywainlaw01_NumOrders.j0, knows_is]
  by_cases h1 : Fits (a + c)
  · rw [show told (a + c) = (a + c, true) by rw [told, if_pos h1]]
    by_cases h2 : Fits (b + c)
    · rw [show told (b + c) = (b + c, true) by rw [told, if_pos h2]]
      have d1 : decide (a + c < b + c) = decide (a < b) := decide_eq_decide.2 (by omega)
      have d2 : (a + c == b + c) = (a == b) := by
        rw [Bool.eq_iff_iff, beq_iff_eq, beq_iff_eq]; omega
      simp [d1, d2]
    · rw [show told (b + c) = (0, false) by rw [told, if_neg h2]]; simp
  · rw [show told (a + c) = (0, false) by rw [told, if_neg h1]]; simp
end Go.Proofs.Ytijmipkomihliaa.Pure
