/- What the law LinkOrders asks of plain Lean. -/
import Derived.Test.YtndccmilcffedaaPureEnds
import Derived.Test.YtndccmilcffedaaLLinkOrders
set_option linter.unusedVariables false
set_option linter.unusedSimpArgs false
namespace Go.Proofs.Ytndccmilcffedaa.Pure
open Go Go.RowKit Go.Hw Go.Proofs.Ytndccmilcffedaa.G
theorem orders_loop {K : Nat} (hK : 1000 ≤ K) (hkn : haywainlaw16_knows.f K = some true) (l : List S65) (hl : l.length ≤ 140737488351232) : ∀ (k i : Nat) (x : S63), i ≤ 100 → 100 < k + i → Inv x → Few i x →
    haywainlaw16_LinkOrders.l1 K l k ((i : Int), x.f0.f0, x.f0.f1, x.f0.f2, x.f0.f3, x.f0.f4, x.f1.f0, x.f1.f1, x.f1.f2, x.f1.f3, x.f1.f4, x.f2, x.f3, x.f4, x.f5, x.f6) = some true := by
  intro k
  induction k with
  | zero => intro i x h1 h2; omega
  | succ k ih =>
    intro i x h1 h2 hI hf
    rw [haywainlaw16_LinkOrders.l1]
    by_cases c1 : i < l.length
    · have c1' : (i : Int) < (l.length : Int) := by omega
      by_cases c2 : i < 100
      · have c2' : (i : Int) < 100 := by omega
        have hx : l[i]? = some l[i] := List.getElem?_eq_getElem c1
        have hn : IntKind.wrap .i64 ((i : Int) + 1) = ((i + 1 : Nat) : Int) := by rw [wrapI (by omega) (by omega)]; omega
        simp only [c1', c2', decide_true, cond_true, idxN, hx, Option.bind_some, hn]
        by_cases c3 : (l[i].f2.size : Int) > 1000
        · simp only [c3, decide_true, cond_true]
          exact ih (i + 1) x (by omega) (by omega) hI (hf.mono (by omega))
        · obtain ⟨y, hy, hIy, hfy⟩ := estep hK (n := i) (by omega) hI hf l[i]
          have hs := hfy.sent
          have ha := hfy.asked
          have hc1 := hIy.c1.le
          have hc2 := hIy.c2.le
          simp only [c3, decide_false, cond_false]
          rw [show haywainlaw16_ends_step.f K (⟨(⟨x.f0.f0, x.f0.f1, x.f0.f2, x.f0.f3, x.f0.f4⟩ : S24), (⟨x.f1.f0, x.f1.f1, x.f1.f2, x.f1.f3, x.f1.f4⟩ : S24), x.f2, x.f3, x.f4, x.f5, x.f6⟩ : S63) l[i] = some y from hy]
          simp only [Option.bind_some]
          rw [begins_f hIy.c1.pre (by omega) (by omega), Option.bind_some, begins_f hIy.c2.pre (by omega) (by omega), Option.bind_some]
          simp only [Bool.not_true, cond_false]
          exact ih (i + 1) y (by omega) (by omega) hIy hfy
      · have c2' : ¬ (i : Int) < 100 := by omega
        simp only [c1', c2', decide_true, cond_true, decide_false, cond_false, hkn, Option.bind_some]
    · have c1' : ¬ (i : Int) < (l.length : Int) := by omega
      simp only [c1', decide_false, cond_false, hkn, Option.bind_some]
theorem LinkOrders : haywainlaw16_LinkOrders.Pure := by
  intro l hl
  obtain ⟨K, hK, hkn⟩ : ∃ K, 1000 ≤ K ∧ haywainlaw16_knows.f K = some true := ⟨1000, Nat.le_refl _, knows_f⟩
  refine ⟨K, ?_⟩
  rw [haywainlaw16_LinkOrders.f]
  simp only [link_New.f, Option.bind_some]
  exact orders_loop hK hkn l (by omega) K 0 _ (by omega) (by omega) start_Inv start_Few
end Go.Proofs.Ytndccmilcffedaa.Pure
