/- What the law LinkStays asks of plain Lean. -/
import Derived.Test.YtndccmilcffedaaPure
import Derived.Test.YtndccmilcffedaaLLinkStays
set_option linter.unusedVariables false
set_option linter.unusedSimpArgs false
namespace Go.Proofs.Ytndccmilcffedaa.Pure
open Go Go.RowKit Go.Hw Go.Proofs.Ytndccmilcffedaa.G
open Classical
theorem stays_loop (acts : List S39) : ∀ (k i : Nat) (a : S24), i ≤ 60 → 60 < k + i → haywainlaw16_LinkStays.l2 1000 acts k (i, a.f0, a.f1, a.f2, a.f3, a.f4) = some true := by
  intro k
  induction k with
  | zero => intro i a h1 h2; omega
  | succ k ih =>
    intro i a h1 h2
    rw [haywainlaw16_LinkStays.l2]
    simp only [knows_f, Option.bind_some]
    by_cases hi : (i : Int) < (acts.length : Int)
    case neg => simp [hi]
    by_cases hi6 : (i : Int) < 60
    case neg => simp [hi, hi6]
    have hx : acts[i]? = some (acts[i]'(by omega)) := List.getElem?_eq_getElem (by omega)
    generalize acts[i]'(by omega) = c at hx
    simp only [hi, hi6, decide_true, cond_true, idxN, hx, Option.bind_some]
    rw [send_f (Nat.le_refl _), tick_f (Nat.le_refl _), take_f (Nat.le_refl _)]
    have r := own_R a
    have r1 := send_R (b := c.f1.f2) r
    have r2 := tick_R r
    have r3 := take_R (p := c.f1) r
    have key : ∀ {b : S24}, R b → ((link_Right.f 1000 ⟨b.f0, b.f1, b.f2, b.f3, b.f4⟩).bind fun x12_1 => cond (!x12_1) (some false) ((haywainlaw16_as.f 1000 ⟨b.f0, b.f1, b.f2, b.f3, b.f4⟩).bind fun x12_5 => (haywainref16_Right.f 1000 x12_5).bind fun x12_6 => cond (!x12_6) (some false) (cond (decide ((b.f3.length : Int) > 200)) (some false) (haywainlaw16_LinkStays.l2 1000 acts k (IntKind.wrap .i64 ((i : Int) + 1), b.f0, b.f1, b.f2, b.f3, b.f4))))) = some true := by
      intro b rb
      have hl := rb.l1
      rw [show (⟨b.f0, b.f1, b.f2, b.f3, b.f4⟩ : S24) = b from rfl, as_f (Nat.le_refl _) (by omega), Option.bind_some, right_f (Nat.le_refl _), Option.bind_some, rright_f (Nat.le_refl _) (by omega), Option.bind_some, wrapI (x := (i : Int) + 1) (by omega) (by omega)]
      have e : ((i : Int) + 1) = ((i + 1 : Nat) : Int) := by omega
      have e2 : ¬ (b.f3.length : Int) > 200 := by omega
      rw [e]
      simp only [rb, e2, decide_true, decide_false, Bool.not_true, cond_false]
      exact ih (i + 1) b (by omega) (by omega)
    simp only [Option.bind_some, condB, condN]
    by_cases h3 : c.f0 = 0
    · simp only [h3, if_true]
      exact key r1
    by_cases h4 : c.f0 = 1
    · rw [if_neg h3, if_pos h4]
      exact key r2
    · rw [if_neg h3, if_neg h4]
      exact key r3
theorem LinkStays : haywainlaw16_LinkStays.Pure := by
  intro a acts hw hn
  refine ⟨1000, ?_⟩
  rw [haywainlaw16_LinkStays.f]
  simp only [knows_f]
  by_cases hl : (a.f3.length : Int) > 300
  · simp [hl]
  simp only [hl, decide_false, cond_false]
  exact stays_loop acts 1000 0 a (by omega) (by omega)
end Go.Proofs.Ytndccmilcffedaa.Pure
