/- What the law LinkPlays asks of plain Lean. -/
import Derived.Test.YtndccmilcffedaaPure
import Derived.Test.YtndccmilcffedaaLLinkPlays
set_option linter.unusedVariables false
set_option linter.unusedSimpArgs false
namespace Go.Proofs.Ytndccmilcffedaa.Pure
open Go Go.RowKit Go.Hw Go.Proofs.Ytndccmilcffedaa.G
open Classical
theorem plays_loop (acts : List S39) : ∀ (k i : Nat) (a : S24), a.f3.length ≤ 300 → i ≤ 60 → 60 < k + i → haywainlaw16_LinkPlays.l4 1000 acts k (i, a.f0, a.f1, a.f2, a.f3.map g1, a.f4, a.f0, a.f1, a.f2, a.f3, a.f4) = some true := by
  intro k
  induction k with
  | zero => intro i a _ h1 h2; omega
  | succ k ih =>
    intro i a ha h1 h2
    rw [haywainlaw16_LinkPlays.l4]
    simp only [knows_f, Option.bind_some]
    by_cases hi : (i : Int) < (acts.length : Int)
    case neg => simp [hi]
    by_cases hi6 : (i : Int) < 60
    case neg => simp [hi, hi6]
    have hx : acts[i]? = some (acts[i]'(by omega)) := List.getElem?_eq_getElem (by omega)
    generalize acts[i]'(by omega) = c at hx
    simp only [hi, hi6, decide_true, cond_true, idxN, hx, Option.bind_some]
    rw [show (⟨a.f0, a.f1, a.f2, a.f3.map g1, a.f4⟩ : S29) = A a from rfl, show (⟨c.f1.f0, c.f1.f1, c.f1.f2⟩ : S56) = g2 c.f1 from rfl]
    rw [send_f (Nat.le_refl _), rsend_f (Nat.le_refl _) ha, tick_f (Nat.le_refl _), rtick_f (Nat.le_refl _) ha, take_f (Nat.le_refl _), rtake_f (Nat.le_refl _) ha]
    have r := own_R a
    have r1 := send_R (b := c.f1.f2) r
    have r2 := tick_R r
    have r3 := take_R (p := c.f1) r
    have e0 : (⟨a.f0, a.f1, a.f2, a.f3, a.f4⟩ : S24) = a := rfl
    have key : ∀ {b : S24}, R b → ((haywainlaw16_as.f 1000 ⟨b.f0, b.f1, b.f2, b.f3, b.f4⟩).bind fun x28_1 => (haywainref16_Same.f 1000 x28_1 ⟨(A b).f0, (A b).f1, (A b).f2, (A b).f3, (A b).f4⟩).bind fun x28_3 => cond (!x28_3) (some false) (haywainlaw16_LinkPlays.l4 1000 acts k (IntKind.wrap .i64 ((i : Int) + 1), (A b).f0, (A b).f1, (A b).f2, (A b).f3, (A b).f4, b.f0, b.f1, b.f2, b.f3, b.f4))) = some true := by
      intro b rb
      have hl := rb.l1
      rw [show (⟨b.f0, b.f1, b.f2, b.f3, b.f4⟩ : S24) = b from rfl, show (⟨(A b).f0, (A b).f1, (A b).f2, (A b).f3, (A b).f4⟩ : S29) = A b from rfl, as_f (Nat.le_refl _) (by omega), Option.bind_some, same_f (Nat.le_refl _) (by rw [A_len]; omega), wrapI (x := (i : Int) + 1) (by omega) (by omega)]
      have e : ((i : Int) + 1) = ((i + 1 : Nat) : Int) := by omega
      rw [e]
      exact ih (i + 1) b (by omega) (by omega) (by omega)
    simp only [Option.bind_some, condB, condN]
    by_cases h3 : c.f0 = 0
    · simp only [h3, if_true]
      exact key r1
    by_cases h4 : c.f0 = 1
    · rw [if_neg h3, if_pos h4, samep_f (Nat.le_refl _) tick_len]
      exact key r2
    · rw [if_neg h3, if_neg h4]
      simp only [beq_self_eq_true, Bool.not_true, cond_false, Option.bind_some, Sum.elim_inl]
      exact key r3
theorem LinkPlays : haywainlaw16_LinkPlays.Pure := by
  intro a acts hw hn
  refine ⟨1000, ?_⟩
  rw [haywainlaw16_LinkPlays.f]
  simp only [knows_f]
  by_cases hl : (a.f3.length : Int) > 300
  · simp [hl]
  simp only [hl, decide_false, cond_false]
  rw [as_f (Nat.le_refl _) (by omega), Option.bind_some, right_f (Nat.le_refl _), Option.bind_some, rright_f (Nat.le_refl _) (by omega), Option.bind_some]
  rw [show link_New.f 1000 = some new from rfl, Option.bind_some, as_f (Nat.le_refl _) (by simp [new]), Option.bind_some]
  have e : haywainref16_Good.f 1000 ⟨0, 0, 0, [], false⟩ = some (A new) := by
    have := good_f (K := 1000) (Nat.le_refl _) (a := ⟨0, 0, 0, [], false⟩) (by simp)
    have h : own ⟨0, 0, 0, [], false⟩ = new := if_neg fun h => by have := h.a1; simp at this
    rw [h] at this
    exact this
  rw [e, Option.bind_some, same_f (Nat.le_refl _) (by simp [A, new])]
  simp only [beq_self_eq_true, Bool.not_true, cond_false, Option.bind_some]
  exact plays_loop acts 1000 0 a (by omega) (by omega) (by omega)
end Go.Proofs.Ytndccmilcffedaa.Pure
