/- What the law LinkIdle asks of plain Lean. -/
import Derived.Test.YtndccmilcffedaaPure
import Derived.Test.YtndccmilcffedaaLLinkIdle
set_option linter.unusedVariables false
set_option linter.unusedSimpArgs false
namespace Go.Proofs.Ytndccmilcffedaa.Pure
open Go Go.RowKit Go.Hw Go.Proofs.Ytndccmilcffedaa.G
open Classical
theorem rem_u8 {n : Int} (h : (Lit.int .u8 n).wf = true) : remO n 10 = some (n.tmod 10) ∧ IntKind.wrap .i64 (n.tmod 10) = n.tmod 10 ∧ n.tmod 10 ≤ 9 := by
  have h0 : 0 ≤ n ∧ n ≤ 255 := by
    simp only [Lit.wf, IntKind.min, IntKind.max, IntKind.signed, IntKind.bits, Bool.and_eq_true, decide_eq_true_eq] at h
    simpa using h
  have e : n.tmod 10 = n % 10 := Int.tmod_eq_emod_of_nonneg h0.1
  refine ⟨by simp [remO], wrapI (by omega) (by omega), by omega⟩
theorem idle_loop (n : Int) (hn : (Lit.int .u8 n).wf = true) (f0 f1 : Int) : ∀ (k i : Nat) (v : Int), R ⟨f0, f1, v, [], false⟩ → i ≤ 10 → 10 < k + i → ∃ v', R ⟨f0, f1, v', [], false⟩ ∧ haywainlaw16_LinkIdle.l12 1000 n k (i, f0, f1, v, [], false) = some (.inl (f0, f1, v', [], false)) := by
  obtain ⟨e1, e2, e3⟩ := rem_u8 hn
  intro k
  induction k with
  | zero => intro i v _ h1 h2; omega
  | succ k ih =>
    intro i v r h1 h2
    rw [haywainlaw16_LinkIdle.l12]
    simp only [e1, e2, Option.bind_some]
    by_cases hi : (i : Int) < n.tmod 10
    · simp only [hi, decide_true, cond_true]
      rw [tick_f (Nat.le_refl _), own_of r, wrapI (x := (i : Int) + 1) (by omega) (by omega)]
      have e : ((i : Int) + 1) = ((i + 1 : Nat) : Int) := by omega
      rw [e]
      have r2 := tick_R r
      have et : tickS ⟨f0, f1, v, [], false⟩ = (⟨f0, f1, if 0 < v then v - 1 else v, [], false⟩, []) := by simp [tickS]
      rw [et] at r2 ⊢
      obtain ⟨v', r3, e4⟩ := ih (i + 1) _ r2 (by omega) (by omega)
      refine ⟨v', r3, ?_⟩
      simpa using e4
    · exact ⟨v, r, by simp [hi]⟩
theorem LinkIdle : haywainlaw16_LinkIdle.Pure := by
  intro a n hw hn
  refine ⟨1000, ?_⟩
  rw [haywainlaw16_LinkIdle.f]
  simp only [knows_f]
  by_cases hl : (a.f3.length : Int) > 300
  · simp [hl]
  simp only [hl, decide_false, cond_false]
  rw [as_f (Nat.le_refl _) (by omega), Option.bind_some, rright_f (Nat.le_refl _) (by omega), Option.bind_some]
  by_cases r : R a
  case neg => simp [r]
  have r1 : R ⟨a.f0, a.f1, a.f2, [], false⟩ := by
    have := r.a1
    refine ⟨r.a1, r.a2, r.b1, r.b2, r.c1, r.c2, by simp, by simp only [List.length_nil]; omega, fun j x _ hx => by simp at hx⟩
  simp only [r, decide_true, Bool.not_true, cond_false]
  rw [as_f (Nat.le_refl _) (by simp), Option.bind_some]
  obtain ⟨v, r2, e⟩ := idle_loop n hn a.f0 a.f1 1000 0 a.f2 r1 (by omega) (by omega)
  rw [show haywainlaw16_LinkIdle.l12 1000 n 1000 (0, a.f0, a.f1, a.f2, [], false) = _ from e]
  simp only [Option.bind_some, Sum.elim_inl]
  rw [as_f (Nat.le_refl _) (by simp)]
  simp only [Option.bind_some]
  rw [show (⟨(A ⟨a.f0, a.f1, a.f2, [], false⟩).f0, (A ⟨a.f0, a.f1, a.f2, [], false⟩).f1, v, (A ⟨a.f0, a.f1, a.f2, [], false⟩).f3, (A ⟨a.f0, a.f1, a.f2, [], false⟩).f4⟩ : S29) = A ⟨a.f0, a.f1, v, [], false⟩ from rfl, same_f (Nat.le_refl _) (by simp [A])]
  simp
end Go.Proofs.Ytndccmilcffedaa.Pure
