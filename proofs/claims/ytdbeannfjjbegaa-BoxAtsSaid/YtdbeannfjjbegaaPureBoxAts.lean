/- What the law BoxAts asks of plain Lean. -/
import Derived.Test.YtdbeannfjjbegaaPure
import Derived.Test.YtdbeannfjjbegaaLBoxAts
set_option linter.unusedVariables false
set_option linter.unusedSimpArgs false
namespace Go.Proofs.Ytdbeannfjjbegaa.Pure
open Go Go.RowKit Go.Hw Go.Proofs.Ytdbeannfjjbegaa.G
theorem at_loop (K : Nat) (l : List S40) (v : Int) (hl : l.length ≤ 300) : ∀ (k i : Nat), i ≤ l.length → l.length < k + i → ∃ r, box_At.l1 K l v k i = some r ∧ haywainref05_At.l1 K l v k i = some r := by
  intro k
  induction k with
  | zero => intro i h1 h2; omega
  | succ k ih =>
    intro i h1 h2
    rw [box_At.l1, haywainref05_At.l1]
    by_cases hi : i < l.length
    · have hx : l[i]? = some l[i] := List.getElem?_eq_getElem hi
      have hlt : ((i : Int) < (l.length : Int)) := by omega
      simp only [hlt, decide_true, cond_true, idxN, hx, Option.bind_some, condB]
      rw [wrapI (x := (i : Int) + 1) (by omega) (by omega)]
      have e : ((i : Int) + 1) = ((i + 1 : Nat) : Int) := by omega
      rw [e]
      by_cases h : l[i].f0 = v
      · exact ⟨(l[i].f1, true), by simp [h], by simp [h]⟩
      · obtain ⟨r, h3, h4⟩ := ih (i + 1) hi (by omega)
        exact ⟨r, by simp only [h, if_false]; exact h3, by simp only [h, if_false]; exact h4⟩
    · have hlt : ¬ ((i : Int) < (l.length : Int)) := by omega
      exact ⟨(0, false), by simp [hlt], by simp [hlt]⟩
theorem sames_loop (K : Nat) (a b : List S40) (hab : a.length = b.length) (hl : a.length ≤ 100000) : ∀ (k i : Nat), i ≤ a.length → a.length < k + i → ∃ r, haywainref04_SameMsgs.l2 K a b k i = some r ∧ box_Same.l2 K a b k i = some r := by
  intro k
  induction k with
  | zero => intro i h1 h2; omega
  | succ k ih =>
    intro i h1 h2
    rw [haywainref04_SameMsgs.l2, box_Same.l2]
    by_cases hi : i < a.length
    · have hx : a[i]? = some a[i] := List.getElem?_eq_getElem hi
      have hy : b[i]? = some (b[i]'(by omega)) := List.getElem?_eq_getElem (by omega)
      have hlt : ((i : Int) < (a.length : Int)) := by omega
      simp only [hlt, decide_true, cond_true, idxN, hx, hy, Option.bind_some]
      rw [wrapI (x := (i : Int) + 1) (by omega) (by omega)]
      have e : ((i : Int) + 1) = ((i + 1 : Nat) : Int) := by omega
      rw [e]
      obtain ⟨r, h3, h4⟩ := ih (i + 1) hi (by omega)
      rw [h3, h4]
      generalize (!((a[i]).f0 == (b[i]'(by omega)).f0 && ((a[i]).f1 == (b[i]'(by omega)).f1 && true))) = c
      cases c
      · exact ⟨r, rfl, rfl⟩
      · exact ⟨false, rfl, rfl⟩
    · have hlt : ¬ ((i : Int) < (a.length : Int)) := by omega
      exact ⟨true, by simp [hlt], by simp [hlt]⟩
theorem sames_self {K : Nat} (a : List S40) (hK : a.length < K) (hl : a.length ≤ 100000) : box_Same.l2 K a a K 0 = some true := by
  obtain ⟨r, h1, h2⟩ := sames_loop K a a rfl hl K 0 (Nat.zero_le _) (by omega)
  have := same_loop K a hl K 0 (Nat.zero_le _) (by omega)
  rw [h1] at this
  rw [show (0 : Int) = ((0 : Nat) : Int) from rfl, h2, this]
theorem boxsame (a b : List S40) (ha : a.length ≤ 300) (hb : b.length ≤ 300) : ∃ r, box_Same.f 10001 a b = some r ∧ haywainref05_Same.f 10001 a b = some r := by
  obtain ⟨x, e1, e2, p, s⟩ := sorts (K := 10001) (Nat.le_refl _) a (by omega)
  obtain ⟨y, f1, f2, q, t⟩ := sorts (K := 10001) (Nat.le_refl _) b (by omega)
  have hx := p.length_eq
  have hy := q.length_eq
  unfold box_Same.f haywainref05_Same.f haywainref04_SameMsgs.f
  rw [e1, e2, f1, f2]
  simp only [Option.bind_some, condN]
  by_cases h : a.length = b.length
  · have h1 : (a.length : Int) = (b.length : Int) := by omega
    have h2 : (x.length : Int) = (y.length : Int) := by omega
    obtain ⟨r, g1, g2⟩ := sames_loop 10001 x y (by omega) (by omega) 10001 0 (Nat.zero_le _) (by omega)
    rw [if_pos h1, if_pos h2, show (0 : Int) = ((0 : Nat) : Int) from rfl, g1, g2]
    exact ⟨r, rfl, rfl⟩
  · have h1 : ¬ (a.length : Int) = (b.length : Int) := by omega
    have h2 : ¬ (x.length : Int) = (y.length : Int) := by omega
    rw [if_neg h1, if_neg h2]
    exact ⟨false, rfl, rfl⟩
theorem boxsorted (a : List S40) (ha : a.length ≤ 300) : ∃ r, box_Sort.f 10001 a = some r ∧ box_Same.f 10001 a r = some true := by
  obtain ⟨x, e1, e2, p, s⟩ := sorts (K := 10001) (Nat.le_refl _) a (by omega)
  have hx := p.length_eq
  obtain ⟨y, f1, f2, q, t⟩ := sorts (K := 10001) (Nat.le_refl _) x (by omega)
  have hxy := srt_eq q t s
  subst hxy
  refine ⟨y, e1, ?_⟩
  unfold box_Same.f
  have h1 : (a.length : Int) = (y.length : Int) := by omega
  rw [e1, f1]
  simp only [Option.bind_some, condN]
  rw [if_pos h1, sames_self y (by omega) (by omega)]
theorem BoxAts : haywainlaw05_BoxAts.Pure := by
  intro a b v _ _ _
  refine ⟨10001, ?_⟩
  rw [haywainlaw05_BoxAts.f, great_f, great_f, knows_f]
  simp only [Option.bind_some]
  by_cases h : 300 < a.length
  · simp [h]
  by_cases h2 : 300 < b.length
  · simp [h, h2]
  simp only [h, h2, decide_false, cond_false]
  obtain ⟨r, e1, e2⟩ := at_loop 10001 a v (by omega) 10001 0 (Nat.zero_le _) (by omega)
  rw [show box_At.f 10001 a v = some r from e1, show haywainref05_At.f 10001 a v = some r from e2, own_f (by omega), own_f (by omega)]
  obtain ⟨q, g1, g2⟩ := boxsame a b (by omega) (by omega)
  obtain ⟨m, k1, k2⟩ := boxsorted a (by omega)
  simp only [Option.bind_some, g1, g2, k1, k2, beq_self_eq_true, cond_true]
end Go.Proofs.Ytdbeannfjjbegaa.Pure
