/- What the law BoxJoins asks of plain Lean. -/
import Derived.Test.YtdbeannfjjbegaaPure
import Derived.Test.YtdbeannfjjbegaaLBoxJoins
set_option linter.unusedVariables false
set_option linter.unusedSimpArgs false
namespace Go.Proofs.Ytdbeannfjjbegaa.Pure
open Go Go.RowKit Go.Hw Go.Proofs.Ytdbeannfjjbegaa.G
def Sml (a : List (List S40)) (i : Nat) : Prop := ∀ j x, i ≤ j → a[j]? = some x → x.length ≤ 300
theorem look (a : List (List S40)) (ha : a.length ≤ 20) : ∀ (k i : Nat), i ≤ a.length → a.length < k + i → (haywainlaw05_BoxJoins.l11 10001 a k i = some (.inl ()) ∧ Sml a i) ∨ haywainlaw05_BoxJoins.l11 10001 a k i = some (.inr true) := by
  intro k
  induction k with
  | zero => intro i h1 h2; omega
  | succ k ih =>
    intro i h1 h2
    rw [haywainlaw05_BoxJoins.l11]
    by_cases hi : i < a.length
    · have hx : a[i]? = some a[i] := List.getElem?_eq_getElem hi
      have hlt : ((i : Int) < (a.length : Int)) := by omega
      simp only [hlt, decide_true, cond_true, idxN, hx, Option.bind_some, great_f, knows_f]
      rw [wrapI (x := (i : Int) + 1) (by omega) (by omega)]
      have e : ((i : Int) + 1) = ((i + 1 : Nat) : Int) := by omega
      by_cases hg : 300 < a[i].length
      · exact .inr (by simp [hg])
      · rw [e]
        simp only [hg, decide_false, cond_false]
        rcases ih (i + 1) hi (by omega) with ⟨e1, e2⟩ | e1
        · refine .inl ⟨e1, fun j x hj hy => ?_⟩
          by_cases h : j = i
          · subst h
            rw [hx] at hy
            obtain rfl := Option.some.inj hy
            omega
          · exact e2 j x (by omega) hy
        · exact .inr e1
    · have hlt : ¬ ((i : Int) < (a.length : Int)) := by omega
      refine .inl ⟨by simp [hlt], fun j x hj hy => ?_⟩
      have := (List.getElem?_eq_some_iff.1 hy).1
      omega
theorem join_loop (a : List (List S40)) (ha : a.length ≤ 20) (hs : Sml a 0) : ∀ (k i : Nat) (acc : List S40), i ≤ a.length → a.length < k + i → acc.length ≤ 300 * i → box_Join.l1 10001 a k (acc, i) = box_Sort.f 10001 (acc ++ (a.drop i).flatten) ∧ haywainref05_Join.l1 10001 a k (acc, i) = haywainref05_Sort.f 10001 (acc ++ (a.drop i).flatten) ∧ (acc ++ (a.drop i).flatten).length ≤ 300 * a.length := by
  intro k
  induction k with
  | zero => intro i acc h1 h2; omega
  | succ k ih =>
    intro i acc h1 h2 h3
    rw [box_Join.l1, haywainref05_Join.l1]
    by_cases hi : i < a.length
    · have hx : a[i]? = some a[i] := List.getElem?_eq_getElem hi
      have hlt : ((i : Int) < (a.length : Int)) := by omega
      have hl := hs i _ (Nat.zero_le _) hx
      simp only [hlt, decide_true, cond_true, idxN, hx, Option.bind_some]
      rw [wrapI (x := (i : Int) + 1) (by omega) (by omega), appN (by omega)]
      have e : ((i : Int) + 1) = ((i + 1 : Nat) : Int) := by omega
      simp only [Option.bind_some]
      rw [e]
      have := ih (i + 1) (acc ++ a[i]) hi (by omega) (by rw [List.length_append]; omega)
      rw [List.drop_eq_getElem_cons hi, List.flatten_cons, ← List.append_assoc]
      exact this
    · have hlt : ¬ ((i : Int) < (a.length : Int)) := by omega
      have : a.drop i = [] := List.drop_eq_nil_of_le (by omega)
      rw [this]
      simp only [hlt, decide_false, cond_false, List.flatten_nil, List.append_nil]
      refine ⟨by cases box_Sort.f 10001 acc <;> rfl, by cases haywainref05_Sort.f 10001 acc <;> rfl, ?_⟩
      have : 300 * i ≤ 300 * a.length := Nat.mul_le_mul_left _ h1
      omega
theorem BoxJoins : haywainlaw05_BoxJoins.Pure := by
  intro a hw
  refine ⟨10001, ?_⟩
  rw [haywainlaw05_BoxJoins.f]
  simp only [knows_f]
  by_cases h : (a.length : Int) > 20
  · simp [h]
  simp only [h, decide_false, cond_false]
  rcases look a (by omega) 10001 0 (Nat.zero_le _) (by omega) with ⟨e, hs⟩ | e
  · rw [show haywainlaw05_BoxJoins.l11 10001 a 10001 0 = _ from e]
    simp only [Option.bind_some, Sum.elim_inl]
    obtain ⟨j1, j2, j3⟩ := join_loop a (by omega) hs 10001 0 [] (Nat.zero_le _) (by omega) (by simp)
    simp only [List.drop_zero, List.nil_append] at j1 j2 j3
    obtain ⟨r, e1, e2, p, s⟩ := sorts (K := 10001) (Nat.le_refl _) a.flatten (by omega)
    have hr := p.length_eq
    rw [show box_Join.f 10001 a = _ from j1, show haywainref05_Join.f 10001 a = _ from j2, e1, Option.bind_some, e2, Option.bind_some, same_f (by omega) (by omega)]
    rfl
  · rw [show haywainlaw05_BoxJoins.l11 10001 a 10001 0 = _ from e]
    rfl
end Go.Proofs.Ytdbeannfjjbegaa.Pure
