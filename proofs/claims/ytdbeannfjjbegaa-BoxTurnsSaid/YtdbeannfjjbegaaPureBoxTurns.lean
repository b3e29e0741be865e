/- What the law BoxTurns asks of plain Lean. -/
import Derived.Test.YtdbeannfjjbegaaPure
import Derived.Test.YtdbeannfjjbegaaLBoxTurns
set_option linter.unusedVariables false
set_option linter.unusedSimpArgs false
namespace Go.Proofs.Ytdbeannfjjbegaa.Pure
open Go Go.RowKit Go.Hw Go.Proofs.Ytdbeannfjjbegaa.G
theorem split2 (t : List S40) (i j : Nat) (hij : i < j) (hj : j < t.length) : ∃ p a q b r, t = p ++ a :: (q ++ b :: r) ∧ p.length = i ∧ p.length + 1 + q.length = j := by
  have h1 : t = t.take i ++ t.drop i := (List.take_append_drop i t).symm
  have h2 : t.drop i = t[i] :: t.drop (i + 1) := List.drop_eq_getElem_cons (by omega)
  have h3 : t.drop (i + 1) = (t.drop (i + 1)).take (j - i - 1) ++ (t.drop (i + 1)).drop (j - i - 1) := (List.take_append_drop _ _).symm
  have h4 : (t.drop (i + 1)).drop (j - i - 1) = t.drop j := by rw [List.drop_drop]; congr 1; omega
  have h5 : t.drop j = t[j] :: t.drop (j + 1) := List.drop_eq_getElem_cons hj
  refine ⟨t.take i, t[i], (t.drop (i + 1)).take (j - i - 1), t[j], t.drop (j + 1), ?_, by rw [List.length_take]; omega, by rw [List.length_take, List.length_take, List.length_drop]; omega⟩
  rw [← h5, ← h4, ← h3, ← h2]
  exact h1
theorem turn_loop (K n : Nat) (hn : n ≤ 300) : ∀ (k i : Nat) (t : List S40), t.length = n → i ≤ n / 2 → n / 2 < k + i → ∃ r, haywainlaw05_BoxTurns.l10 K k (t, i) = some r ∧ r.Perm t := by
  intro k
  induction k with
  | zero => intro i t h0 h1 h2; omega
  | succ k ih =>
    intro i t h0 h1 h2
    rw [haywainlaw05_BoxTurns.l10]
    have hd : (t.length : Int).tdiv 2 = ((n / 2 : Nat) : Int) := by
      rw [Int.tdiv_eq_ediv_of_nonneg (by omega)]; omega
    have e1 : divO .i64 (t.length : Int) 2 = some (((n / 2 : Nat) : Int)) := by
      unfold divO
      rw [if_neg (by decide), hd, wrapI (by omega) (by omega)]
    simp only [e1, Option.bind_some, hd]
    rw [wrapI (x := ((n / 2 : Nat) : Int)) (by omega) (by omega)]
    by_cases hi : i < n / 2
    · have hlt : (i : Int) < ((n / 2 : Nat) : Int) := by omega
      obtain ⟨p, a, q, b, r, ht, hp, hq⟩ := split2 t i (n - 1 - i) (by omega) (by omega)
      have hw : ∀ m : Nat, m = n → IntKind.wrap .i64 ((IntKind.wrap .i64 ((m : Int) - 1)) - (i : Int)) = ((n - 1 - i : Nat) : Int) := by
        intro m hm
        rw [wrapI (x := (m : Int) - 1) (by omega) (by omega), wrapI (by omega) (by omega)]
        omega
      have g1 : t[i]? = some a := by rw [ht, ← hp]; simp
      have g2 : t[n - 1 - i]? = some b := by
        rw [ht, ← hq, List.getElem?_append_right (by omega), show p.length + 1 + q.length - p.length = q.length + 1 by omega]
        simp
      have hl1 : (t.set i b).length = n := by rw [List.length_set]; exact h0
      simp only [hlt, decide_true, cond_true, idxN, g1, Option.bind_some, Int.toNat_natCast]
      rw [hw _ h0, idxN, g2]
      simp only [Option.bind_some]
      rw [hw _ hl1, idxN]
      have hj2 : (n - 1 - i) < (t.set i b).length := by omega
      rw [List.getElem?_eq_getElem hj2]
      simp only [Option.bind_some, Int.toNat_natCast]
      have s1 : (t.set i b).set (n - 1 - i) a = p ++ b :: (q ++ a :: r) := by
        rw [← hq, ht, ← hp]
        have : (p ++ a :: (q ++ b :: r)).set p.length b = (p ++ b :: q) ++ b :: r := by simp
        rw [this, show p.length + 1 + q.length = (p ++ b :: q).length by simp; omega]
        simp
      rw [s1, wrapI (x := (i : Int) + 1) (by omega) (by omega)]
      have e : ((i : Int) + 1) = ((i + 1 : Nat) : Int) := by omega
      rw [e]
      have hlen : (p ++ b :: (q ++ a :: r)).length = n := by rw [← s1, List.length_set]; exact hl1
      obtain ⟨x, hx, px⟩ := ih (i + 1) (p ++ b :: (q ++ a :: r)) hlen (by omega) (by omega)
      refine ⟨x, hx, px.trans ?_⟩
      rw [ht]
      refine List.Perm.append_left p ?_
      have p1 : (b :: (q ++ a :: r)).Perm (b :: a :: (q ++ r)) := (List.perm_middle).cons b
      have p2 : (a :: (q ++ b :: r)).Perm (a :: b :: (q ++ r)) := (List.perm_middle).cons a
      exact p1.trans ((List.Perm.swap a b _).trans p2.symm)
    · have hlt : ¬ (i : Int) < ((n / 2 : Nat) : Int) := by omega
      exact ⟨t, by simp only [hlt, decide_false, cond_false], List.Perm.refl _⟩
theorem BoxTurns : haywainlaw05_BoxTurns.Pure := by
  intro p l at' _ _ _
  refine ⟨10001, ?_⟩
  rw [haywainlaw05_BoxTurns.f, great_f, knows_f]
  simp only [Option.bind_some]
  by_cases h : 300 < l.length
  · simp [h]
  simp only [h, decide_false, cond_false, condB]
  by_cases h0 : (l.length : Int) = 0
  · simp [h0]
  rw [if_neg h0]
  have wl : IntKind.wrap .u64 (l.length : Int) = (l.length : Int) := by
    simp only [IntKind.wrap, IntKind.signed, IntKind.bits]
    simp
    omega
  have wa : ∃ u : Nat, IntKind.wrap .u64 at' = (u : Int) := ⟨(at' % 18446744073709551616).toNat, by
    simp only [IntKind.wrap, IntKind.signed, IntKind.bits]
    simp
    omega⟩
  obtain ⟨u, hu⟩ := wa
  have hk : u % l.length < l.length := Nat.mod_lt _ (by omega)
  have hm : (u : Int).tmod (l.length : Int) = ((u % l.length : Nat) : Int) := by
    rw [Int.tmod_eq_emod_of_nonneg (by omega)]; omega
  rw [wl, hu]
  generalize u % l.length = c at hk hm
  have e1 : remO (u : Int) (l.length : Int) = some (c : Int) := by
    unfold remO
    rw [if_neg h0, hm]
  simp only [e1, hm, Option.bind_some]
  rw [wrapI (x := (c : Int)) (by omega) (by omega)]
  have e2 : cutO l (c : Int) (l.length : Int) = some (l.drop c) := by
    unfold cutO
    rw [if_pos (by omega)]
    simp [cutL]
  have e3 : cutO l 0 (c : Int) = some (l.take c) := by
    unfold cutO
    rw [if_pos (by omega)]
    simp [cutL]
  have e4 : cutL l ((0 : Int).toNat) (((c : Int)).toNat) = l.take c := by simp [cutL]
  have e5 : cutL l (((c : Int)).toNat) (((l.length : Int)).toNat) = l.drop c := by simp [cutL]
  have hd : (l.drop c).length = l.length - c := List.length_drop
  have ht : (l.take c).length = c := by rw [List.length_take]; omega
  rw [e2, e3, e4, e5]
  simp only [Option.bind_some]
  rw [own_f (by omega), Option.bind_some, appN (by omega), Option.bind_some]
  have hlen : (l.drop c ++ l.take c).length = l.length := by rw [List.length_append]; omega
  obtain ⟨r, hr, pr⟩ := turn_loop 10001 l.length (by omega) 10001 0 (l.drop c ++ l.take c) hlen (Nat.zero_le _) (by omega)
  have pl : r.Perm l := pr.trans (List.perm_append_comm.trans (by rw [List.take_append_drop]))
  rw [show haywainlaw05_BoxTurns.l10 10001 10001 (l.drop c ++ l.take c, 0) = _ from hr]
  obtain ⟨f, hf, hfl⟩ := fold_some p l (by omega)
  simp only [Option.bind_some]
  rw [own_f (by omega), Option.bind_some, fold_perm p pl (by have := pl.length_eq; omega), hf]
  simp only [Option.bind_some]
  rw [same_f (by omega) (by omega)]
  simp
end Go.Proofs.Ytdbeannfjjbegaa.Pure
