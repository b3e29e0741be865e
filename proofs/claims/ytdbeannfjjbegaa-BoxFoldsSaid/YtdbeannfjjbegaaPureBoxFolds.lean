/- What the law BoxFolds asks of plain Lean. -/
import Derived.Test.YtdbeannfjjbegaaPureFold
import Derived.Test.YtdbeannfjjbegaaLBoxFolds
set_option linter.unusedVariables false
set_option linter.unusedSimpArgs false
namespace Go.Proofs.Ytdbeannfjjbegaa.Pure
open Go Go.RowKit Go.Hw Go.Proofs.Ytdbeannfjjbegaa.G
def rest1 (p : Int) (acc : List S40) (s : List S40) : List S40 × Int := match s with
  | [] => (acc, 0)
  | m :: r => out acc (runs p m r)
theorem rin (K : Nat) {p : Int} {s : List S40} (hp : 1 ≤ p ∧ p ≤ 5) (hs : s.length ≤ 10000) (hw : ∀ x ∈ s, R x.f1) (c : S40) : ∀ (rest : List S40) (k j : Nat) (v : Int), s.drop j = rest → rest.length < k → j ≤ s.length → R v →
    (haywainref05_Fold.l126 K p s c k ((j : Int), v) = some (.inr (.inr ([], 8))) ∧ runs p ⟨c.f0, v⟩ rest = none) ∨
    ∃ (j' : Nat) (v' : Int), haywainref05_Fold.l126 K p s c k ((j : Int), v) = some (.inl ((j' : Int), v')) ∧ j ≤ j' ∧ j' ≤ s.length ∧ R v' ∧ ∀ acc, out acc (runs p ⟨c.f0, v⟩ rest) = rest1 p (acc ++ [⟨c.f0, v'⟩]) (s.drop j') := by
  intro rest
  induction rest with
  | nil =>
    intro k j v h1 h2 h3 h4
    obtain ⟨k, rfl⟩ : ∃ k', k = k' + 1 := ⟨k - 1, by omega⟩
    have hi : s.length ≤ j := by
      have := congrArg List.length h1
      rw [List.length_drop, List.length_nil] at this
      omega
    have hlt : ¬ ((j : Int) < (s.length : Int)) := by omega
    refine .inr ⟨j, v, ?_, Nat.le_refl _, h3, h4, fun acc => ?_⟩
    · rw [haywainref05_Fold.l126]
      simp only [hlt, decide_false, cond_false]
    · rw [h1]; rfl
  | cons m rest ih =>
    intro k j v h1 h2 h3 h4
    obtain ⟨k, rfl⟩ : ∃ k', k = k' + 1 := ⟨k - 1, by omega⟩
    obtain ⟨hi, hx, hd⟩ := drop_cons h1
    have hm : R m.f1 := hw m (List.mem_of_getElem? hx)
    have hlt : ((j : Int) < (s.length : Int)) := by omega
    have hn : IntKind.wrap .i64 ((j : Int) + 1) = ((j + 1 : Nat) : Int) := by rw [wrapI (by omega) (by omega)]; omega
    simp only [List.length_cons] at h2
    rw [haywainref05_Fold.l126]
    simp only [hlt, decide_true, cond_true, idxN, hx, Option.bind_some, condB, hn, F_ref K p v m.f1 h4 hm, condN, runs]
    by_cases hc : c.f0 = m.f0
    · rw [if_pos hc.symm, if_pos hc]
      by_cases he : (F p v m.f1).2 = 0
      · rw [if_pos he, if_pos he]
        rcases ih k (j + 1) _ hd (by omega) hi (F_R h4 hm) with h | ⟨j', v', e, g1, g2, g3, g4⟩
        · exact .inl h
        · exact .inr ⟨j', v', e, by omega, g2, g3, g4⟩
      · rw [if_neg he, if_neg he, F_err hp he]
        exact .inl ⟨rfl, rfl⟩
    · rw [if_neg (fun h => hc h.symm), if_neg hc]
      refine .inr ⟨j, v, rfl, Nat.le_refl _, h3, h4, fun acc => ?_⟩
      rw [h1]
      show out acc ((runs p m rest).map _) = out _ (runs p m rest)
      cases runs p m rest <;> simp [out]
theorem rout (K : Nat) {p : Int} {s : List S40} (hp : 1 ≤ p ∧ p ≤ 5) (hs : s.length ≤ 10000) (hK : 10001 ≤ K) (hw : ∀ x ∈ s, R x.f1) : ∀ (k i : Nat) (acc : List S40), s.length < k + i → i ≤ s.length → acc.length ≤ i →
    haywainref05_Fold.l3 K p s k (acc, (i : Int)) = some (rest1 p acc (s.drop i)) := by
  intro k
  induction k with
  | zero => intro i acc h1 h2; omega
  | succ k ih =>
    intro i acc h1 h2 h3
    rw [haywainref05_Fold.l3]
    by_cases hi : i < s.length
    · have hx : s[i]? = some s[i] := List.getElem?_eq_getElem hi
      have hd : s.drop i = s[i] :: s.drop (i + 1) := List.drop_eq_getElem_cons hi
      have hlt : ((i : Int) < (s.length : Int)) := by omega
      have hn : IntKind.wrap .i64 ((i : Int) + 1) = ((i + 1 : Nat) : Int) := by rw [wrapI (by omega) (by omega)]; omega
      simp only [hlt, decide_true, cond_true, idxN, hx, Option.bind_some, hn]
      have key := rin K hp hs hw s[i] (s.drop (i + 1)) K (i + 1) s[i].f1 rfl (by rw [List.length_drop]; omega) hi (hw _ (List.getElem_mem hi))
      have hr : rest1 p acc (s.drop i) = out acc (runs p ⟨s[i].f0, s[i].f1⟩ (s.drop (i + 1))) := by rw [hd]; rfl
      rcases key with ⟨e, h⟩ | ⟨j', v', e, g1, g2, g3, g4⟩
      · rw [e, hr, h]
        rfl
      · rw [e, hr, g4]
        simp only [Option.bind_some, Sum.elim_inl]
        rw [appN (by simp only [List.length_cons, List.length_nil]; omega)]
        simp only [Option.bind_some, Sum.elim_inl]
        exact ih j' _ (by omega) g2 (by simp only [List.length_append, List.length_cons, List.length_nil]; omega)
    · have hlt : ¬ ((i : Int) < (s.length : Int)) := by omega
      have hd : s.drop i = [] := List.drop_eq_nil_of_le (by omega)
      rw [hd]
      simp only [hlt, decide_false, cond_false, rest1]
theorem ref_fold {K : Nat} {p : Int} {l s : List S40} (hK : 10001 ≤ K) (hs : s.length < 10000) (hw : ∀ x ∈ s, R x.f1) (hsort : haywainref05_Sort.f K l = some s) :
    haywainref05_Fold.f K p l = some (if 1 ≤ p ∧ p ≤ 5 then ans p s else ([], 1)) := by
  unfold haywainref05_Fold.f
  by_cases h1 : p < 1
  · have : ¬ (1 ≤ p ∧ p ≤ 5) := by omega
    simp [h1, this]
  by_cases h2 : p > 5
  · have : ¬ (1 ≤ p ∧ p ≤ 5) := by omega
    simp [h1, h2, this]
  have hp : 1 ≤ p ∧ p ≤ 5 := by omega
  simp only [h1, h2, decide_false, cond_false, hsort, Option.bind_some, if_pos hp]
  have := rout K hp (by omega) hK hw K 0 [] (by omega) (Nat.zero_le _) (Nat.le_refl _)
  rw [show (0 : Int) = ((0 : Nat) : Int) from rfl, this]
  cases s <;> rfl
theorem runs_len (p : Int) : ∀ (s : List S40) (c : S40) (r : List S40), runs p c s = some r → r.length ≤ s.length + 1
  | [], c, r, h => by simp [runs] at h; subst h; simp
  | m :: s, c, r, h => by
    unfold runs at h
    split at h
    · split at h
      · have := runs_len p s _ r h
        simp only [List.length_cons]; omega
      · cases h
    · obtain ⟨q, hq, rfl⟩ := Option.map_eq_some_iff.1 h
      have := runs_len p s _ q hq
      simp only [List.length_cons]; omega
theorem ans_len (p : Int) (s : List S40) : (ans p s).1.length ≤ s.length := by
  cases s with
  | nil => simp [ans]
  | cons c s =>
    simp only [ans]
    cases h : runs p c s with
    | none => simp [out]
    | some r => have := runs_len p s c r h; simpa [out] using this
theorem BoxFolds : haywainlaw05_BoxFolds.Pure := by
  intro p l _ hl
  refine ⟨10001, ?_⟩
  rw [haywainlaw05_BoxFolds.f, great_f, knows_f]
  simp only [Option.bind_some]
  by_cases h : 300 < l.length
  · simp [h]
  have hw : ∀ x ∈ l, R x.f1 := fun x hx => wf_range (hl.2 x hx).2
  obtain ⟨s, e1, e2, q, t, e3⟩ := box_fold (K := 10001) (p := p) (Nat.le_refl _) (by omega) hw
  have hs := q.length_eq
  have e4 := ref_fold (K := 10001) (p := p) (Nat.le_refl _) (by omega) (fun x hx => hw x (q.subset hx)) e1
  simp only [h, decide_false, cond_false]
  rw [own_f (by omega), Option.bind_some, e3, Option.bind_some, e4, Option.bind_some]
  have hlen : (if 1 ≤ p ∧ p ≤ 5 then ans p s else ([], 1)).1.length ≤ 300 := by
    have := ans_len p s
    split
    · omega
    · simp
  rw [same_f (by omega) (by omega)]
  simp
end Go.Proofs.Ytdbeannfjjbegaa.Pure
