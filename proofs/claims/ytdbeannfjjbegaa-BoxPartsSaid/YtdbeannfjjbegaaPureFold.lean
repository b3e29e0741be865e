/- Folding messages, in plain Lean: what both folds answer of a sorted list. -/
import Derived.Test.YtdbeannfjjbegaaPure
set_option linter.unusedVariables false
set_option linter.unusedSimpArgs false
namespace Go.Proofs.Ytdbeannfjjbegaa.Pure
open Go Go.RowKit Go.Hw Go.Proofs.Ytdbeannfjjbegaa.G
theorem wf_range {n : Int} (h : (Lit.int .i64 n).wf = true) : -9223372036854775808 ≤ n ∧ n ≤ 9223372036854775807 := by
  simp only [Lit.wf, IntKind.min, IntKind.max, IntKind.signed, IntKind.bits, Bool.and_eq_true, decide_eq_true_eq] at h
  simpa using h
theorem wrap_cases {x : Int} (h1 : -18446744073709551616 ≤ x) (h2 : x ≤ 18446744073709551614) : IntKind.wrap .i64 x = if x < -9223372036854775808 then x + 18446744073709551616 else if 9223372036854775807 < x then x - 18446744073709551616 else x := by
  simp only [IntKind.wrap, IntKind.signed, IntKind.bits]
  simp
  split <;> (try split) <;> (try split) <;> omega
theorem add_eq (K : Nat) (a b : Int) (ha : (Lit.int .i64 a).wf = true) (hb : (Lit.int .i64 b).wf = true) : num_Add.f K a b = haywainref01_Add.f K a b := by
  have ra := wf_range ha
  have rb := wf_range hb
  have hw := wrap_cases (x := a + b) (by omega) (by omega)
  obtain ⟨w, hw0⟩ : ∃ w, IntKind.wrap .i64 (a + b) = w := ⟨_, rfl⟩
  rw [hw0] at hw
  have hgen : num_Add.f K a b = some (if (0 ≤ a ↔ 0 ≤ b) ∧ ¬ (0 ≤ w ↔ 0 ≤ a) then (0, false) else (w, true)) := by
    unfold num_Add.f
    rw [hw0]
    by_cases c1 : 0 ≤ a <;> by_cases c2 : 0 ≤ b <;> by_cases c3 : 0 ≤ w <;> simp [c1, c2, c3]
  have href : haywainref01_Add.f K a b = some (if (0 < b ∧ 9223372036854775807 - b < a) ∨ (b < 0 ∧ a < -9223372036854775808 - b) then (0, false) else (w, true)) := by
    unfold haywainref01_Add.f
    rw [hw0]
    by_cases c1 : b > 0
    · have c2 : ¬ b < 0 := by omega
      rw [wrapI (x := 9223372036854775807 - b) (by omega) (by omega)]
      by_cases c3 : a > 9223372036854775807 - b
      · have c4 : 9223372036854775807 - b < a := c3
        simp [c1, c2, c3, c4]
      · have c4 : ¬ 9223372036854775807 - b < a := c3
        simp [c1, c2, c3, c4]
    · by_cases c2 : b < 0
      · rw [wrapI (x := (-9223372036854775808) - b) (by omega) (by omega)]
        by_cases c3 : a < -9223372036854775808 - b
        · simp [c1, c2, c3]
        · simp [c1, c2, c3]
      · simp [c1, c2]
  rw [hgen, href]
  congr 1
  by_cases c : (0 < b ∧ 9223372036854775807 - b < a) ∨ (b < 0 ∧ a < -9223372036854775808 - b)
  · rw [if_pos c, if_pos]
    split at hw <;> (try split at hw) <;> omega
  · rw [if_neg c, if_neg]
    split at hw <;> (try split at hw) <;> omega
/-- The one fold and the other. -/
theorem pf_eq (K : Nat) (p a b : Int) (ha : (Lit.int .i64 a).wf = true) (hb : (Lit.int .i64 b).wf = true) : prog_Fold.f K p a b = haywainref04_Fold.f K p a b := by
  have ra := wf_range ha
  have rb := wf_range hb
  unfold prog_Fold.f haywainref04_Fold.f prog_rules.f
  simp only [condB]
  by_cases h1 : p < 1
  · have e1 : ¬ p = 1 := by omega
    have e2 : ¬ p = 2 := by omega
    have e3 : ¬ p = 3 := by omega
    have e4 : ¬ p = 4 := by omega
    have e5 : ¬ p = 5 := by omega
    simp [h1, e1, e2, e3, e4, e5]
  by_cases h2 : p > 5
  · have e1 : ¬ p = 1 := by omega
    have e2 : ¬ p = 2 := by omega
    have e3 : ¬ p = 3 := by omega
    have e4 : ¬ p = 4 := by omega
    have e5 : ¬ p = 5 := by omega
    simp [h1, h2, e1, e2, e3, e4, e5]
  have hp : p = 1 ∨ p = 2 ∨ p = 3 ∨ p = 4 ∨ p = 5 := by omega
  have lss : (cond (decide (b < a)) (some (b, (0 : Int))) (some (a, 0))) = (cond (decide (a < b)) (some (a, (0 : Int))) (some (b, 0))) := by
    by_cases c1 : b < a
    · have : ¬ a < b := by omega
      simp [c1, this]
    · by_cases c2 : a < b
      · simp [c1, c2]
      · have : a = b := by omega
        subst this
        simp
  have gtr : (cond (decide (b > a)) (some (b, (0 : Int))) (some (a, 0))) = (cond (decide (a > b)) (some (a, (0 : Int))) (some (b, 0))) := by
    by_cases c1 : b > a
    · have : ¬ a > b := by omega
      simp [c1, this]
    · by_cases c2 : a > b
      · simp [c1, c2]
      · have : a = b := by omega
        subst this
        simp
  rcases hp with rfl | rfl | rfl | rfl | rfl
  · simpa [prog_less.f] using lss
  · simpa [prog_less.f] using lss
  · simpa [prog_less.f] using lss
  · simpa [prog_rules_5_f38.f] using gtr
  · simp only [add_eq K a b ha hb]
    simp
def R (x : Int) : Prop := -9223372036854775808 ≤ x ∧ x ≤ 9223372036854775807
theorem wf_of_R {n : Int} (h : R n) : (Lit.int .i64 n).wf = true := by
  unfold R at h
  simp only [Lit.wf, IntKind.min, IntKind.max, IntKind.signed, IntKind.bits, Bool.and_eq_true, decide_eq_true_eq]
  simpa using h
instance (x : Int) : Decidable (R x) := by unfold R; infer_instance
theorem R_iff {x : Int} : R x ↔ -9223372036854775808 ≤ x ∧ x ≤ 9223372036854775807 := Iff.rfl
def opU (p a b : Int) : Int := if p = 5 then a + b else if p = 4 then (if a < b then b else a) else (if b < a then b else a)
def F (p a b : Int) : Int × Int := if p < 1 ∨ 5 < p then (0, 1) else if p = 5 ∧ ¬ R (a + b) then (0, 8) else (opU p a b, 0)
theorem add_f (K : Nat) (a b : Int) (ha : R a) (hb : R b) : haywainref01_Add.f K a b = some (if R (a + b) then (a + b, true) else (0, false)) := by
  have ra := ha
  have rb := hb
  unfold R at ra rb
  have hw := wrap_cases (x := a + b) (by omega) (by omega)
  obtain ⟨w, hw0⟩ : ∃ w, IntKind.wrap .i64 (a + b) = w := ⟨_, rfl⟩
  rw [hw0] at hw
  have href : haywainref01_Add.f K a b = some (if (0 < b ∧ 9223372036854775807 - b < a) ∨ (b < 0 ∧ a < -9223372036854775808 - b) then (0, false) else (w, true)) := by
    unfold haywainref01_Add.f
    rw [hw0]
    by_cases c1 : b > 0
    · have c2 : ¬ b < 0 := by omega
      rw [wrapI (x := 9223372036854775807 - b) (by omega) (by omega)]
      by_cases c3 : a > 9223372036854775807 - b
      · have c4 : 9223372036854775807 - b < a := c3
        simp [c1, c2, c3, c4]
      · have c4 : ¬ 9223372036854775807 - b < a := c3
        simp [c1, c2, c3, c4]
    · by_cases c2 : b < 0
      · rw [wrapI (x := (-9223372036854775808) - b) (by omega) (by omega)]
        by_cases c3 : a < -9223372036854775808 - b
        · simp [c1, c2, c3]
        · simp [c1, c2, c3]
      · simp [c1, c2]
  rw [href]
  congr 1
  by_cases c : (0 < b ∧ 9223372036854775807 - b < a) ∨ (b < 0 ∧ a < -9223372036854775808 - b)
  · rw [if_pos c, if_neg (by rw [R_iff]; omega)]
  · rw [if_neg c, if_pos (by rw [R_iff]; omega)]
    split at hw <;> (try split at hw) <;> first | omega | (rw [hw])
theorem F_ref (K : Nat) (p a b : Int) (ha : R a) (hb : R b) : haywainref04_Fold.f K p a b = some (F p a b) := by
  unfold haywainref04_Fold.f F
  simp only [condB]
  by_cases h1 : p < 1
  · simp [h1]
  by_cases h2 : p > 5
  · have h3 : 5 < p := h2
    simp [h1, h2, h3]
  have h3 : ¬ (p < 1 ∨ 5 < p) := by omega
  simp only [h1, h2, h3, decide_false, cond_false, if_false, add_f K a b ha hb]
  by_cases h5 : p = 5
  · by_cases hr : R (a + b)
    · simp [h5, hr, opU]
    · simp [h5, hr]
  · by_cases h4 : p = 4
    · by_cases c1 : a > b
      · have c2 : ¬ a < b := by omega
        simp [h4, c1, c2, opU]
      · by_cases c2 : a < b
        · simp [h4, c1, c2, opU]
        · have : a = b := by omega
          subst this
          simp [h4, opU]
    · by_cases c1 : a < b
      · have c2 : ¬ b < a := by omega
        simp [h4, h5, c1, c2, opU]
      · by_cases c2 : b < a
        · simp [h4, h5, c1, c2, opU]
        · have : a = b := by omega
          subst this
          simp [h4, h5, opU]
theorem F_box (K : Nat) (p a b : Int) (ha : R a) (hb : R b) : prog_Fold.f K p a b = some (F p a b) := by
  rw [pf_eq K p a b (wf_of_R ha) (wf_of_R hb), F_ref K p a b ha hb]
theorem F_err {p a b : Int} (hp : 1 ≤ p ∧ p ≤ 5) (h : (F p a b).2 ≠ 0) : (F p a b).2 = 8 := by
  unfold F at h ⊢
  rw [if_neg (by omega)] at h ⊢
  split at h
  · rename_i hc; rw [if_pos hc]
  · simp at h
theorem F_R {p a b : Int} (ha : R a) (hb : R b) : R (F p a b).1 := by
  unfold F
  split
  · exact (by decide : R 0)
  · split
    · exact (by decide : R 0)
    · rename_i h
      unfold opU
      split
      · rename_i h5
        exact Classical.not_not.1 (fun hn => h ⟨h5, hn⟩)
      · split <;> split <;> assumption
def runs (p : Int) : S40 → List S40 → Option (List S40)
  | c, [] => some [c]
  | c, m :: s => if c.f0 = m.f0 then (if (F p c.f1 m.f1).2 = 0 then runs p ⟨c.f0, (F p c.f1 m.f1).1⟩ s else none) else (runs p m s).map (c :: ·)
def out (acc : List S40) : Option (List S40) → List S40 × Int
  | some r => (acc ++ r, 0)
  | none => ([], 8)
def ans (p : Int) : List S40 → List S40 × Int
  | [] => ([], 0)
  | c :: s => out [] (runs p c s)
theorem drop_cons {s rest : List S40} {m : S40} {i : Nat} (h : s.drop i = m :: rest) : i < s.length ∧ s[i]? = some m ∧ s.drop (i + 1) = rest := by
  have h1 : i < s.length := by
    have := congrArg List.length h
    rw [List.length_drop, List.length_cons] at this
    omega
  refine ⟨h1, ?_, ?_⟩
  · have := congrArg (·[0]?) h
    simpa using this
  · have := congrArg List.tail h
    simpa using this
theorem bfold (K : Nat) {p : Int} {s : List S40} (hp : 1 ≤ p ∧ p ≤ 5) (hs : s.length ≤ 10000) (hw : ∀ x ∈ s, R x.f1) : ∀ (rest : List S40) (k i : Nat) (acc : List S40) (c : S40), s.drop i = rest → rest.length < k → acc.length < i → i ≤ s.length → R c.f1 →
    box_Fold.l2 K p s k (acc ++ [c], (i : Int)) = some (out acc (runs p c rest)) := by
  intro rest
  induction rest with
  | nil =>
    intro k i acc c h1 h2 h3 h4 h5
    obtain ⟨k, rfl⟩ : ∃ k', k = k' + 1 := ⟨k - 1, by omega⟩
    have hi : s.length ≤ i := by
      have := congrArg List.length h1
      rw [List.length_drop, List.length_nil] at this
      omega
    rw [box_Fold.l2]
    have hlt : ¬ ((i : Int) < (s.length : Int)) := by omega
    simp only [hlt, decide_false, cond_false, runs, out]
  | cons m rest ih =>
    intro k i acc c h1 h2 h3 h4 h5
    obtain ⟨k, rfl⟩ : ∃ k', k = k' + 1 := ⟨k - 1, by omega⟩
    obtain ⟨hi, hx, hd⟩ := drop_cons h1
    have hm : R m.f1 := hw m (List.mem_of_getElem? hx)
    have hlt : ((i : Int) < (s.length : Int)) := by omega
    have hla : (acc ++ [c]).length = acc.length + 1 := by simp
    have h0 : ((acc ++ [c]).length : Int) > 0 := by omega
    have hj : IntKind.wrap .i64 (((acc ++ [c]).length : Int) - 1) = ((acc.length : Nat) : Int) := by rw [wrapI (by omega) (by omega)]; omega
    have hy : (acc ++ [c])[acc.length]? = some c := by simp
    have hn : IntKind.wrap .i64 ((i : Int) + 1) = ((i + 1 : Nat) : Int) := by rw [wrapI (by omega) (by omega)]; omega
    have hset : ∀ x, (acc ++ [c]).set acc.length x = acc ++ [x] := fun x => by simp
    simp only [List.length_cons] at h2
    rw [box_Fold.l2]
    simp only [hlt, decide_true, cond_true, idxN, hx, Option.bind_some, h0, hj, hy, condB, hn, F_box K p c.f1 m.f1 h5 hm, condN, Int.toNat_natCast, hset]
    rw [appN (by simp only [List.length_cons, List.length_nil]; omega)]
    simp only [Option.bind_some, runs]
    by_cases hc : c.f0 = m.f0
    · rw [if_pos hc, if_pos hc]
      by_cases he : (F p c.f1 m.f1).2 = 0
      · rw [if_pos he, if_pos he]
        exact ih k (i + 1) acc _ hd (by omega) (by omega) hi (F_R h5 hm)
      · rw [if_neg he, if_neg he, F_err hp he]
        rfl
    · rw [if_neg hc, if_neg hc]
      have := ih k (i + 1) (acc ++ [c]) m hd (by omega) (by simp; omega) hi hm
      rw [this]
      cases runs p m rest <;> simp [out]
/-- What the program's fold answers of a sorted list. -/
theorem bfold_f (K : Nat) {p : Int} {s : List S40} (hp : 1 ≤ p ∧ p ≤ 5) (hs : s.length ≤ 10000) (hK : 10001 ≤ K) (hw : ∀ x ∈ s, R x.f1) : box_Fold.l2 K p s K ([], 0) = some (ans p s) := by
  obtain ⟨K', rfl⟩ : ∃ K', K = K' + 1 := ⟨K - 1, by omega⟩
  cases s with
  | nil => simp [box_Fold.l2, ans]
  | cons c s =>
    have := bfold (K' + 1) hp hs hw s K' 1 [] c rfl (by simp only [List.length_cons] at hs; omega) (by simp) (by simp) (hw c List.mem_cons_self)
    rw [box_Fold.l2]
    have hlt : ((0 : Int) < ((c :: s).length : Int)) := by simp only [List.length_cons]; omega
    have e0 : idxO (c :: s) 0 = some c := by simp [idxO]
    simp only [hlt, decide_true, cond_true, e0, Option.bind_some]
    rw [appN (by simp)]
    simp only [Option.bind_some, List.length_nil, List.nil_append] at this ⊢
    have h1 : IntKind.wrap .i64 1 = 1 := wrapI (by omega) (by omega)
    simpa [ans, h1] using this
theorem box_fold {K : Nat} {p : Int} {l : List S40} (hK : 10001 ≤ K) (hl : l.length < 10000) (hw : ∀ x ∈ l, R x.f1) :
    ∃ s, haywainref05_Sort.f K l = some s ∧ box_Sort.f K l = some s ∧ s.Perm l ∧ Srt s ∧ box_Fold.f K p l = some (if 1 ≤ p ∧ p ≤ 5 then ans p s else ([], 1)) := by
  obtain ⟨s, e1, e2, q, t⟩ := sorts hK l hl
  have hx := q.length_eq
  refine ⟨s, e2, e1, q, t, ?_⟩
  unfold box_Fold.f
  rw [F_box K p 0 0 (by decide) (by decide), e1]
  simp only [Option.bind_some, condN]
  by_cases hp : 1 ≤ p ∧ p ≤ 5
  · have : (F p 0 0).2 = 0 := by
      unfold F
      rw [if_neg (by omega), if_neg (by rintro ⟨_, h⟩; exact h (by decide))]
    rw [if_pos this, if_pos hp, bfold_f K hp (by omega) hK (fun x hx => hw x (q.subset hx))]
  · have : (F p 0 0) = (0, 1) := by
      unfold F
      rw [if_pos (by omega)]
    rw [this, if_neg (by decide), if_neg hp]
end Go.Proofs.Ytdbeannfjjbegaa.Pure
