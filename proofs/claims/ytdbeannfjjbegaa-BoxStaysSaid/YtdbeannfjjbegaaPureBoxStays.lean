/- What the law BoxStays asks of plain Lean. -/
import Derived.Test.YtdbeannfjjbegaaPureFold
import Derived.Test.YtdbeannfjjbegaaLBoxStays
set_option linter.unusedVariables false
set_option linter.unusedSimpArgs false
namespace Go.Proofs.Ytdbeannfjjbegaa.Pure
open Go Go.RowKit Go.Hw Go.Proofs.Ytdbeannfjjbegaa.G
abbrev SrtK (l : List S40) : Prop := l.Pairwise (fun a b => a.f0 ≤ b.f0)
theorem srtK {l : List S40} (h : Srt l) : SrtK l := h.imp (fun {a b} h => by unfold le at h; omega)
theorem runs_keys (p : Int) : ∀ (s : List S40) (c : S40) (r : List S40), SrtK (c :: s) → runs p c s = some r → r.Pairwise (fun a b => a.f0 < b.f0) ∧ ∀ v, (∃ x ∈ r, x.f0 = v) ↔ (∃ x ∈ c :: s, x.f0 = v)
  | [], c, r, hs, h => by simp [runs] at h; subst h; simp
  | m :: s, c, r, hs, h => by
    unfold runs at h
    obtain ⟨h1, h2⟩ := List.pairwise_cons.1 hs
    obtain ⟨h3, h4⟩ := List.pairwise_cons.1 h2
    split at h
    · rename_i hc
      split at h
      · obtain ⟨k1, k2⟩ := runs_keys p s ⟨c.f0, (F p c.f1 m.f1).1⟩ r (List.pairwise_cons.2 ⟨fun z hz => h1 z (List.mem_cons_of_mem _ hz), h4⟩) h
        refine ⟨k1, fun v => (k2 v).trans ?_⟩
        constructor
        · rintro ⟨x, hx, e⟩
          rcases List.mem_cons.1 hx with rfl | hx
          · exact ⟨c, List.mem_cons_self, e⟩
          · exact ⟨x, List.mem_cons_of_mem _ (List.mem_cons_of_mem _ hx), e⟩
        · rintro ⟨x, hx, e⟩
          rcases List.mem_cons.1 hx with rfl | hx
          · exact ⟨_, List.mem_cons_self, e⟩
          · rcases List.mem_cons.1 hx with rfl | hx
            · exact ⟨_, List.mem_cons_self, hc.trans e⟩
            · exact ⟨x, List.mem_cons_of_mem _ hx, e⟩
      · cases h
    · rename_i hc
      obtain ⟨q, hq, rfl⟩ := Option.map_eq_some_iff.1 h
      obtain ⟨k1, k2⟩ := runs_keys p s m q h2 hq
      have hcm := h1 m List.mem_cons_self
      refine ⟨List.pairwise_cons.2 ⟨fun z hz => ?_, k1⟩, fun v => ?_⟩
      · obtain ⟨x, hx, e⟩ := (k2 z.f0).1 ⟨z, hz, rfl⟩
        have : m.f0 ≤ x.f0 := by
          rcases List.mem_cons.1 hx with rfl | hx
          · omega
          · exact h3 x hx
        omega
      · constructor
        · rintro ⟨x, hx, e⟩
          rcases List.mem_cons.1 hx with rfl | hx
          · exact ⟨_, List.mem_cons_self, e⟩
          · obtain ⟨y, hy, e2⟩ := (k2 v).1 ⟨x, hx, e⟩
            exact ⟨y, List.mem_cons_of_mem _ hy, e2⟩
        · rintro ⟨x, hx, e⟩
          rcases List.mem_cons.1 hx with rfl | hx
          · exact ⟨_, List.mem_cons_self, e⟩
          · obtain ⟨y, hy, e2⟩ := (k2 v).2 ⟨x, hx, e⟩
            exact ⟨y, List.mem_cons_of_mem _ hy, e2⟩
theorem runs_len (p : Int) : ∀ (s : List S40) (c : S40) (r : List S40), runs p c s = some r → r.length ≤ s.length + 1
  | [], c, r, h => by simp [runs] at h; subst h; simp
  | m :: s, c, r, h => by
    unfold runs at h
    split at h
    · split at h
      · have := runs_len p s _ r h
        simp only [List.length_cons]; omega
      · cases h
    · obtain ⟨q, hq, rfl⟩ := Option.map_eq_some_iff.1 h
      have := runs_len p s _ q hq
      simp only [List.length_cons]; omega
theorem at_loop' (K : Nat) (l : List S40) (v : Int) (hl : l.length ≤ 300) : ∀ (k i : Nat), i ≤ l.length → l.length < k + i → (∃ x ∈ l.drop i, x.f0 = v) → ∃ n, haywainref05_At.l1 K l v k i = some (n, true) := by
  intro k
  induction k with
  | zero => intro i h1 h2; omega
  | succ k ih =>
    rintro i h1 h2 ⟨x, hx, e⟩
    rw [haywainref05_At.l1]
    by_cases hi : i < l.length
    · have hx' : l[i]? = some l[i] := List.getElem?_eq_getElem hi
      have hlt : ((i : Int) < (l.length : Int)) := by omega
      simp only [hlt, decide_true, cond_true, idxN, hx', Option.bind_some, condB]
      rw [wrapI (x := (i : Int) + 1) (by omega) (by omega)]
      have e' : ((i : Int) + 1) = ((i + 1 : Nat) : Int) := by omega
      rw [e']
      by_cases h : l[i].f0 = v
      · exact ⟨l[i].f1, by simp [h]⟩
      · rw [List.drop_eq_getElem_cons hi] at hx
        rcases List.mem_cons.1 hx with rfl | hx
        · exact absurd e h
        · obtain ⟨n, hn⟩ := ih (i + 1) hi (by omega) ⟨x, hx, e⟩
          exact ⟨n, by simp only [h, if_false]; exact hn⟩
    · rw [List.drop_eq_nil_of_le (by omega)] at hx
      simp at hx
theorem at_f {l : List S40} {v : Int} (hl : l.length ≤ 300) (h : ∃ x ∈ l, x.f0 = v) : ∃ n, haywainref05_At.f 10001 l v = some (n, true) :=
  at_loop' 10001 l v hl 10001 0 (Nat.zero_le _) (by omega) h
theorem l49_f (K : Nat) {s : List S40} (hl : s.length ≤ 300) (hs : Srt s) : ∀ (k i : Nat), 1 ≤ i → i ≤ s.length + 1 → 302 < k + i → haywainlaw05_BoxStays.l49 K s k (i : Int) = some (.inl ()) := by
  intro k
  induction k with
  | zero =>
    intro i h1 h0 h2
    omega
  | succ k ih =>
    intro i h1 h0 h2
    rw [haywainlaw05_BoxStays.l49]
    by_cases hi : i < s.length
    · have hx : s[i]? = some s[i] := List.getElem?_eq_getElem hi
      have hy : s[i - 1]? = some (s[i - 1]'(by omega)) := List.getElem?_eq_getElem (by omega)
      have hlt : ((i : Int) < (s.length : Int)) := by omega
      have hp : IntKind.wrap .i64 ((i : Int) - 1) = ((i - 1 : Nat) : Int) := by rw [wrapI (by omega) (by omega)]; omega
      have hn : IntKind.wrap .i64 ((i : Int) + 1) = ((i + 1 : Nat) : Int) := by rw [wrapI (by omega) (by omega)]; omega
      have hle : le (s[i - 1]'(by omega)) s[i] := List.pairwise_iff_getElem.1 hs (i - 1) i (by omega) hi (by omega)
      have hk := ih (i + 1) (by omega) (by omega) (by omega)
      unfold le at hle
      have c1 : ¬ s[i].f0 < (s[i - 1]'(by omega)).f0 := by omega
      simp only [hlt, decide_true, cond_true, idxN, hx, Option.bind_some, hp, hy, c1, decide_false, cond_false, condB, hn, hk]
      split
      · rename_i he
        have c2 : ¬ s[i].f1 < (s[i - 1]'(by omega)).f1 := by omega
        simp only [c2, decide_false, cond_false]
      · rfl
    · have hlt : ¬ ((i : Int) < (s.length : Int)) := by omega
      simp only [hlt, decide_false, cond_false]
theorem l38_f (K : Nat) {l : List S40} {f : List S40 × Int} (hl : l.length ≤ 300) (hf : f.1.length ≤ 300) (hr : f.1.Pairwise (fun a b => a.f0 < b.f0)) (hk : ∀ x ∈ f.1, ∃ y ∈ l, y.f0 = x.f0) : ∀ (k i : Nat), 302 < k + i → haywainlaw05_BoxStays.l38 10001 l f k (i : Int) = some (.inl ()) ∨ 300 < i := by
  intro k
  induction k with
  | zero => intro i h; exact .inr (by omega)
  | succ k ih =>
    intro i h2
    by_cases hgt : 300 < i
    · exact .inr hgt
    refine .inl ?_
    rw [haywainlaw05_BoxStays.l38]
    by_cases hi : i < f.1.length
    · have hx : f.1[i]? = some f.1[i] := List.getElem?_eq_getElem hi
      have hlt : ((i : Int) < (f.1.length : Int)) := by omega
      have hp : 0 < i → IntKind.wrap .i64 ((i : Int) - 1) = ((i - 1 : Nat) : Int) := fun h0 => by rw [wrapI (by omega) (by omega)]; omega
      have hn : IntKind.wrap .i64 ((i : Int) + 1) = ((i + 1 : Nat) : Int) := by rw [wrapI (by omega) (by omega)]; omega
      obtain ⟨n, ha⟩ := at_f (v := f.1[i].f0) hl (hk _ (List.getElem_mem hi))
      have hk' : haywainlaw05_BoxStays.l38 10001 l f k ((i + 1 : Nat) : Int) = some (.inl ()) := by
        rcases ih (i + 1) (by omega) with h | h
        · exact h
        · omega
      simp only [hlt, decide_true, cond_true, idxN, hx, Option.bind_some, ha, Bool.not_true, cond_false, hn, hk']
      by_cases h0 : 0 < i
      · have c0 : (i : Int) > 0 := by omega
        have hy : f.1[i - 1]? = some (f.1[i - 1]'(by omega)) := List.getElem?_eq_getElem (by omega)
        have hle := List.pairwise_iff_getElem.1 hr (i - 1) i (by omega) hi (by omega)
        have c1 : ¬ f.1[i].f0 ≤ (f.1[i - 1]'(by omega)).f0 := by omega
        simp only [c0, decide_true, cond_true, hp h0, idxN, hy, Option.bind_some, c1, decide_false, cond_false]
      · have c0 : ¬ (i : Int) > 0 := by omega
        simp only [c0, decide_false, cond_false]
    · have hlt : ¬ ((i : Int) < (f.1.length : Int)) := by omega
      simp only [hlt, decide_false, cond_false]
theorem l31_f {l : List S40} {f : List S40 × Int} (hl : l.length ≤ 300) (hf : f.1.length ≤ 300) (hk : ∀ x ∈ l, ∃ y ∈ f.1, y.f0 = x.f0) : ∀ (k i : Nat), 302 < k + i → haywainlaw05_BoxStays.l31 10001 l f k (i : Int) = some true ∨ 300 < i := by
  intro k
  induction k with
  | zero => intro i h; exact .inr (by omega)
  | succ k ih =>
    intro i h2
    by_cases hgt : 300 < i
    · exact .inr hgt
    refine .inl ?_
    rw [haywainlaw05_BoxStays.l31]
    by_cases hi : i < l.length
    · have hx : l[i]? = some l[i] := List.getElem?_eq_getElem hi
      have hlt : ((i : Int) < (l.length : Int)) := by omega
      have hn : IntKind.wrap .i64 ((i : Int) + 1) = ((i + 1 : Nat) : Int) := by rw [wrapI (by omega) (by omega)]; omega
      obtain ⟨n, ha⟩ := at_f (v := l[i].f0) hf (hk _ (List.getElem_mem hi))
      have hk' : haywainlaw05_BoxStays.l31 10001 l f k ((i + 1 : Nat) : Int) = some true := by
        rcases ih (i + 1) (by omega) with h | h
        · exact h
        · omega
      simp only [hlt, decide_true, cond_true, idxN, hx, Option.bind_some, ha, Bool.not_true, cond_false, hn, hk']
    · have hlt : ¬ ((i : Int) < (l.length : Int)) := by omega
      simp only [hlt, decide_false, cond_false, knows_f, Option.bind_some]
theorem BoxStays : haywainlaw05_BoxStays.Pure := by
  intro p l _ hl
  refine ⟨10001, ?_⟩
  rw [haywainlaw05_BoxStays.f, great_f, knows_f]
  simp only [Option.bind_some]
  by_cases h : 300 < l.length
  · simp [h]
  have hw : ∀ x ∈ l, R x.f1 := fun x hx => wf_range (hl.2 x hx).2
  obtain ⟨s, e1, e2, q, t, e3⟩ := box_fold (K := 10001) (p := p) (Nat.le_refl _) (by omega) hw
  have hs := q.length_eq
  simp only [h, decide_false, cond_false]
  rw [own_f (by omega), Option.bind_some, e2]
  have hlen : (s.length : Int) = (l.length : Int) := by omega
  have e4 := l49_f 10001 (s := s) (by omega) t 10001 1 (Nat.le_refl _) (by omega) (by omega)
  simp only [condN, if_pos hlen, Option.bind_some]
  rw [show (1 : Int) = ((1 : Nat) : Int) from rfl, e4]
  simp only [Option.bind_some, Sum.elim_inl, e3]
  by_cases hp : 1 ≤ p ∧ p ≤ 5
  · simp only [if_pos hp]
    cases s with
    | nil =>
      have hl0 : l = [] := List.eq_nil_of_length_eq_zero (by simpa using hs.symm)
      subst hl0
      have a1 : haywainlaw05_BoxStays.l38 10001 [] (([] : List S40), (0 : Int)) 10001 0 = some (.inl ()) := by
        rcases l38_f 10001 (l := []) (f := (([] : List S40), (0 : Int))) (by simp) (by simp) (by simp) (by simp) 10001 0 (by omega) with h | h
        · exact h
        · omega
      have a2 : haywainlaw05_BoxStays.l31 10001 [] (([] : List S40), (0 : Int)) 10001 0 = some true := by
        rcases l31_f (l := []) (f := (([] : List S40), (0 : Int))) (by simp) (by simp) (by simp) 10001 0 (by omega) with h | h
        · exact h
        · omega
      simp only [ans, if_true, a1, Option.bind_some, Sum.elim_inl, a2]
    | cons c s =>
      cases hr : runs p c s with
      | none =>
        have ha : ans p (c :: s) = ([], 8) := by simp only [ans, hr, out]
        simp [ha]
      | some r =>
        have ha : ans p (c :: s) = (r, 0) := by simp only [ans, hr, out, List.nil_append]
        rw [ha]
        obtain ⟨k1, k2⟩ := runs_keys p s c r (srtK t) hr
        have hrl := runs_len p s c r hr
        simp only [List.length_cons] at hs hrl
        have hkl : ∀ x ∈ r, ∃ y ∈ l, y.f0 = x.f0 := fun x hx => by
          obtain ⟨y, hy, e⟩ := (k2 x.f0).1 ⟨x, hx, rfl⟩
          exact ⟨y, q.subset hy, e⟩
        have hkr : ∀ x ∈ l, ∃ y ∈ r, y.f0 = x.f0 := fun x hx => (k2 x.f0).2 ⟨x, q.symm.subset hx, rfl⟩
        have a1 : haywainlaw05_BoxStays.l38 10001 l (r, (0 : Int)) 10001 0 = some (.inl ()) := by
          rcases l38_f 10001 (l := l) (f := (r, (0 : Int))) (by omega) (by simp only; omega) k1 hkl 10001 0 (by omega) with h | h
          · exact h
          · omega
        have a2 : haywainlaw05_BoxStays.l31 10001 l (r, (0 : Int)) 10001 0 = some true := by
          rcases l31_f (l := l) (f := (r, (0 : Int))) (by omega) (by simp only; omega) hkr 10001 0 (by omega) with h | h
          · exact h
          · omega
        simp only [if_true, a1, Option.bind_some, Sum.elim_inl, a2]
  · simp only [if_neg hp]
    simp
end Go.Proofs.Ytdbeannfjjbegaa.Pure
