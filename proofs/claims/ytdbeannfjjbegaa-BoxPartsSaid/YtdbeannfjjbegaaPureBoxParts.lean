/- What the law BoxParts asks of plain Lean. -/
import Derived.Test.YtdbeannfjjbegaaPureFold
import Derived.Test.YtdbeannfjjbegaaLBoxParts
set_option linter.unusedVariables false
set_option linter.unusedSimpArgs false
namespace Go.Proofs.Ytdbeannfjjbegaa.Pure
open Go Go.RowKit Go.Hw Go.Proofs.Ytdbeannfjjbegaa.G
theorem opU_comm (p a b : Int) : opU p a b = opU p b a := by
  unfold opU
  split
  · omega
  · split <;> (split <;> split <;> omega)
theorem opU_assoc (p a b c : Int) : opU p (opU p a b) c = opU p a (opU p b c) := by
  unfold opU
  by_cases h5 : p = 5
  · simp only [h5, if_true]; omega
  · by_cases h4 : p = 4
    · subst h4
      simp only [h5, if_false, if_true]
      by_cases c1 : a < b <;> by_cases c2 : b < c <;> by_cases c3 : a < c <;> simp only [c1, c2, c3, if_true, if_false] <;> omega
    · simp only [h5, h4, if_false]
      by_cases c1 : b < a <;> by_cases c2 : c < b <;> by_cases c3 : c < a <;> simp only [c1, c2, c3, if_true, if_false] <;> omega
def om (p : Int) : Option Int → Option Int → Option Int
  | none, b => b
  | some a, none => some a
  | some a, some b => some (opU p a b)
theorem om_none (p : Int) (a : Option Int) : om p a none = a := by cases a <;> rfl
theorem om_comm (p : Int) (a b : Option Int) : om p a b = om p b a := by
  cases a <;> cases b <;> simp [om, opU_comm]
theorem om_assoc (p : Int) (a b c : Option Int) : om p (om p a b) c = om p a (om p b c) := by
  cases a <;> cases b <;> cases c <;> simp [om, opU_assoc]
def look (p k : Int) : List S40 → Option Int
  | [] => none
  | x :: l => om p (if x.f0 = k then some x.f1 else none) (look p k l)
theorem look_append (p k : Int) : ∀ (a b : List S40), look p k (a ++ b) = om p (look p k a) (look p k b)
  | [], b => rfl
  | x :: a, b => by simp only [List.cons_append, look, look_append p k a b, om_assoc]
theorem look_perm (p k : Int) {a b : List S40} (h : a.Perm b) : look p k a = look p k b := by
  induction h with
  | nil => rfl
  | cons x _ ih => simp only [look, ih]
  | swap x y l => simp only [look, ← om_assoc]; rw [om_comm p (if y.f0 = k then some y.f1 else none)]
  | trans _ _ h1 h2 => exact h1.trans h2
def runsU (p : Int) : S40 → List S40 → List S40
  | c, [] => [c]
  | c, m :: s => if c.f0 = m.f0 then runsU p ⟨c.f0, opU p c.f1 m.f1⟩ s else c :: runsU p m s
def nU (p : Int) : List S40 → List S40
  | [] => []
  | c :: s => runsU p c s
theorem look_runsU (p k : Int) : ∀ (s : List S40) (c : S40), look p k (runsU p c s) = look p k (c :: s)
  | [], c => rfl
  | m :: s, c => by
    unfold runsU
    split
    · rename_i h
      rw [look_runsU p k s]
      simp only [look, ← om_assoc]
      congr 1
      by_cases hk : c.f0 = k
      · have : m.f0 = k := by omega
        simp [hk, this, om]
      · have : ¬ m.f0 = k := by omega
        simp [hk, this, om]
    · simp only [look, look_runsU p k s m]
theorem look_nU (p k : Int) (s : List S40) : look p k (nU p s) = look p k s := by
  cases s with
  | nil => rfl
  | cons c s => exact look_runsU p k s c
abbrev SrtK (l : List S40) : Prop := l.Pairwise (fun a b => a.f0 ≤ b.f0)
abbrev Rise (l : List S40) : Prop := l.Pairwise (fun a b => a.f0 < b.f0)
theorem srtK {l : List S40} (h : Srt l) : SrtK l := h.imp (fun {a b} h => by unfold le at h; omega)
theorem runsU_rise (p : Int) : ∀ (s : List S40) (c : S40), SrtK (c :: s) → Rise (runsU p c s) ∧ ∀ x ∈ runsU p c s, c.f0 ≤ x.f0
  | [], c, hs => by simp [runsU]
  | m :: s, c, hs => by
    unfold runsU
    obtain ⟨h1, h2⟩ := List.pairwise_cons.1 hs
    obtain ⟨h3, h4⟩ := List.pairwise_cons.1 h2
    split
    · exact runsU_rise p s ⟨c.f0, opU p c.f1 m.f1⟩ (List.pairwise_cons.2 ⟨fun z hz => h1 z (List.mem_cons_of_mem _ hz), h4⟩)
    · rename_i hc
      obtain ⟨k1, k2⟩ := runsU_rise p s m h2
      have hcm := h1 m List.mem_cons_self
      refine ⟨List.pairwise_cons.2 ⟨fun z hz => ?_, k1⟩, fun z hz => ?_⟩
      · have := k2 z hz; omega
      · rcases List.mem_cons.1 hz with rfl | hz
        · omega
        · have := k2 z hz; omega
theorem nU_rise (p : Int) {s : List S40} (h : SrtK s) : Rise (nU p s) := by
  cases s with
  | nil => exact List.Pairwise.nil
  | cons c s => exact (runsU_rise p s c h).1
theorem look_none (p k : Int) : ∀ {l : List S40}, (∀ x ∈ l, x.f0 ≠ k) → look p k l = none
  | [], _ => rfl
  | x :: l, h => by
    simp only [look, look_none p k (fun y hy => h y (List.mem_cons_of_mem _ hy))]
    rw [if_neg (h x List.mem_cons_self)]
    rfl
theorem look_cons_rise (p : Int) {x : S40} {l : List S40} (h : Rise (x :: l)) : look p x.f0 (x :: l) = some x.f1 := by
  simp only [look, if_true]
  rw [look_none p x.f0 (fun y hy => by have := (List.pairwise_cons.1 h).1 y hy; omega)]
  rfl
theorem look_mem (p : Int) : ∀ {l : List S40}, Rise l → ∀ x ∈ l, look p x.f0 l = some x.f1
  | y :: l, h, x, hx => by
    rcases List.mem_cons.1 hx with rfl | hx
    · exact look_cons_rise p h
    · obtain ⟨h1, h2⟩ := List.pairwise_cons.1 h
      have := h1 x hx
      simp only [look]
      rw [if_neg (by omega), look_mem p h2 x hx]
      rfl
theorem look_some (p k : Int) {l : List S40} (h : Rise l) {v : Int} (hv : look p k l = some v) : ∃ x ∈ l, x.f0 = k ∧ x.f1 = v := by
  by_cases hk : ∃ x ∈ l, x.f0 = k
  · obtain ⟨x, hx, rfl⟩ := hk
    rw [look_mem p h x hx] at hv
    exact ⟨x, hx, rfl, Option.some.inj hv⟩
  · rw [look_none p k (fun x hx e => hk ⟨x, hx, e⟩)] at hv
    cases hv
theorem rise_ext (p : Int) : ∀ {a b : List S40}, Rise a → Rise b → (∀ k, look p k a = look p k b) → a = b
  | [], [], _, _, _ => rfl
  | [], y :: b, _, hb, h => by
    have := h y.f0
    rw [look_cons_rise p hb] at this
    cases this
  | x :: a, [], ha, _, h => by
    have := h x.f0
    rw [look_cons_rise p ha] at this
    cases this
  | x :: a, y :: b, ha, hb, h => by
    obtain ⟨a1, a2⟩ := List.pairwise_cons.1 ha
    obtain ⟨b1, b2⟩ := List.pairwise_cons.1 hb
    have hx := h x.f0
    rw [look_cons_rise p ha] at hx
    have hy := h y.f0
    rw [look_cons_rise p hb] at hy
    obtain ⟨u, hu, e1, e2⟩ := look_some p _ hb hx.symm
    obtain ⟨v, hv, e3, e4⟩ := look_some p _ ha hy
    have e : x.f0 = y.f0 := by
      rcases List.mem_cons.1 hu with rfl | hu
      · exact e1.symm
      · rcases List.mem_cons.1 hv with rfl | hv
        · exact e3
        · have := a1 v hv; have := b1 u hu; omega
    have e' : x.f1 = y.f1 := by
      rw [e, look_cons_rise p hb] at hx
      have := Option.some.inj hx
      omega
    obtain rfl : x = y := by cases x; cases y; simp_all
    congr 1
    refine rise_ext p a2 b2 (fun k => ?_)
    have hk := h k
    simp only [look] at hk
    by_cases hc : x.f0 = k
    · subst hc
      rw [look_none p x.f0 (fun z hz => by have := a1 z hz; omega), look_none p x.f0 (fun z hz => by have := b1 z hz; omega)]
    · rw [if_neg hc] at hk
      simpa [om] using hk
/-- What a fold's values are, whatever their sums. -/
def Good (p v : Int) : Prop := (p = 5 → 0 ≤ v) ∧ -9223372036854775808 ≤ v ∧ (p ≠ 5 → v ≤ 9223372036854775807)
theorem Good.op {p a b : Int} (ha : Good p a) (hb : Good p b) : Good p (opU p a b) := by
  unfold Good opU at *
  by_cases h5 : p = 5
  · subst h5; simp only [if_true]; refine ⟨fun _ => ?_, ?_, fun h => absurd rfl h⟩ <;> (have := ha.1 rfl; have := hb.1 rfl; omega)
  · simp only [h5, if_false]
    refine ⟨fun h => absurd h (by simp), ?_, fun _ => ?_⟩
    · have := ha.2.1; have := hb.2.1
      split <;> split <;> assumption
    · have := ha.2.2 h5; have := hb.2.2 h5
      split <;> split <;> assumption
theorem Good.R {p v : Int} (h : Good p v) (hm : v ≤ 9223372036854775807) : R v := ⟨h.2.1, hm⟩
theorem runsU_good (p : Int) : ∀ (s : List S40) (c : S40), (∀ x ∈ c :: s, Good p x.f1) → ∀ x ∈ runsU p c s, Good p x.f1
  | [], c, h, x, hx => by simp [runsU] at hx; subst hx; exact h _ List.mem_cons_self
  | m :: s, c, h, x, hx => by
    have hc := h c List.mem_cons_self
    have hm := h m (List.mem_cons_of_mem _ List.mem_cons_self)
    have hs : ∀ x ∈ s, Good p x.f1 := fun x hx => h x (List.mem_cons_of_mem _ (List.mem_cons_of_mem _ hx))
    unfold runsU at hx
    split at hx
    · refine runsU_good p s ⟨c.f0, opU p c.f1 m.f1⟩ (fun y hy => ?_) x hx
      rcases List.mem_cons.1 hy with rfl | hy
      · exact hc.op hm
      · exact hs y hy
    · rcases List.mem_cons.1 hx with rfl | hx
      · exact hc
      · exact runsU_good p s m (fun y hy => h y (List.mem_cons_of_mem _ hy)) x hx
theorem nU_good (p : Int) {s : List S40} (h : ∀ x ∈ s, Good p x.f1) : ∀ x ∈ nU p s, Good p x.f1 := by
  cases s with
  | nil => simp [nU]
  | cons c s => exact runsU_good p s c h
abbrev OkV (l : List S40) : Prop := ∀ x ∈ l, x.f1 ≤ 9223372036854775807
theorem runsU_big : ∀ (s : List S40) (c : S40), (∀ x ∈ s, 0 ≤ x.f1) → ∃ x ∈ runsU 5 c s, c.f1 ≤ x.f1
  | [], c, h => ⟨c, by simp [runsU], Int.le_refl _⟩
  | m :: s, c, h => by
    unfold runsU
    have hm := h m List.mem_cons_self
    split
    · obtain ⟨x, hx, hl⟩ := runsU_big s ⟨c.f0, opU 5 c.f1 m.f1⟩ (fun y hy => h y (List.mem_cons_of_mem _ hy))
      refine ⟨x, hx, ?_⟩
      simp only [opU, if_true] at hl
      omega
    · exact ⟨c, List.mem_cons_self, Int.le_refl _⟩
theorem runs_eq {p : Int} (hp : 1 ≤ p ∧ p ≤ 5) : ∀ (s : List S40) (c : S40), (∀ x ∈ c :: s, Good p x.f1 ∧ x.f1 ≤ 9223372036854775807) → runs p c s = if OkV (runsU p c s) then some (runsU p c s) else none
  | [], c, h => by
    have := (h c List.mem_cons_self).2
    rw [if_pos]
    · rfl
    · intro x hx
      simp [runsU] at hx
      subst hx
      exact this
  | m :: s, c, h => by
    have hc := h c List.mem_cons_self
    have hm := h m (List.mem_cons_of_mem _ List.mem_cons_self)
    have hs : ∀ x ∈ s, Good p x.f1 ∧ x.f1 ≤ 9223372036854775807 := fun x hx => h x (List.mem_cons_of_mem _ (List.mem_cons_of_mem _ hx))
    unfold runs runsU
    by_cases he : c.f0 = m.f0
    · simp only [if_pos he]
      have hg := hc.1.op hm.1
      have hF : F p c.f1 m.f1 = if p = 5 ∧ ¬ R (c.f1 + m.f1) then (0, 8) else (opU p c.f1 m.f1, 0) := by
        unfold F
        rw [if_neg (by omega)]
      by_cases h5 : p = 5 ∧ ¬ R (c.f1 + m.f1)
      · rw [hF, if_pos h5]
        obtain ⟨rfl, h5⟩ := h5
        have hbig : 9223372036854775807 < c.f1 + m.f1 := by
          have := hc.1.1 rfl; have := hm.1.1 rfl
          unfold Pure.R at h5
          omega
        rw [if_neg (by decide), if_neg]
        intro hok
        obtain ⟨x, hx, hl⟩ := runsU_big s ⟨c.f0, opU 5 c.f1 m.f1⟩ (fun y hy => (hs y hy).1.1 rfl)
        have := hok x hx
        simp only [opU, if_true] at hl
        omega
      · rw [hF, if_neg h5, if_pos rfl]
        refine runs_eq hp s _ (fun x hx => ?_)
        rcases List.mem_cons.1 hx with rfl | hx
        · refine ⟨hg, ?_⟩
          by_cases h6 : p = 5
          · have : R (c.f1 + m.f1) := Classical.not_not.1 (fun hn => h5 ⟨h6, hn⟩)
            simp only [opU, h6, if_true]
            exact this.2
          · exact hg.2.2 h6
        · exact hs x hx
    · simp only [if_neg he]
      rw [runs_eq hp s m (fun x hx => h x (List.mem_cons_of_mem _ hx))]
      by_cases ho : OkV (runsU p m s)
      · rw [if_pos ho, if_pos]
        · rfl
        · intro x hx
          rcases List.mem_cons.1 hx with rfl | hx
          · exact hc.2
          · exact ho x hx
      · rw [if_neg ho, if_neg]
        · rfl
        · exact fun h2 => ho (fun x hx => h2 x (List.mem_cons_of_mem _ hx))
theorem ans_eq {p : Int} (hp : 1 ≤ p ∧ p ≤ 5) {s : List S40} (h : ∀ x ∈ s, Good p x.f1 ∧ x.f1 ≤ 9223372036854775807) : ans p s = if OkV (nU p s) then (nU p s, 0) else ([], 8) := by
  cases s with
  | nil => rw [if_pos (by intro x hx; simp [nU] at hx)]; rfl
  | cons c s =>
    by_cases ho : OkV (nU p (c :: s))
    · have hr : runs p c s = some (runsU p c s) := by rw [runs_eq hp s c h]; exact if_pos ho
      rw [if_pos ho]; simp [ans, hr, out, nU]
    · have hr : runs p c s = none := by rw [runs_eq hp s c h]; exact if_neg ho
      rw [if_neg ho]; simp [ans, hr, out]
theorem runsU_len (p : Int) : ∀ (s : List S40) (c : S40), (runsU p c s).length ≤ s.length + 1
  | [], c => by simp [runsU]
  | m :: s, c => by
    unfold runsU
    split
    · have := runsU_len p s ⟨c.f0, opU p c.f1 m.f1⟩
      simp only [List.length_cons]; omega
    · have := runsU_len p s m
      simp only [List.length_cons]; omega
theorem nU_len (p : Int) (s : List S40) : (nU p s).length ≤ s.length := by
  cases s with
  | nil => simp [nU]
  | cons c s => exact runsU_len p s c
/-- A part that is too great makes the whole too great. -/
theorem part_big {p : Int} {a b s t u : List S40} (ha : a.Perm s) (hb : b.Perm t) (hu : u.Perm (a ++ b)) (ss : SrtK s) (st : SrtK t) (su : SrtK u) (hg : ∀ x ∈ b, Good p x.f1) (h5 : p = 5) (hbad : ¬ OkV (nU p s)) : ¬ OkV (nU p u) := by
  intro hok
  apply hbad
  intro x hx
  refine Classical.byContradiction fun hn => ?_
  have l1 := look_mem p (nU_rise p ss) x hx
  rw [look_nU, ← look_perm p x.f0 ha] at l1
  have l2 : look p x.f0 (nU p u) = om p (some x.f1) (look p x.f0 b) := by
    rw [look_nU, look_perm p x.f0 hu, look_append, l1]
  cases hb2 : look p x.f0 b with
  | none =>
    rw [hb2] at l2
    obtain ⟨z, hz, _, e⟩ := look_some p _ (nU_rise p su) l2
    have := hok z hz
    omega
  | some v =>
    rw [hb2] at l2
    obtain ⟨z, hz, _, e⟩ := look_some p _ (nU_rise p su) l2
    have := hok z hz
    rw [look_perm p x.f0 hb, ← look_nU] at hb2
    obtain ⟨y, hy, _, e3⟩ := look_some p _ (nU_rise p st) hb2
    have := (nU_good p (fun x hx => hg x (hb.symm.subset hx)) y hy).1 h5
    simp only [om, opU, h5, if_true] at e
    omega
theorem part_all {p : Int} {a b s t u j : List S40} (ha : a.Perm s) (hb : b.Perm t) (hu : u.Perm (a ++ b)) (hj : j.Perm (nU p s ++ nU p t)) (su : SrtK u) (sj : SrtK j) : nU p j = nU p u := by
  refine rise_ext p (nU_rise p sj) (nU_rise p su) (fun k => ?_)
  rw [look_nU, look_nU, look_perm p k hj, look_perm p k hu, look_append, look_append, look_nU, look_nU, look_perm p k ha, look_perm p k hb]
theorem l20_f (K : Nat) (p : Int) (b a : List S40) (hl : (a ++ b).length ≤ 600) : ∀ (k i : Nat), i ≤ (a ++ b).length → (a ++ b).length < k + i → haywainlaw05_BoxParts.l20 10001 p b a k (i : Int) = some (.inr true) ∨ (haywainlaw05_BoxParts.l20 10001 p b a k (i : Int) = some (.inl ()) ∧ (p = 5 → ∀ x ∈ (a ++ b).drop i, 0 ≤ x.f1)) := by
  intro k
  induction k with
  | zero => intro i h1 h2; omega
  | succ k ih =>
    intro i h1 h2
    rw [haywainlaw05_BoxParts.l20]
    by_cases hi : i < (a ++ b).length
    · have hx : (a ++ b)[i]? = some (a ++ b)[i] := List.getElem?_eq_getElem hi
      have hlt : ((i : Int) < ((a ++ b).length : Int)) := by omega
      have hn : IntKind.wrap .i64 ((i : Int) + 1) = ((i + 1 : Nat) : Int) := by rw [wrapI (by omega) (by omega)]; omega
      have hk := ih (i + 1) hi (by omega)
      simp only [hlt, decide_true, cond_true, condB, hn, idxN, hx, Option.bind_some, knows_f]
      by_cases h5 : p = 5
      · rw [if_pos h5]
        by_cases hneg : (a ++ b)[i].f1 < 0
        · exact .inl (by simp only [hneg, decide_true, cond_true])
        · simp only [hneg, decide_false, cond_false]
          rcases hk with h | ⟨h, hg⟩
          · exact .inl h
          · refine .inr ⟨h, fun h5 x hx => ?_⟩
            rw [List.drop_eq_getElem_cons hi] at hx
            rcases List.mem_cons.1 hx with rfl | hx
            · omega
            · exact hg h5 x hx
      · rw [if_neg h5]
        rcases hk with h | ⟨h, hg⟩
        · exact .inl h
        · exact .inr ⟨h, fun h => absurd h h5⟩
    · have hlt : ¬ ((i : Int) < ((a ++ b).length : Int)) := by omega
      refine .inr ⟨by simp only [hlt, decide_false, cond_false], fun _ x hx => ?_⟩
      rw [List.drop_eq_nil_of_le (by omega)] at hx
      simp at hx
theorem join2 (K : Nat) {x y : List S40} (hx : x.length ≤ 300) (hy : y.length ≤ 300) : box_Join.f (K + 3) [x, y] = box_Sort.f (K + 3) (x ++ y) := by
  have w1 : IntKind.wrap .i64 1 = 1 := wrapI (by omega) (by omega)
  have w2 : IntKind.wrap .i64 2 = 2 := wrapI (by omega) (by omega)
  have e1 : idxO [x, y] 0 = some x := by simp [idxO]
  have e2 : idxO [x, y] 1 = some y := by simp [idxO]
  have a1 : appO 16 ([] : List S40) x = some x := by rw [appN (by simp only [List.length_nil]; omega)]; simp
  have a2 : appO 16 x y = some (x ++ y) := appN (by omega)
  unfold box_Join.f
  simp only [box_Join.l1, e1, e2, a1, a2, w1, w2, List.nil_append, Option.bind_some, List.length_cons, List.length_nil]
  simp [w1, w2, e1, e2, a1, a2]
theorem res_len (p : Int) (s : List S40) (hs : s.length ≤ 600) : (if OkV (nU p s) then (nU p s, (0 : Int)) else ([], 8)).1.length ≤ 600 := by
  have := nU_len p s
  split
  · simp only; omega
  · simp
theorem BoxParts : haywainlaw05_BoxParts.Pure := by
  intro p a b _ ha hb
  refine ⟨10001, ?_⟩
  rw [haywainlaw05_BoxParts.f, great_f, great_f, knows_f]
  simp only [Option.bind_some]
  by_cases h : 300 < a.length
  · simp [h]
  by_cases h' : 300 < b.length
  · simp [h, h']
  have hwa : ∀ x ∈ a, R x.f1 := fun x hx => wf_range (ha.2 x hx).2
  have hwb : ∀ x ∈ b, R x.f1 := fun x hx => wf_range (hb.2 x hx).2
  simp only [h, h', decide_false, cond_false]
  rw [own_f (by omega), own_f (by omega)]
  simp only [Option.bind_some]
  have hall : (a ++ b).length ≤ 600 := by rw [List.length_append]; omega
  rw [appN (by omega)]
  simp only [Option.bind_some]
  rcases l20_f 10001 p b a hall 10001 0 (Nat.zero_le _) (by omega) with e | ⟨e, hpos⟩
  · rw [show haywainlaw05_BoxParts.l20 10001 p b a 10001 0 = _ from e]
    rfl
  rw [show haywainlaw05_BoxParts.l20 10001 p b a 10001 0 = _ from e]
  have hwab : ∀ x ∈ a ++ b, R x.f1 := fun x hx => (List.mem_append.1 hx).elim (hwa x) (hwb x)
  obtain ⟨s, _, _, qs, ts, es⟩ := box_fold (K := 10001) (p := p) (Nat.le_refl _) (by omega) hwa
  obtain ⟨t, _, _, qt, tt, et⟩ := box_fold (K := 10001) (p := p) (Nat.le_refl _) (by omega) hwb
  obtain ⟨u, _, _, qu, tu, eu⟩ := box_fold (K := 10001) (p := p) (Nat.le_refl _) (by omega) hwab
  have ls := qs.length_eq
  have lt := qt.length_eq
  have lu := qu.length_eq
  simp only [Option.bind_some, Sum.elim_inl, es, et, eu]
  by_cases hp : 1 ≤ p ∧ p ≤ 5
  · simp only [if_pos hp]
    have hg : ∀ x ∈ a ++ b, Good p x.f1 ∧ x.f1 ≤ 9223372036854775807 := fun x hx => ⟨⟨fun h5 => hpos h5 x hx, (hwab x hx).1, fun _ => (hwab x hx).2⟩, (hwab x hx).2⟩
    have hga : ∀ x ∈ a, Good p x.f1 ∧ x.f1 ≤ 9223372036854775807 := fun x hx => hg x (List.mem_append_left _ hx)
    have hgb : ∀ x ∈ b, Good p x.f1 ∧ x.f1 ≤ 9223372036854775807 := fun x hx => hg x (List.mem_append_right _ hx)
    have ts' := srtK ts
    have tt' := srtK tt
    have tu' := srtK tu
    rw [ans_eq hp (fun x hx => hga x (qs.subset hx)), ans_eq hp (fun x hx => hgb x (qt.subset hx)), ans_eq hp (fun x hx => hg x (qu.subset hx))]
    by_cases os : OkV (nU p s)
    · by_cases ot : OkV (nU p t)
      · rw [if_pos os, if_pos ot]
        have n1 := nU_len p s
        have n2 := nU_len p t
        have hwj : ∀ x ∈ nU p s ++ nU p t, Good p x.f1 ∧ x.f1 ≤ 9223372036854775807 := fun x hx => by
          rcases List.mem_append.1 hx with hx | hx
          · exact ⟨nU_good p (fun y hy => (hga y (qs.subset hy)).1) x hx, os x hx⟩
          · exact ⟨nU_good p (fun y hy => (hgb y (qt.subset hy)).1) x hx, ot x hx⟩
        obtain ⟨j, _, ej, qj, tj, _⟩ := box_fold (K := 10001) (p := p) (l := nU p s ++ nU p t) (Nat.le_refl _) (by rw [List.length_append]; omega) (fun x hx => (hwj x hx).1.R (hwj x hx).2)
        have lj := qj.length_eq
        rw [List.length_append] at lj
        obtain ⟨j', _, _, qj', tj', ej'⟩ := box_fold (K := 10001) (p := p) (l := j) (Nat.le_refl _) (by omega) (fun x hx => (hwj x (qj.subset hx)).1.R (hwj x (qj.subset hx)).2)
        obtain rfl := srt_eq qj' tj' tj
        have hjoin : box_Join.f 10001 [nU p s, nU p t] = some j' := by
          rw [show (10001 : Nat) = 9998 + 3 from rfl, join2 9998 (by omega) (by omega)]
          exact ej
        have hN : nU p j' = nU p u := part_all qs.symm qt.symm qu qj tu' (srtK tj)
        have hfin : box_Fold.f 10001 p j' = some (if OkV (nU p u) then (nU p u, 0) else ([], 8)) := by
          rw [ej', if_pos hp, ans_eq hp (fun x hx => hwj x (qj.subset hx)), hN]
        have h600 := res_len p u (by omega)
        simp only [hjoin, hfin, Option.bind_some]
        rw [same_f (by omega) (by omega)]
        simp
      · have h5 : p = 5 := Classical.byContradiction fun h5 => ot (fun x hx => (nU_good p (fun y hy => (hgb y (qt.subset hy)).1) x hx).2.2 h5)
        have ou : ¬ OkV (nU p u) := part_big qt.symm qs.symm (qu.trans List.perm_append_comm) tt' ts' tu' (fun x hx => (hga x hx).1) h5 ot
        rw [if_pos os, if_neg ot, if_neg ou]
        rfl
    · have h5 : p = 5 := Classical.byContradiction fun h5 => os (fun x hx => (nU_good p (fun y hy => (hga y (qs.subset hy)).1) x hx).2.2 h5)
      have ou : ¬ OkV (nU p u) := part_big qs.symm qt.symm qu ts' tt' tu' (fun x hx => (hgb x hx).1) h5 os
      rw [if_neg os, if_neg ou]
      rfl
  · simp only [if_neg hp]
    rfl
end Go.Proofs.Ytdbeannfjjbegaa.Pure
