/- What the functions of layer 5 answer, in plain Lean. -/
import Derived.Test.YtdbeannfjjbegaaG1
set_option linter.unusedVariables false
set_option linter.unusedSimpArgs false
namespace Go.Proofs.Ytdbeannfjjbegaa.Pure
open Go Go.RowKit Go.Hw Go.Proofs.Ytdbeannfjjbegaa.G
theorem wrapI {x : Int} (h1 : -9223372036854775808 ≤ x) (h2 : x ≤ 9223372036854775807) : IntKind.wrap .i64 x = x := by
  simp only [IntKind.wrap, IntKind.signed, IntKind.bits]
  simp
  omega
theorem idxN {α : Type} {xs : List α} {i : Nat} : idxO xs (i : Int) = xs[i]? := by simp [idxO]
theorem appN {α : Type} {b : Nat} {xs ys : List α} (h : (xs.length + ys.length) * b ≤ 140737488355328) : appO b xs ys = some (xs ++ ys) := by simp only [appO, h, if_true]
theorem condB {α : Type} {x y : Int} {a b : α} : cond (x == y) a b = if x = y then a else b := by
  rw [Bool.cond_eq_ite]; simp
theorem condN {α : Type} {x y : Int} {a b : α} : cond (x != y) a b = if x = y then b else a := by
  rw [Bool.cond_eq_ite]; by_cases h : x = y <;> simp [h]
def le (a b : S40) : Prop := a.f0 < b.f0 ∨ (a.f0 = b.f0 ∧ a.f1 ≤ b.f1)
instance (a b : S40) : Decidable (le a b) := by unfold le; infer_instance
theorem le_trans' {a b c : S40} (h : le a b) (k : le b c) : le a c := by unfold le at *; omega
theorem le_total' (a b : S40) : le a b ∨ le b a := by unfold le; omega
theorem le_anti {a b : S40} (h : le a b) (k : le b a) : a = b := by
  cases a; cases b
  unfold le at *
  simp only at h k
  simp only [S40.mk.injEq]
  omega
theorem le_refl' (a : S40) : le a a := .inr ⟨rfl, Int.le_refl _⟩
theorem ahead_f (K : Nat) (a b : S40) : box_ahead.f K a b = some (decide (¬ le b a)) := by
  unfold box_ahead.f le
  simp only [condB]
  by_cases h1 : a.f0 < b.f0
  · have : ¬ (b.f0 < a.f0 ∨ b.f0 = a.f0 ∧ b.f1 ≤ a.f1) := by omega
    simp [h1, this]
  · by_cases h2 : a.f0 = b.f0
    · by_cases h3 : a.f1 < b.f1
      · have : ¬ (b.f0 < a.f0 ∨ b.f0 = a.f0 ∧ b.f1 ≤ a.f1) := by omega
        simp [h1, h2, h3, this]
      · have : (b.f0 < a.f0 ∨ b.f0 = a.f0 ∧ b.f1 ≤ a.f1) := by omega
        simp [h1, h2, h3, this]
    · have : (b.f0 < a.f0 ∨ b.f0 = a.f0 ∧ b.f1 ≤ a.f1) := by omega
      simp [h1, h2, this]
abbrev Srt (l : List S40) : Prop := l.Pairwise le
theorem srt_eq : ∀ {l m : List S40}, l.Perm m → Srt l → Srt m → l = m
  | [], m, h, _, _ => (List.nil_perm.1 h).symm
  | a :: l, m, h, h1, h2 => by
    cases m with
    | nil => exact absurd h.symm (by simp)
    | cons b m =>
      have hab : a = b := by
        have ha : a ∈ b :: m := h.subset List.mem_cons_self
        have hb : b ∈ a :: l := h.symm.subset List.mem_cons_self
        rcases List.mem_cons.1 ha with e | ha
        · exact e
        · rcases List.mem_cons.1 hb with e | hb
          · exact e.symm
          · exact le_anti ((List.pairwise_cons.1 h1).1 b hb) ((List.pairwise_cons.1 h2).1 a ha)
      subst hab
      rw [srt_eq ((List.perm_cons a).1 h) (List.pairwise_cons.1 h1).2 (List.pairwise_cons.1 h2).2]
theorem cut1 {α : Type} {x : α} {xs : List α} : cutO (x :: xs) 1 ((x :: xs).length : Int) = some xs := by
  unfold cutO
  rw [if_pos (by simp only [List.length_cons]; omega)]
  simp [cutL]
theorem cutL1 {α : Type} {x : α} {xs : List α} : cutL (x :: xs) ((1 : Int).toNat) ((((x :: xs).length : Int)).toNat) = xs := by
  simp [cutL]
theorem merge_f (K : Nat) : ∀ (k : Nat) (a b out : List S40), a.length + b.length < k → out.length + a.length + b.length ≤ 100000 → Srt a → Srt b → ∃ m, api_Msg_ahead.l2 K k (a, b, out) = some (out ++ m) ∧ m.Perm (a ++ b) ∧ Srt m := by
  intro k
  induction k with
  | zero => intro a b out h; omega
  | succ k ih =>
    intro a b out h1 h2 ha hb
    rw [api_Msg_ahead.l2]
    cases a with
    | nil =>
      refine ⟨b, ?_, by simp, hb⟩
      have h0 : ¬ ((([] : List S40).length : Int) > 0) := by simp
      simp only [h0, decide_false, cond_false]
      simp only [List.length_nil] at h2
      rw [appN (by simp only [List.length_nil]; omega), Option.bind_some, appN (by simp only [List.append_nil]; omega)]
      simp
    | cons x a =>
      cases b with
      | nil =>
        refine ⟨x :: a, ?_, by simp, ha⟩
        have h0 : ¬ ((([] : List S40).length : Int) > 0) := by simp
        have h3 : (((x :: a).length : Int) > 0) := by simp only [List.length_cons]; omega
        simp only [h0, h3, decide_false, cond_false, decide_true, cond_true]
        simp only [List.length_nil] at h2
        rw [appN (by omega), Option.bind_some, appN (by simp only [List.length_append, List.length_nil]; omega)]
        simp
      | cons y b =>
        have h3 : (((x :: a).length : Int) > 0) := by simp only [List.length_cons]; omega
        have h4 : (((y :: b).length : Int) > 0) := by simp only [List.length_cons]; omega
        have e1 : idxO (y :: b) 0 = some y := by simp [idxO]
        have e2 : idxO (x :: a) 0 = some x := by simp [idxO]
        simp only [List.length_cons] at h1 h2
        simp only [h3, h4, decide_true, cond_true, e1, e2, Option.bind_some, ahead_f, cut1, cutL1]
        obtain ⟨ha1, ha2⟩ := List.pairwise_cons.1 ha
        obtain ⟨hb1, hb2⟩ := List.pairwise_cons.1 hb
        by_cases hxy : le x y
        · simp only [hxy, not_true_eq_false, decide_false, cond_false]
          rw [appN (by simp only [List.length_cons, List.length_nil]; omega)]
          simp only [Option.bind_some]
          obtain ⟨m, e, hp, hs⟩ := ih a (y :: b) (out ++ [x]) (by simp only [List.length_cons]; omega) (by simp only [List.length_append, List.length_cons, List.length_nil]; omega) ha2 hb
          refine ⟨x :: m, by rw [e]; simp, by simpa using hp.cons x, List.pairwise_cons.2 ⟨fun z hz => ?_, hs⟩⟩
          rcases List.mem_append.1 (hp.subset hz) with hz | hz
          · exact ha1 z hz
          · rcases List.mem_cons.1 hz with rfl | hz
            · exact hxy
            · exact le_trans' hxy (hb1 z hz)
        · have hyx : le y x := (le_total' x y).resolve_left hxy
          simp only [hxy, not_false_eq_true, decide_true, cond_true]
          rw [appN (by simp only [List.length_cons, List.length_nil]; omega)]
          simp only [Option.bind_some]
          obtain ⟨m, e, hp, hs⟩ := ih (x :: a) b (out ++ [y]) (by simp only [List.length_cons]; omega) (by simp only [List.length_append, List.length_cons, List.length_nil]; omega) ha hb2
          refine ⟨y :: m, by rw [e]; simp, (hp.cons y).trans List.perm_middle.symm, List.pairwise_cons.2 ⟨fun z hz => ?_, hs⟩⟩
          rcases List.mem_append.1 (hp.subset hz) with hz | hz
          · rcases List.mem_cons.1 hz with rfl | hz
            · exact hyx
            · exact le_trans' hyx (ha1 z hz)
          · exact hb1 z hz
theorem sortr_f {K : Nat} (hK : 10000 ≤ K) : ∀ (k : Nat) (l : List S40), l.length < k → l.length < 10000 → ∃ m, api_Msg_ahead.r K k l = some m ∧ m.Perm l ∧ Srt m := by
  intro k
  induction k with
  | zero => intro l h; omega
  | succ k ih =>
    intro l h1 h2
    rw [api_Msg_ahead.r]
    by_cases hl : (l.length : Int) < 2
    · refine ⟨l, ?_, List.Perm.refl _, ?_⟩
      · simp only [hl, decide_true, cond_true]
        rw [appN (by simp only [List.length_nil]; omega)]
        simp
      · match l, hl with
        | [], _ => simp
        | [x], _ => simp
        | x :: y :: r, hl => simp at hl; omega
    · have hd : (l.length : Int).tdiv 2 = ((l.length / 2 : Nat) : Int) := by
        rw [Int.tdiv_eq_ediv_of_nonneg (by omega)]; omega
      have hm : l.length / 2 ≤ l.length := Nat.div_le_self _ _
      have hm2 : l.length / 2 < l.length := by omega
      have h0 : 0 < l.length / 2 := by omega
      generalize l.length / 2 = h at hd hm hm2 h0
      have e1 : divO .i64 (l.length : Int) 2 = some (((h : Nat) : Int)) := by
        unfold divO
        rw [if_neg (by decide), hd, wrapI (by omega) (by omega)]
      have e2 : cutO l 0 ((h : Nat) : Int) = some (l.take (h)) := by
        unfold cutO
        rw [if_pos (by omega)]
        simp [cutL]
      have e3 : cutO l ((h : Nat) : Int) (l.length : Int) = some (l.drop (h)) := by
        unfold cutO
        rw [if_pos (by omega)]
        simp [cutL]
      have e4 : cutL l ((0 : Int).toNat) ((((h : Nat) : Int)).toNat) = l.take (h) := by simp [cutL]
      have e5 : cutL l ((((h : Nat) : Int)).toNat) (((l.length : Int)).toNat) = l.drop (h) := by simp [cutL]
      have e6 : makO 16 (l.length : Int) = some () := by
        unfold makO
        rw [if_pos (by omega)]
      obtain ⟨a, ea, pa, sa⟩ := ih (l.take (h)) (by rw [List.length_take]; omega) (by rw [List.length_take]; omega)
      obtain ⟨b, eb, pb, sb⟩ := ih (l.drop (h)) (by rw [List.length_drop]; omega) (by rw [List.length_drop]; omega)
      have la := pa.length_eq
      have lb := pb.length_eq
      rw [List.length_take] at la
      rw [List.length_drop] at lb
      obtain ⟨m, em, pm, sm⟩ := merge_f K K a b [] (by omega) (by simp only [List.length_nil]; omega) sa sb
      refine ⟨m, ?_, pm.trans ((pa.append pb).trans (by rw [List.take_append_drop])), sm⟩
      simp only [hl, decide_false, cond_false, e1, Option.bind_some, hd]
      rw [wrapI (by omega) (by omega), e2, e3, e4, e5]
      simp only [Option.bind_some, ea, eb, e6]
      simpa using em
theorem sort_f {K : Nat} (hK : 10000 ≤ K) (l : List S40) (hl : l.length < 10000) : ∃ m, box_Sort.f K l = some m ∧ m.Perm l ∧ Srt m := by
  obtain ⟨m, e, h⟩ := sortr_f hK K l (by omega) hl
  exact ⟨m, by unfold box_Sort.f api_Msg_ahead.f; rw [e]; rfl, h⟩
theorem rsort_in (K : Nat) : ∀ (k : Nat) (p q : List S40) (x : S40), p.length < k → p.length ≤ 10000 → Srt (p ++ q) → (∀ z ∈ q, le x z) → ∃ r, haywainref05_Sort.l157 K k (p ++ x :: q, (p.length : Int)) = some r ∧ r.Perm (p ++ x :: q) ∧ Srt r := by
  intro k
  induction k with
  | zero => intro p q x h; omega
  | succ k ih =>
    intro p q x h1 h2 hs hx
    rw [haywainref05_Sort.l157]
    rcases List.eq_nil_or_concat p with rfl | ⟨p', a, rfl⟩
    · refine ⟨x :: q, by simp, List.Perm.refl _, List.pairwise_cons.2 ⟨hx, by simpa using hs⟩⟩
    · simp only [List.concat_eq_append, List.length_append, List.length_cons, List.length_nil, Nat.zero_add] at h1 h2 hs ⊢
      have hj : (((p'.length + 1 : Nat) : Int) > 0) := by omega
      have ei : IntKind.wrap .i64 (((p'.length + 1 : Nat) : Int) - 1) = ((p'.length : Nat) : Int) := by
        rw [wrapI (by omega) (by omega)]; omega
      have eo : p' ++ [a] ++ x :: q = p' ++ a :: x :: q := by simp
      have e1 : (p' ++ a :: x :: q)[p'.length]? = some a := by simp
      have e2 : (p' ++ a :: x :: q)[p'.length + 1]? = some x := by simp
      have e3 : (p' ++ a :: x :: q).set p'.length x = p' ++ x :: x :: q := by simp
      have e4 : (p' ++ x :: x :: q)[p'.length + 1]? = some x := by simp
      have e5 : (p' ++ x :: x :: q).set (p'.length + 1) a = p' ++ x :: a :: q := by simp
      rw [eo]
      simp only [hj, decide_true, cond_true, ei, idxN, e1, e2, Option.bind_some, Int.toNat_natCast, e3, e4, e5, condB]
      rw [List.append_assoc, List.singleton_append] at hs
      obtain ⟨s1, s2, s3⟩ := List.pairwise_append.1 hs
      obtain ⟨s4, s5⟩ := List.pairwise_cons.1 s2
      by_cases hax : le a x
      · refine ⟨p' ++ a :: x :: q, ?_, List.Perm.refl _, ?_⟩
        · unfold le at hax
          by_cases c1 : a.f0 < x.f0
          · simp [c1]
          · have c2 : a.f0 = x.f0 := by omega
            have c3 : a.f1 ≤ x.f1 := by omega
            simp [c1, c2, c3]
        · refine List.pairwise_append.2 ⟨s1, List.pairwise_cons.2 ⟨fun z hz => ?_, List.pairwise_cons.2 ⟨hx, s5⟩⟩, fun y hy z hz => ?_⟩
          · rcases List.mem_cons.1 hz with rfl | hz
            · exact hax
            · exact s4 z hz
          · rcases List.mem_cons.1 hz with rfl | hz
            · exact s3 y hy _ List.mem_cons_self
            · rcases List.mem_cons.1 hz with rfl | hz
              · exact le_trans' (s3 y hy a List.mem_cons_self) hax
              · exact s3 y hy z (List.mem_cons_of_mem _ hz)
      · have hxa : le x a := (le_total' a x).resolve_left hax
        obtain ⟨r, er, pr, sr⟩ := ih p' (a :: q) x (by omega) (by omega) hs (fun z hz => by
          rcases List.mem_cons.1 hz with rfl | hz
          · exact hxa
          · exact hx z hz)
        refine ⟨r, ?_, pr.trans ((List.Perm.swap a x q).append_left p'), sr⟩
        unfold le at hax
        by_cases c1 : a.f0 < x.f0
        · exact absurd (.inl c1) hax
        · by_cases c2 : a.f0 = x.f0
          · have c3 : ¬ a.f1 ≤ x.f1 := fun h => hax (.inr ⟨c2, h⟩)
            have c4 : ¬ x.f0 < x.f0 := by omega
            simp only [c1, c2, c3, c4, decide_false, cond_false, if_true]
            exact er
          · simp only [c1, c2, decide_false, cond_false, if_false]
            exact er
theorem rsort_loop {K : Nat} (hK : 10001 ≤ K) (l : List S40) (hl : l.length < 10000) : ∀ (k i : Nat) (acc : List S40), i ≤ l.length → l.length < k + i → acc.length = i → acc.Perm (l.take i) → Srt acc → ∃ r, haywainref05_Sort.l1 K l k (acc, i) = some r ∧ r.Perm l ∧ Srt r := by
  intro k
  induction k with
  | zero => intro i acc h1 h2; omega
  | succ k ih =>
    intro i acc h1 h2 h3 h4 h5
    rw [haywainref05_Sort.l1]
    by_cases hi : i < l.length
    · have hx : l[i]? = some l[i] := List.getElem?_eq_getElem hi
      have hlt : ((i : Int) < (l.length : Int)) := by omega
      simp only [hlt, decide_true, cond_true, idxN, hx, Option.bind_some]
      rw [appN (by simp only [List.length_cons, List.length_nil]; omega), wrapI (x := (i : Int) + 1) (by omega) (by omega)]
      obtain ⟨r, er, pr, sr⟩ := rsort_in K K acc [] l[i] (by omega) (by omega) (by simpa using h5) (by simp)
      have ej : IntKind.wrap .i64 (((acc ++ [l[i]]).length : Int) - 1) = (acc.length : Int) := by
        rw [wrapI (by simp only [List.length_append, List.length_cons, List.length_nil]; omega) (by simp only [List.length_append, List.length_cons, List.length_nil]; omega)]
        simp only [List.length_append, List.length_cons, List.length_nil]
        omega
      have e : ((i : Int) + 1) = ((i + 1 : Nat) : Int) := by omega
      simp only [Option.bind_some, ej, er]
      rw [e]
      refine ih (i + 1) r hi (by omega) ?_ ?_ sr
      · have := pr.length_eq
        simp only [List.length_append, List.length_cons, List.length_nil] at this
        omega
      · rw [List.take_add_one, hx]
        exact pr.trans (h4.append_right _)
    · have hlt : ¬ ((i : Int) < (l.length : Int)) := by omega
      refine ⟨acc, by simp [hlt], ?_, h5⟩
      rwa [List.take_of_length_le (by omega)] at h4
theorem rsort_f {K : Nat} (hK : 10001 ≤ K) (l : List S40) (hl : l.length < 10000) : ∃ r, haywainref05_Sort.f K l = some r ∧ r.Perm l ∧ Srt r :=
  rsort_loop hK l hl K 0 [] (Nat.zero_le _) (by omega) rfl (by simp) (by simp)
/-- What both sorts answer. -/
theorem sorts {K : Nat} (hK : 10001 ≤ K) (l : List S40) (hl : l.length < 10000) : ∃ r, box_Sort.f K l = some r ∧ haywainref05_Sort.f K l = some r ∧ r.Perm l ∧ Srt r := by
  obtain ⟨m, e1, p1, s1⟩ := sort_f (K := K) (by omega) l hl
  obtain ⟨r, e2, p2, s2⟩ := rsort_f hK l hl
  obtain rfl := srt_eq (p1.trans p2.symm) s1 s2
  exact ⟨m, e1, e2, p1, s1⟩
theorem knows_f : haywainlaw05_knows.f 10001 = some true := by kernel_rfl
theorem same_loop (K : Nat) (a : List S40) (hl : a.length ≤ 100000) : ∀ (k i : Nat), i ≤ a.length → a.length < k + i → haywainref04_SameMsgs.l2 K a a k i = some true := by
  intro k
  induction k with
  | zero => intro i h3 h4; omega
  | succ k ih =>
    intro i h3 h4
    rw [haywainref04_SameMsgs.l2]
    by_cases hi : i < a.length
    · have hx : a[i]? = some a[i] := List.getElem?_eq_getElem hi
      have hlt : ((i : Int) < (a.length : Int)) := by omega
      simp only [hlt, decide_true, cond_true, idxN, hx, Option.bind_some]
      rw [wrapI (x := (i : Int) + 1) (by omega) (by omega)]
      have e : ((i : Int) + 1) = ((i + 1 : Nat) : Int) := by omega
      rw [e, ih (i + 1) hi (by omega)]
      simp [Bool.cond_eq_ite]
    · have hlt : ¬ ((i : Int) < (a.length : Int)) := by omega
      simp [hlt]
theorem same_f {K : Nat} {a : List S40} (hl : a.length < K) (hl2 : a.length ≤ 100000) : haywainref04_SameMsgs.f K a a = some true := by
  rw [haywainref04_SameMsgs.f, show (0 : Int) = ((0 : Nat) : Int) from rfl, same_loop K a hl2 K 0 (Nat.zero_le _) (by omega)]
  simp
theorem own_f {K : Nat} {l : List S40} (hl : l.length ≤ 300) : haywainlaw05_own.f K l = some l := by
  rw [haywainlaw05_own.f, appN (by simp only [List.length_nil]; omega)]
  simp
theorem great_f {K : Nat} {l : List S40} : haywainlaw05_great.f K l = some (decide (300 < l.length)) := by
  rw [haywainlaw05_great.f]
  congr 1
  apply decide_eq_decide.2
  omega
theorem pfold_some (K : Nat) (p a b : Int) : ∃ v, prog_Fold.f K p a b = some v := by
  have hr : prog_rules.f K p = some 0 ∨ prog_rules.f K p = some 1 ∨ prog_rules.f K p = some 2 ∨ prog_rules.f K p = some 3 ∨ prog_rules.f K p = some 4 ∨ prog_rules.f K p = some 5 := by
    unfold prog_rules.f
    simp only [condB]
    split
    · exact .inl rfl
    split
    · exact .inr (.inl rfl)
    split
    · exact .inr (.inr (.inl rfl))
    split
    · exact .inr (.inr (.inr (.inl rfl)))
    split
    · exact .inr (.inr (.inr (.inr (.inl rfl))))
    · exact .inr (.inr (.inr (.inr (.inr rfl))))
  have ha : ∃ v, num_Add.f K a b = some v := by
    unfold num_Add.f
    simp only [Bool.cond_eq_ite]
    split
    · split <;> exact ⟨_, rfl⟩
    · exact ⟨_, rfl⟩
  obtain ⟨v, hv⟩ := ha
  unfold prog_Fold.f
  rcases hr with h | h | h | h | h | h <;> rw [h]
  · simp only [Option.bind_some, prog_less.f]
    cases decide (b < a) <;> exact ⟨_, rfl⟩
  · simp only [Option.bind_some, prog_less.f]
    cases decide (b < a) <;> exact ⟨_, rfl⟩
  · simp only [Option.bind_some, prog_less.f]
    cases decide (b < a) <;> exact ⟨_, rfl⟩
  · simp only [Option.bind_some, prog_rules_5_f38.f]
    cases decide (b > a) <;> exact ⟨_, rfl⟩
  · simp only [Option.bind_some, hv]
    cases v.2 <;> exact ⟨_, rfl⟩
  · exact ⟨_, rfl⟩
theorem fold_loop (K : Nat) (p : Int) (s : List S40) (hs : s.length ≤ 10000) : ∀ (k i : Nat) (acc : List S40), i ≤ s.length → s.length < k + i → acc.length ≤ i → ∃ r, box_Fold.l2 K p s k (acc, i) = some r ∧ r.1.length ≤ s.length := by
  intro k
  induction k with
  | zero => intro i acc h1 h2; omega
  | succ k ih =>
    intro i acc h1 h2 h3
    rw [box_Fold.l2]
    by_cases hi : i < s.length
    · have hx : s[i]? = some s[i] := List.getElem?_eq_getElem hi
      have hlt : ((i : Int) < (s.length : Int)) := by omega
      simp only [hlt, decide_true, cond_true, idxN, hx, Option.bind_some]
      rw [wrapI (x := (i : Int) + 1) (by omega) (by omega), appN (by simp only [List.length_cons, List.length_nil]; omega)]
      have e : ((i : Int) + 1) = ((i + 1 : Nat) : Int) := by omega
      rw [e]
      simp only [Option.bind_some]
      have key := ih (i + 1) (acc ++ [s[i]]) hi (by omega) (by simp only [List.length_append, List.length_cons, List.length_nil]; omega)
      by_cases ha : 0 < acc.length
      · have h0 : (acc.length : Int) > 0 := by omega
        have hj : IntKind.wrap .i64 ((acc.length : Int) - 1) = ((acc.length - 1 : Nat) : Int) := by rw [wrapI (by omega) (by omega)]; omega
        have hy : acc[acc.length - 1]? = some (acc[acc.length - 1]'(by omega)) := List.getElem?_eq_getElem (by omega)
        simp only [h0, decide_true, cond_true, hj, idxN, hy, Option.bind_some, condB]
        obtain ⟨v, hv⟩ := pfold_some K p (acc[acc.length - 1]'(by omega)).f1 s[i].f1
        rw [hv]
        simp only [Option.bind_some, condN]
        split
        · split
          · exact ih (i + 1) _ hi (by omega) (by rw [List.length_set]; omega)
          · exact ⟨_, rfl, by simp⟩
        · exact key
      · have h0 : ¬ (acc.length : Int) > 0 := by omega
        simp only [h0, decide_false, cond_false]
        exact key
    · have hlt : ¬ ((i : Int) < (s.length : Int)) := by omega
      exact ⟨(acc, 0), by simp [hlt], by simp only; omega⟩
theorem fold_some (p : Int) (l : List S40) (hl : l.length < 10000) : ∃ r, box_Fold.f 10001 p l = some r ∧ r.1.length ≤ l.length := by
  obtain ⟨x, e1, e2, q, s⟩ := sorts (K := 10001) (Nat.le_refl _) l hl
  have hx := q.length_eq
  obtain ⟨v, hv⟩ := pfold_some 10001 p 0 0
  unfold box_Fold.f
  rw [hv, e1]
  simp only [Option.bind_some, condN]
  split
  · obtain ⟨r, h1, h2⟩ := fold_loop 10001 p x (by omega) 10001 0 [] (Nat.zero_le _) (by omega) (by simp)
    exact ⟨r, h1, by omega⟩
  · exact ⟨_, rfl, by simp⟩
theorem fold_perm (p : Int) {l m : List S40} (h : l.Perm m) (hl : l.length < 10000) : box_Fold.f 10001 p l = box_Fold.f 10001 p m := by
  have hm := h.length_eq
  obtain ⟨x, e1, _, q, s⟩ := sorts (K := 10001) (Nat.le_refl _) l hl
  obtain ⟨y, f1, _, q', s'⟩ := sorts (K := 10001) (Nat.le_refl _) m (by omega)
  obtain rfl := srt_eq (q.trans (h.trans q'.symm)) s s'
  unfold box_Fold.f
  rw [e1, f1]
end Go.Proofs.Ytdbeannfjjbegaa.Pure
