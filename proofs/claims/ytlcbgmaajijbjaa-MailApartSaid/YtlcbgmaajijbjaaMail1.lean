/- Mails, in plain Lean: which are right, and when two are the same. -/
import Derived.Test.YtlcbgmaajijbjaaMNum
set_option linter.unusedVariables false
set_option linter.unusedSimpArgs false
namespace Go.Proofs.Ytlcbgmaajijbjaa.Pure
open Go Go.RowKit Go.Hw Go.Proofs.Ytlcbgmaajijbjaa.G
theorem step1 {i : Nat} (h : i < 1000000000) : IntKind.wrap .i64 ((i : Int) + 1) = ((i + 1 : Nat) : Int) := by rw [wrapI (by omega) (by omega)]; omega
abbrev Nn (x : Int) : Prop := 0 ≤ x ∧ x ≤ 1099511627776
def Al (l : List Int) : Prop := ∀ x ∈ l, Nn x
instance (l : List Int) : Decidable (Al l) := by unfold Al; infer_instance
def Ml (l : List S77) : Prop := ∀ x ∈ l, Nn x.f0
instance (l : List S77) : Decidable (Ml l) := by unfold Ml; infer_instance
def RR (m : S29) : Prop := (1 ≤ m.f0 ∧ m.f0 ≤ 11) ∧ Al [m.f1, m.f2, m.f3, m.f4, m.f5, m.f6, m.f7, m.f11.f0, m.f11.f1] ∧ (Al m.f8 ∧ m.f8.length ≤ 6) ∧ (Al m.f9 ∧ m.f9.length ≤ 5) ∧ Al m.f10 ∧ m.f10.length = m.f9.length ∧ m.f11.f2.length ≤ 24 ∧ m.f11.f3.length = m.f11.f2.length ∧ (Ml m.f11.f4 ∧ m.f11.f4.length ≤ 24) ∧ (Ml m.f12 ∧ m.f12.length ≤ 24)
instance (m : S29) : Decidable (RR m) := by unfold RR; infer_instance
theorem al_cons {x : Int} {l : List Int} : Al (x :: l) ↔ Nn x ∧ Al l := by simp [Al]
theorem ml_cons {x : S77} {l : List S77} : Ml (x :: l) ↔ Nn x.f0 ∧ Ml l := by simp [Ml]
theorem fair_loop (K : Nat) (b : Int) (l : List Int) (hl : l.length ≤ 1000000) : ∀ (k i : Nat), i ≤ l.length → l.length < k + i → mail_fair.l1 K b l k (i : Int) = some (decide (Al (l.drop i)) && decide ((l.length : Int) ≤ b)) := by
  intro k
  induction k with
  | zero => intro i h1 h2; omega
  | succ k ih =>
    intro i h1 h2
    rw [mail_fair.l1]
    by_cases hi : i < l.length
    · have hx : l[i]? = some l[i] := List.getElem?_eq_getElem hi
      have hlt : ((i : Int) < (l.length : Int)) := by omega
      simp only [condD, if_pos hlt, idxN, hx, Option.bind_some, step1 (show i < 1000000000 by omega), ih (i + 1) hi (by omega)]
      rw [List.drop_eq_getElem_cons hi]
      by_cases a : l[i] < 0
      · have : ¬ Al (l[i] :: l.drop (i + 1)) := fun h => by have := (al_cons.1 h).1.1; omega
        rw [if_pos a, decide_eq_false this]; rfl
      · by_cases b : l[i] > 1099511627776
        · have : ¬ Al (l[i] :: l.drop (i + 1)) := fun h => by have := (al_cons.1 h).1.2; omega
          rw [if_neg a, if_pos b, decide_eq_false this]; rfl
        · rw [if_neg a, if_neg b]
          congr 2
          apply decide_eq_decide.2
          rw [al_cons]
          exact ⟨fun h => ⟨by omega, h⟩, fun h => h.2⟩
    · have hlt : ¬ ((i : Int) < (l.length : Int)) := by omega
      have : Al [] := by simp [Al]
      simp only [condD, if_neg hlt, List.drop_eq_nil_of_le (show l.length ≤ i by omega), decide_eq_true this, Bool.true_and]
theorem fair_f {K : Nat} (b : Int) {l : List Int} (hl : l.length ≤ 1000) (hK : 2000 ≤ K) : mail_fair.f K b l = some (decide (Al l) && decide ((l.length : Int) ≤ b)) := by
  have := fair_loop K b l (by omega) K 0 (by omega) (by omega)
  rw [List.drop_zero] at this
  exact this
theorem sent_loop {K : Nat} (hK : 2000 ≤ K) (l : List S77) (hl : l.length ≤ 1000000) : ∀ (k i : Nat), i ≤ l.length → l.length < k + i → mail_sent.l1 K l k (i : Int) = some (decide (Ml (l.drop i)) && decide ((l.length : Int) ≤ 24)) := by
  intro k
  induction k with
  | zero => intro i h1 h2; omega
  | succ k ih =>
    intro i h1 h2
    rw [mail_sent.l1]
    by_cases hi : i < l.length
    · have hx : l[i]? = some l[i] := List.getElem?_eq_getElem hi
      have hlt : ((i : Int) < (l.length : Int)) := by omega
      have hf := fair_f (K := K) 1 (l := [l[i].f0]) (by simp) hK
      simp only [condD, if_pos hlt, idxN, hx, Option.bind_some, step1 (show i < 1000000000 by omega), ih (i + 1) hi (by omega), hf]
      rw [List.drop_eq_getElem_cons hi]
      by_cases a : Nn l[i].f0
      · have e : Al [l[i].f0] := al_cons.2 ⟨a, by simp [Al]⟩
        rw [decide_eq_true e]
        have e2 : (decide ((([l[i].f0] : List Int).length : Int) ≤ 1)) = true := by simp
        rw [e2]
        simp only [Bool.true_and, Bool.not_true, cond_false]
        congr 2
        apply decide_eq_decide.2
        rw [ml_cons]
        exact ⟨fun h => ⟨a, h⟩, fun h => h.2⟩
      · have e : ¬ Al [l[i].f0] := fun h => a (al_cons.1 h).1
        have e2 : ¬ Ml (l[i] :: l.drop (i + 1)) := fun h => a (ml_cons.1 h).1
        rw [decide_eq_false e, decide_eq_false e2]; rfl
    · have hlt : ¬ ((i : Int) < (l.length : Int)) := by omega
      have : Ml [] := by simp [Ml]
      simp only [condD, if_neg hlt, List.drop_eq_nil_of_le (show l.length ≤ i by omega), decide_eq_true this, Bool.true_and]
theorem sent_f {K : Nat} {l : List S77} (hl : l.length ≤ 1000) (hK : 2000 ≤ K) : mail_sent.f K l = some (decide (Ml l) && decide ((l.length : Int) ≤ 24)) := by
  have := sent_loop hK l (by omega) K 0 (by omega) (by omega)
  rw [List.drop_zero] at this
  exact this
/-- A mail of which no list is long. -/
structure Few (m : S29) : Prop where
  a : m.f8.length ≤ 1000
  b : m.f9.length ≤ 1000
  c : m.f10.length ≤ 1000
  d : m.f11.f2.length ≤ 1000
  e : m.f11.f3.length ≤ 1000
  f : m.f11.f4.length ≤ 1000
  g : m.f12.length ≤ 1000
theorem natInt {a : Nat} {b : Nat} : ((a : Int) ≤ (b : Int)) ↔ a ≤ b := by omega
theorem right_f {K : Nat} {m : S29} (hm : Few m) (hK : 2000 ≤ K) : mail_Right.f K m = some (decide (RR m)) := by
  have no : ¬ RR m → decide (RR m) = false := fun h => decide_eq_false h
  have n9 : ([m.f1, m.f2, m.f3, m.f4, m.f5, m.f6, m.f7, m.f11.f0, m.f11.f1] : List Int).length ≤ 1000 := by simp
  rw [mail_Right.f, fair_f 9 n9 hK, fair_f 6 hm.a hK, fair_f 5 hm.b hK, fair_f _ hm.c hK, sent_f hm.f hK, sent_f hm.g hK]
  simp only [Option.bind_some, condD, condB]
  by_cases a1 : m.f0 ≥ 1
  · by_cases a2 : m.f0 ≤ 11
    · rw [if_pos a1, if_pos a2]
      by_cases a3 : Al [m.f1, m.f2, m.f3, m.f4, m.f5, m.f6, m.f7, m.f11.f0, m.f11.f1]
      · have l9 : ((([m.f1, m.f2, m.f3, m.f4, m.f5, m.f6, m.f7, m.f11.f0, m.f11.f1] : List Int).length : Int) ≤ 9) := by simp
        rw [decide_eq_true a3, decide_eq_true l9]
        simp only [Bool.and_self, cond_true]
        by_cases a4 : Al m.f8 ∧ (m.f8.length : Int) ≤ 6
        · rw [decide_eq_true a4.1, decide_eq_true a4.2]
          simp only [Bool.and_self, cond_true]
          by_cases a5 : Al m.f9 ∧ (m.f9.length : Int) ≤ 5
          · rw [decide_eq_true a5.1, decide_eq_true a5.2]
            simp only [Bool.and_self, cond_true]
            by_cases a6 : Al m.f10 ∧ (m.f10.length : Int) ≤ (m.f9.length : Int)
            · rw [decide_eq_true a6.1, decide_eq_true a6.2]
              simp only [Bool.and_self, cond_true]
              by_cases a7 : (m.f10.length : Int) = (m.f9.length : Int)
              · by_cases a8 : (m.f11.f2.length : Int) ≤ 24
                · by_cases a9 : (m.f11.f3.length : Int) = (m.f11.f2.length : Int)
                  · rw [if_pos a7, if_pos a8, if_pos a9]
                    by_cases b1 : Ml m.f11.f4 ∧ (m.f11.f4.length : Int) ≤ 24
                    · rw [decide_eq_true b1.1, decide_eq_true b1.2]
                      simp only [Bool.and_self, cond_true]
                      congr 1
                      rw [← Bool.decide_and]
                      apply decide_eq_decide.2
                      exact ⟨fun h => ⟨⟨a1, a2⟩, a3, ⟨a4.1, by omega⟩, ⟨a5.1, by omega⟩, a6.1, by omega, by omega, by omega, ⟨b1.1, by omega⟩, h.1, by omega⟩,
                        fun ⟨_, _, _, _, _, _, _, _, _, h⟩ => ⟨h.1, by omega⟩⟩
                    · have : ¬ RR m := fun ⟨_, _, _, _, _, _, _, _, h, _⟩ => b1 ⟨h.1, by omega⟩
                      rw [no this, ← Bool.decide_and, decide_eq_false b1]; rfl
                  · have : ¬ RR m := fun ⟨_, _, _, _, _, _, _, h, _, _⟩ => a9 (by omega)
                    rw [if_pos a7, if_pos a8, if_neg a9, no this]
                · have : ¬ RR m := fun ⟨_, _, _, _, _, _, h, _, _, _⟩ => a8 (by omega)
                  rw [if_pos a7, if_neg a8, no this]
              · have : ¬ RR m := fun ⟨_, _, _, _, _, h, _, _, _, _⟩ => a7 (by omega)
                rw [if_neg a7, no this]
            · have : ¬ RR m := fun ⟨_, _, _, _, h, h2, _, _, _, _⟩ => a6 ⟨h, by omega⟩
              rw [no this, ← Bool.decide_and, decide_eq_false a6]; rfl
          · have : ¬ RR m := fun ⟨_, _, _, h, _, _, _, _, _, _⟩ => a5 ⟨h.1, by omega⟩
            rw [no this, ← Bool.decide_and, decide_eq_false a5]; rfl
        · have : ¬ RR m := fun ⟨_, _, h, _, _, _, _, _, _, _⟩ => a4 ⟨h.1, by omega⟩
          rw [no this, ← Bool.decide_and, decide_eq_false a4]; rfl
      · have : ¬ RR m := fun ⟨_, h, _⟩ => a3 h
        rw [no this, decide_eq_false a3]; rfl
    · have : ¬ RR m := fun ⟨h, _⟩ => a2 h.2
      rw [if_pos a1, if_neg a2, no this]
  · have : ¬ RR m := fun ⟨h, _⟩ => a1 h.1
    rw [if_neg a1, no this]
/-! The document's side. -/
def asM (m : S29) : S34 := ⟨m.f0, m.f1, m.f2, m.f3, m.f4, m.f5, m.f6, m.f7, m.f8, m.f9, m.f10, ⟨m.f11.f0, m.f11.f1, m.f11.f2, m.f11.f3, m.f11.f4⟩, m.f12⟩
theorem as_f (K : Nat) (m : S29) : haywainlaw15_As.f K m = some (asM m) := rfl
def unM (m : S34) : S29 := ⟨m.f0, m.f1, m.f2, m.f3, m.f4, m.f5, m.f6, m.f7, m.f8, m.f9, m.f10, ⟨m.f11.f0, m.f11.f1, m.f11.f2, m.f11.f3, m.f11.f4⟩, m.f12⟩
theorem asM_inj {m n : S29} (h : asM m = asM n) : m = n := congrArg unM h
theorem ok_f (K : Nat) (x : Int) : haywainref15_ok.f K x = some (decide (Nn x)) := by
  unfold haywainref15_ok.f Nn
  by_cases a : x ≥ 0
  · have : 0 ≤ x := a
    simp [this]
  · have : ¬ 0 ≤ x := a
    simp [this]
theorem all_loop (K : Nat) (l : List Int) (b : Int) (hl : l.length ≤ 1000000) : ∀ (k i : Nat), i ≤ l.length → l.length < k + i → haywainref15_all.l1 K l b k (i : Int) = some (decide (Al (l.drop i)) && decide ((l.length : Int) ≤ b)) := by
  intro k
  induction k with
  | zero => intro i h1 h2; omega
  | succ k ih =>
    intro i h1 h2
    rw [haywainref15_all.l1]
    by_cases hi : i < l.length
    · have hx : l[i]? = some l[i] := List.getElem?_eq_getElem hi
      have hlt : ((i : Int) < (l.length : Int)) := by omega
      simp only [condD, if_pos hlt, idxN, hx, Option.bind_some, step1 (show i < 1000000000 by omega), ih (i + 1) hi (by omega), ok_f]
      rw [List.drop_eq_getElem_cons hi]
      by_cases a : Nn l[i]
      · rw [decide_eq_true a]
        simp only [Bool.not_true, cond_false]
        congr 2
        apply decide_eq_decide.2
        rw [al_cons]
        exact ⟨fun h => ⟨a, h⟩, fun h => h.2⟩
      · have : ¬ Al (l[i] :: l.drop (i + 1)) := fun h => a (al_cons.1 h).1
        rw [decide_eq_false a, decide_eq_false this]; rfl
    · have hlt : ¬ ((i : Int) < (l.length : Int)) := by omega
      have : Al [] := by simp [Al]
      simp only [condD, if_neg hlt, List.drop_eq_nil_of_le (show l.length ≤ i by omega), decide_eq_true this, Bool.true_and]
theorem all_f {K : Nat} (b : Int) {l : List Int} (hl : l.length ≤ 1000) (hK : 2000 ≤ K) : haywainref15_all.f K l b = some (decide (Al l) && decide ((l.length : Int) ≤ b)) := by
  have := all_loop K l b (by omega) K 0 (by omega) (by omega)
  rw [List.drop_zero] at this
  exact this
theorem msgs_loop (K : Nat) (l : List S77) (hl : l.length ≤ 1000000) : ∀ (k i : Nat), i ≤ l.length → l.length < k + i → haywainref15_msgs.l1 K l k (i : Int) = some (decide (Ml (l.drop i)) && decide ((l.length : Int) ≤ 24)) := by
  intro k
  induction k with
  | zero => intro i h1 h2; omega
  | succ k ih =>
    intro i h1 h2
    rw [haywainref15_msgs.l1]
    by_cases hi : i < l.length
    · have hx : l[i]? = some l[i] := List.getElem?_eq_getElem hi
      have hlt : ((i : Int) < (l.length : Int)) := by omega
      simp only [condD, if_pos hlt, idxN, hx, Option.bind_some, step1 (show i < 1000000000 by omega), ih (i + 1) hi (by omega), ok_f]
      rw [List.drop_eq_getElem_cons hi]
      by_cases a : Nn l[i].f0
      · rw [decide_eq_true a]
        simp only [Bool.not_true, cond_false]
        congr 2
        apply decide_eq_decide.2
        rw [ml_cons]
        exact ⟨fun h => ⟨a, h⟩, fun h => h.2⟩
      · have : ¬ Ml (l[i] :: l.drop (i + 1)) := fun h => a (ml_cons.1 h).1
        rw [decide_eq_false a, decide_eq_false this]; rfl
    · have hlt : ¬ ((i : Int) < (l.length : Int)) := by omega
      have : Ml [] := by simp [Ml]
      simp only [condD, if_neg hlt, List.drop_eq_nil_of_le (show l.length ≤ i by omega), decide_eq_true this, Bool.true_and]
theorem msgs_f {K : Nat} {l : List S77} (hl : l.length ≤ 1000) (hK : 2000 ≤ K) : haywainref15_msgs.f K l = some (decide (Ml l) && decide ((l.length : Int) ≤ 24)) := by
  have := msgs_loop K l (by omega) K 0 (by omega) (by omega)
  rw [List.drop_zero] at this
  exact this
def RQ (m : S34) : Prop := (1 ≤ m.f0 ∧ m.f0 ≤ 11) ∧ Al [m.f1, m.f2, m.f3, m.f4, m.f5, m.f6, m.f7, m.f11.f0, m.f11.f1] ∧ (Al m.f8 ∧ m.f8.length ≤ 6) ∧ (Al m.f9 ∧ m.f9.length ≤ 5) ∧ Al m.f10 ∧ m.f10.length = m.f9.length ∧ m.f11.f2.length ≤ 24 ∧ m.f11.f3.length = m.f11.f2.length ∧ (Ml m.f11.f4 ∧ m.f11.f4.length ≤ 24) ∧ (Ml m.f12 ∧ m.f12.length ≤ 24)
instance (m : S34) : Decidable (RQ m) := by unfold RQ; infer_instance
theorem rright_q {K : Nat} {m : S34} (hm : Few (unM m)) (hK : 2000 ≤ K) : haywainref15_Right.f K m = some (decide (RQ m)) := by
  have no : ¬ RQ m → decide (RQ m) = false := fun h => decide_eq_false h
  have n9 : ([m.f1, m.f2, m.f3, m.f4, m.f5, m.f6, m.f7, m.f11.f0, m.f11.f1] : List Int).length ≤ 1000 := by simp
  rw [haywainref15_Right.f]
  simp only [all_f 9 n9 hK, all_f 6 (show m.f8.length ≤ 1000 from hm.a) hK, all_f 5 (show m.f9.length ≤ 1000 from hm.b) hK, all_f 5 (show m.f10.length ≤ 1000 from hm.c) hK, msgs_f (show m.f11.f4.length ≤ 1000 from hm.f) hK, msgs_f (show m.f12.length ≤ 1000 from hm.g) hK]
  simp only [Option.bind_some, condD, condB, condN]
  by_cases a1 : m.f0 < 1
  · have : ¬ RQ m := fun ⟨h, _⟩ => by omega
    rw [if_pos a1, no this]
  · by_cases a2 : m.f0 > 11
    · have : ¬ RQ m := fun ⟨h, _⟩ => by omega
      rw [if_neg a1, if_pos a2, no this]
    · rw [if_neg a1, if_neg a2]
      by_cases a3 : Al [m.f1, m.f2, m.f3, m.f4, m.f5, m.f6, m.f7, m.f11.f0, m.f11.f1]
      · have l9 : ((([m.f1, m.f2, m.f3, m.f4, m.f5, m.f6, m.f7, m.f11.f0, m.f11.f1] : List Int).length : Int) ≤ 9) := by simp
        rw [decide_eq_true a3, decide_eq_true l9]
        simp only [Bool.and_self, Bool.not_true, cond_false]
        by_cases a4 : Al m.f8 ∧ (m.f8.length : Int) ≤ 6
        · rw [decide_eq_true a4.1, decide_eq_true a4.2]
          simp only [Bool.and_self, Bool.not_true, cond_false]
          by_cases a5 : Al m.f9 ∧ (m.f9.length : Int) ≤ 5
          · rw [decide_eq_true a5.1, decide_eq_true a5.2]
            simp only [Bool.and_self, Bool.not_true, cond_false]
            by_cases a6 : Al m.f10 ∧ (m.f10.length : Int) ≤ 5
            · rw [decide_eq_true a6.1, decide_eq_true a6.2]
              simp only [Bool.and_self, Bool.not_true, cond_false]
              by_cases a7 : (m.f9.length : Int) = (m.f10.length : Int)
              · by_cases a8 : (m.f11.f2.length : Int) ≤ 24
                · by_cases a9 : (m.f11.f3.length : Int) = (m.f11.f2.length : Int)
                  · rw [if_pos a7, if_pos a8, if_pos a9]
                    by_cases b1 : Ml m.f11.f4 ∧ (m.f11.f4.length : Int) ≤ 24
                    · rw [decide_eq_true b1.1, decide_eq_true b1.2]
                      simp only [Bool.and_self, cond_true]
                      congr 1
                      rw [← Bool.decide_and]
                      apply decide_eq_decide.2
                      exact ⟨fun h => ⟨⟨by omega, by omega⟩, a3, ⟨a4.1, by omega⟩, ⟨a5.1, by omega⟩, a6.1, by omega, by omega, by omega, ⟨b1.1, by omega⟩, h.1, by omega⟩,
                        fun ⟨_, _, _, _, _, _, _, _, _, h⟩ => ⟨h.1, by omega⟩⟩
                    · have : ¬ RQ m := fun ⟨_, _, _, _, _, _, _, _, h, _⟩ => b1 ⟨h.1, by omega⟩
                      rw [no this, ← Bool.decide_and, decide_eq_false b1]; rfl
                  · have : ¬ RQ m := fun ⟨_, _, _, _, _, _, _, h, _, _⟩ => a9 (by omega)
                    rw [if_pos a7, if_pos a8, if_neg a9, no this]
                · have : ¬ RQ m := fun ⟨_, _, _, _, _, _, h, _, _, _⟩ => a8 (by omega)
                  rw [if_pos a7, if_neg a8, no this]
              · have : ¬ RQ m := fun ⟨_, _, _, _, _, h, _, _, _, _⟩ => a7 (by omega)
                rw [if_neg a7, no this]
            · have : ¬ RQ m := fun ⟨_, _, _, h3, h, h2, _, _, _, _⟩ => a6 ⟨h, by omega⟩
              rw [no this, ← Bool.decide_and, decide_eq_false a6]; rfl
          · have : ¬ RQ m := fun ⟨_, _, _, h, _, _, _, _, _, _⟩ => a5 ⟨h.1, by omega⟩
            rw [no this, ← Bool.decide_and, decide_eq_false a5]; rfl
        · have : ¬ RQ m := fun ⟨_, _, h, _, _, _, _, _, _, _⟩ => a4 ⟨h.1, by omega⟩
          rw [no this, ← Bool.decide_and, decide_eq_false a4]; rfl
      · have : ¬ RQ m := fun ⟨_, h, _⟩ => a3 h
        rw [no this, decide_eq_false a3]; rfl
theorem rright_f {K : Nat} {m : S29} (hm : Few m) (hK : 2000 ≤ K) : haywainref15_Right.f K (asM m) = some (decide (RR m)) := by
  rw [rright_q (m := asM m) hm hK]
  rfl
theorem wide_step (K k : Nat) (m : S29) (n : Int) (i : Nat) (v : Int) (hi : i < 6) (hv : ([(m.f9.length : Int), (m.f10.length : Int), (m.f11.f2.length : Int), (m.f11.f3.length : Int), (m.f11.f4.length : Int), (m.f12.length : Int)] : List Int)[i]? = some v) : haywainlaw15_Wide.l1 K m (k + 1) (n, (i : Int)) = haywainlaw15_Wide.l1 K m k (if v > n then v else n, ((i + 1 : Nat) : Int)) := by
  have hlt : (i : Int) < (([(m.f9.length : Int), (m.f10.length : Int), (m.f11.f2.length : Int), (m.f11.f3.length : Int), (m.f11.f4.length : Int), (m.f12.length : Int)] : List Int).length : Int) := by simp only [List.length_cons, List.length_nil]; omega
  rw [haywainlaw15_Wide.l1]
  simp only [condD, if_pos hlt, idxN, hv, Option.bind_some, step1 (show i < 1000000000 by omega)]
  split <;> rfl
theorem wide_f {K : Nat} (m : S29) (hK : 2000 ≤ K) : ∃ w, haywainlaw15_Wide.f K m = some w ∧ (w ≤ 100 → Few m) := by
  obtain ⟨k, rfl⟩ : ∃ k, K = k + 7 := ⟨K - 7, by omega⟩
  rw [haywainlaw15_Wide.f, show (0 : Int) = ((0 : Nat) : Int) from rfl, wide_step (k + 7) (k + 6) m _ 0 _ (by omega) rfl, wide_step (k + 7) (k + 5) m _ 1 _ (by omega) rfl, wide_step (k + 7) (k + 4) m _ 2 _ (by omega) rfl, wide_step (k + 7) (k + 3) m _ 3 _ (by omega) rfl, wide_step (k + 7) (k + 2) m _ 4 _ (by omega) rfl, wide_step (k + 7) (k + 1) m _ 5 _ (by omega) rfl, haywainlaw15_Wide.l1]
  refine ⟨_, rfl, fun h => ?_⟩
  simp only at h
  have step : ∀ {v n : Int}, (if v > n then v else n) ≤ 100 → v ≤ 100 ∧ n ≤ 100 := fun {v n} h => by
    by_cases c : v > n
    · rw [if_pos c] at h; omega
    · rw [if_neg c] at h; omega
  obtain ⟨h6, h⟩ := step h
  obtain ⟨h5, h⟩ := step h
  obtain ⟨h4, h⟩ := step h
  obtain ⟨h3, h⟩ := step h
  obtain ⟨h2, h⟩ := step h
  obtain ⟨h1, h⟩ := step h
  exact ⟨by omega, by omega, by omega, by omega, by omega, by omega, by omega⟩
end Go.Proofs.Ytlcbgmaajijbjaa.Pure
