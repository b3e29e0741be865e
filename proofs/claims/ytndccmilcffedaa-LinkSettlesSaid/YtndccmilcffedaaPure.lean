/- What the functions of layer 16 answer, in plain Lean. -/
import Derived.Test.YtndccmilcffedaaG1
set_option linter.unusedVariables false
set_option linter.unusedSimpArgs false
namespace Go.Proofs.Ytndccmilcffedaa.Pure
open Go Go.RowKit Go.Hw Go.Proofs.Ytndccmilcffedaa.G
open Classical
theorem wrapI {x : Int} (h1 : -9223372036854775808 ≤ x) (h2 : x ≤ 9223372036854775807) : IntKind.wrap .i64 x = x := by
  simp only [IntKind.wrap, IntKind.signed, IntKind.bits]
  simp
  omega
theorem idxN {α : Type} {xs : List α} {i : Nat} : idxO xs (i : Int) = xs[i]? := by simp [idxO]
theorem appN {α : Type} {b : Nat} {xs ys : List α} (h : (xs.length + ys.length) * b ≤ 140737488355328) : appO b xs ys = some (xs ++ ys) := by simp only [appO, h, if_true]
theorem condB {α : Type} {x y : Int} {a b : α} : cond (x == y) a b = if x = y then a else b := by
  rw [Bool.cond_eq_ite]; simp
theorem condN {α : Type} {x y : Int} {a b : α} : cond (x != y) a b = if x = y then b else a := by
  rw [Bool.cond_eq_ite]; by_cases h : x = y <;> simp [h]
def okN (xs : List S71) (n : Int) (i : Nat) : Prop := ∀ j x, i ≤ j → xs[j]? = some x → x.f0 = n + j
structure R (a : S24) : Prop where
  a1 : 1 ≤ a.f0
  a2 : a.f0 ≤ 1099511627776
  b1 : 1 ≤ a.f1
  b2 : a.f1 ≤ 1099511627776
  c1 : 0 ≤ a.f2
  c2 : a.f2 ≤ 3
  l1 : a.f3.length ≤ 200
  l2 : (a.f3.length : Int) < a.f0
  ok : okN a.f3 (a.f0 - a.f3.length) 0
theorem okN_step {xs : List S71} {n : Int} {i : Nat} {x : S71} (h : xs[i]? = some x) : okN xs n i ↔ x.f0 = n + i ∧ okN xs n (i + 1) := by
  constructor
  · intro H
    exact ⟨H i x (Nat.le_refl _) h, fun j y hj hy => H j y (by omega) hy⟩
  · intro H j y hj hy
    by_cases e : j = i
    · subst e; rw [h] at hy; cases hy; exact H.1
    · exact H.2 j y (by omega) hy
theorem okN_end {xs : List S71} {n : Int} {i : Nat} (h : xs.length ≤ i) : okN xs n i := by
  intro j y hj hy
  have := (List.getElem?_eq_some_iff.1 hy).1
  omega
theorem right_loop (K : Nat) (a : S24) (h1 : 1 ≤ a.f0) (h2 : a.f0 ≤ 1099511627776) (hl : a.f3.length ≤ 200) : ∀ (k i : Nat), i ≤ a.f3.length → a.f3.length < k + i → link_Right.l9 K a k i = some (decide (okN a.f3 (a.f0 - a.f3.length) i)) := by
  intro k
  induction k with
  | zero => intro i h3 h4; omega
  | succ k ih =>
    intro i h3 h4
    rw [link_Right.l9]
    by_cases hi : i < a.f3.length
    · have hx : a.f3[i]? = some a.f3[i] := List.getElem?_eq_getElem hi
      rw [idxN, hx, wrapI (x := a.f0 - _) (by omega) (by omega), wrapI (x := a.f0 - _ + _) (by omega) (by omega), wrapI (x := (i : Int) + 1) (by omega) (by omega)]
      have e : ((i : Int) + 1) = ((i + 1 : Nat) : Int) := by omega
      rw [e, ih (i + 1) hi (by omega)]
      simp only [okN_step hx, Option.bind_some]
      have : ((i : Int) < (a.f3.length : Int)) := by omega
      by_cases h5 : a.f3[i].f0 = a.f0 - a.f3.length + i <;> simp [h5, this, condN]
    · have : ¬ ((i : Int) < (a.f3.length : Int)) := by omega
      have h6 : okN a.f3 (a.f0 - a.f3.length) i := okN_end (by omega)
      simp [this, h6]
theorem right_f {K : Nat} (hK : 1000 ≤ K) (a : S24) : link_Right.f K a = some (decide (R a)) := by
  rw [link_Right.f]
  by_cases h1 : a.f0 < 1
  · have : ¬ R a := fun h => by have := h.a1; omega
    simp [h1, this]
  by_cases h2 : a.f0 > 1099511627776
  · have : ¬ R a := fun h => by have := h.a2; omega
    simp [h1, h2, this]
  by_cases h3 : a.f1 < 1
  · have : ¬ R a := fun h => by have := h.b1; omega
    simp [h1, h2, h3, this]
  by_cases h4 : a.f1 > 1099511627776
  · have : ¬ R a := fun h => by have := h.b2; omega
    simp [h1, h2, h3, h4, this]
  by_cases h5 : a.f2 < 0
  · have : ¬ R a := fun h => by have := h.c1; omega
    simp [h1, h2, h3, h4, h5, this]
  by_cases h6 : a.f2 > 3
  · have : ¬ R a := fun h => by have := h.c2; omega
    simp [h1, h2, h3, h4, h5, h6, this]
  by_cases h7 : (a.f3.length : Int) > 200
  · have : ¬ R a := fun h => by have := h.l1; omega
    simp [h1, h2, h3, h4, h5, h6, h7, this]
  by_cases h8 : (a.f3.length : Int) ≥ a.f0
  · have : ¬ R a := fun h => by have := h.l2; omega
    simp [h1, h2, h3, h4, h5, h6, h7, h8, this]
  have e := right_loop K a (by omega) (by omega) (by omega) K 0 (by omega) (by omega)
  have e2 : R a ↔ okN a.f3 (a.f0 - a.f3.length) 0 := ⟨fun h => h.ok, fun h => ⟨by omega, by omega, by omega, by omega, by omega, by omega, by omega, by omega, h⟩⟩
  simp only [h1, h2, h3, h4, h5, h6, h7, h8, e2]
  exact e
def new : S24 := ⟨1, 1, 0, [], false⟩
theorem new_R : R new := ⟨by decide, by decide, by decide, by decide, by decide, by decide, by decide, by decide, fun j x _ h => by simp [new] at h⟩
noncomputable def own (a : S24) : S24 := if R a then a else new
theorem own_R (a : S24) : R (own a) := by
  unfold own
  split
  · assumption
  · exact new_R
theorem own_of {a : S24} (h : R a) : own a = a := by simp [own, h]
theorem own_f {K : Nat} (hK : 1000 ≤ K) (a : S24) : link_own.f K a = some (own a) := by
  rw [link_own.f, right_f hK]
  by_cases h : R a
  · have hl := h.l1
    have h6 : a.f3.length * 24 ≤ 140737488355328 := by omega
    simp [h, own, appO, h6]
  · simp [h, own, link_New.f, new]
def sendS (a : S24) (b : ByteArray) : S24 × Int := if 200 ≤ a.f3.length then (a, 3) else if a.f0 = 1099511627776 then (a, 6) else (⟨a.f0 + 1, a.f1, 0, a.f3 ++ [⟨a.f0, b⟩], a.f4⟩, 0)
theorem send_f {K : Nat} (hK : 1000 ≤ K) (a : S24) (b : ByteArray) : link_Send.f K a b = some (sendS (own a) b) := by
  have r := own_R a
  have hl := r.l1
  have h2 := r.a2
  have h1 := r.a1
  rw [link_Send.f, own_f hK]
  unfold sendS
  by_cases h : (own a).f3.length ≥ 200
  · have : ((own a).f3.length : Int) ≥ 200 := by omega
    simp [h, this]
  · have h3 : ¬ ((own a).f3.length : Int) ≥ 200 := by omega
    by_cases h4 : (own a).f0 = 1099511627776
    · have h5 : ¬ 200 ≤ (own a).f3.length := h
      simp [h3, h4, h5]
    · have h5 : ¬ 200 ≤ (own a).f3.length := h
      have h6 : ((own a).f3.length + 1) * 24 ≤ 140737488355328 := by omega
      simp [h3, h4, h5, appO, h6, condB, wrapI (x := (own a).f0 + 1) (by omega) (by omega)]
theorem send_R {a : S24} {b : ByteArray} (r : R a) : R (sendS a b).1 := by
  unfold sendS
  split
  · exact r
  split
  · exact r
  have h1 := r.a1
  have h2 := r.a2
  refine ⟨by simp only; omega, by simp only; omega, r.b1, r.b2, Int.le_refl _, (by decide : (0 : Int) ≤ 3), by simp only [List.length_append, List.length_cons, List.length_nil]; omega, by simp only [List.length_append, List.length_cons, List.length_nil]; have := r.l2; omega, ?_⟩
  intro j x _ hx
  have hx : (a.f3 ++ [(⟨a.f0, b⟩ : S71)])[j]? = some x := hx
  simp only [List.length_append, List.length_cons, List.length_nil]
  by_cases hj : j < a.f3.length
  · rw [List.getElem?_append_left hj] at hx
    have := r.ok j x (Nat.zero_le _) hx
    omega
  · rw [List.getElem?_append_right (by omega)] at hx
    by_cases hj2 : j - a.f3.length = 0
    · rw [hj2] at hx
      have : x = ⟨a.f0, b⟩ := by simpa using hx.symm
      subst this
      simp only
      omega
    · have : j - a.f3.length = (j - a.f3.length - 1) + 1 := by omega
      rw [this] at hx
      simp at hx
/-- The numbers of an end. -/
def pk (a : S24) (s : S71) : S37 := ⟨s.f0, a.f1 - 1, s.f1⟩
theorem cutT {α : Type} {xs : List α} {n : Int} : cutL xs ((0 : Int).toNat) n.toNat = xs.take n.toNat := by simp [cutL]
def sevO (a : S24) : List S71 := a.f3.take 8
theorem min8 (a : S24) : (((if (a.f3.length : Int) < 8 then (a.f3.length : Int) else 8) : Int).toNat) = min a.f3.length 8 := by
  split <;> omega
theorem take8 (a : S24) : a.f3.take (min a.f3.length 8) = a.f3.take 8 := by
  by_cases h : a.f3.length ≤ 8
  · rw [Nat.min_eq_left h, List.take_of_length_le (Nat.le_refl _), List.take_of_length_le h]
  · rw [Nat.min_eq_right (by omega)]
theorem tick_loop (K : Nat) (a : S24) (r : R a) : ∀ (k i : Nat) (acc : List S37), i ≤ (a.f3.take 8).length → (a.f3.take 8).length < k + i → acc.length = i → link_Tick.l25 K a k (acc, i) = some (acc ++ ((a.f3.take 8).drop i).map (pk a)) := by
  intro k
  have hl : (a.f3.take 8).length ≤ 8 := by simp; omega
  have hb1 := r.b1
  have hb2 := r.b2
  induction k with
  | zero => intro i acc h3 h4 _; omega
  | succ k ih =>
    intro i acc h3 h4 hacc
    rw [link_Tick.l25, cutT, min8, take8]
    by_cases hi : i < (a.f3.take 8).length
    · have hx : (a.f3.take 8)[i]? = some (a.f3.take 8)[i] := List.getElem?_eq_getElem hi
      have hlt : ((i : Int) < ((a.f3.take 8).length : Int)) := by omega
      simp only [hlt, decide_true, cond_true, idxN, hx, Option.bind_some]
      rw [appN (by simp only [List.length_cons, List.length_nil]; omega), wrapI (x := (i : Int) + 1) (by omega) (by omega), wrapI (x := a.f1 - 1) (by omega) (by omega)]
      have e : ((i : Int) + 1) = ((i + 1 : Nat) : Int) := by omega
      simp only [Option.bind_some]
      rw [e, ih (i + 1) _ hi (by omega) (by simp [hacc]), List.drop_eq_getElem_cons hi]
      simp [pk]
    · have hlt : ¬ ((i : Int) < ((a.f3.take 8).length : Int)) := by omega
      simp only [hlt, decide_false, cond_false]
      rw [List.drop_eq_nil_of_le (by omega)]
      simp
def tickS (a : S24) : S24 × List S37 :=
  if 0 < a.f3.length ∧ a.f2 = 0 then (⟨a.f0, a.f1, 3, a.f3, false⟩, (a.f3.take 8).map (pk a))
  else (⟨a.f0, a.f1, if 0 < a.f2 then a.f2 - 1 else a.f2, a.f3, false⟩, if a.f4 then [⟨0, a.f1 - 1, ⟨#[]⟩⟩] else [])
theorem tick_f {K : Nat} (hK : 1000 ≤ K) (a : S24) : link_Tick.f K a = some (tickS (own a)) := by
  have r := own_R a
  rw [link_Tick.f, own_f hK]
  generalize own a = a at r
  have hb1 := r.b1
  have hb2 := r.b2
  have hc1 := r.c1
  have hc2 := r.c2
  have hl := r.l1
  simp only [Option.bind_some]
  have ht : (a.f3.take 8).length ≤ 8 := by simp; omega
  have e := tick_loop K a r K 0 [] (Nat.zero_le _) (by omega) rfl
  have e1 : cutO a.f3 0 (if (a.f3.length : Int) < 8 then (a.f3.length : Int) else 8) = some (a.f3.take 8) := by
    unfold cutO
    rw [if_pos (by split <;> omega), cutT, min8, take8]
  rw [e1, show (0 : Int) = ((0 : Nat) : Int) from rfl, e, wrapI (x := a.f2 - 1) (by omega) (by omega), wrapI (x := a.f1 - 1) (by omega) (by omega)]
  unfold tickS
  by_cases h1 : 0 < a.f3.length
  · have h1' : (a.f3.length : Int) > 0 := by omega
    by_cases h2 : a.f2 = 0
    · simp [h1, h2, h1', condB]
    · have h3 : a.f2 > 0 := by omega
      cases h4 : a.f4 <;> simp [h1, h2, h1', condB, h3, h4, appO]
  · have h1' : ¬ (a.f3.length : Int) > 0 := by omega
    by_cases h3 : a.f2 > 0
    · cases h4 : a.f4 <;> simp [h1, h1', condB, h3, h4, appO]
    · cases h4 : a.f4 <;> simp [h1, h1', condB, h3, h4, appO]
theorem tick_R {a : S24} (r : R a) : R (tickS a).1 := by
  have hc1 := r.c1
  have hc2 := r.c2
  unfold tickS
  split
  · exact ⟨r.a1, r.a2, r.b1, r.b2, (by decide : (0 : Int) ≤ 3), Int.le_refl _, r.l1, r.l2, r.ok⟩
  · exact ⟨r.a1, r.a2, r.b1, r.b2, by simp only; split <;> omega, by simp only; split <;> omega, r.l1, r.l2, r.ok⟩
/-- How many texts a word says have come. -/
def gone (a : S24) (ack : Int) : Nat := min a.f3.length (ack - (a.f0 - a.f3.length) + 1).toNat
theorem take_loop (K : Nat) (a : S24) (p : S37) (r : R a) : ∀ (k i : Nat), i ≤ gone a p.f1 → a.f3.length < k + i → link_Take.l18 K p a k i = some (gone a p.f1 : Int) := by
  intro k
  have hl := r.l1
  induction k with
  | zero => intro i h3 h4; unfold gone at h3; omega
  | succ k ih =>
    intro i h3 h4
    rw [link_Take.l18]
    by_cases hi : i < a.f3.length
    · have hx : a.f3[i]? = some a.f3[i] := List.getElem?_eq_getElem hi
      have hlt : ((i : Int) < (a.f3.length : Int)) := by omega
      have hv := r.ok i _ (Nat.zero_le _) hx
      simp only [hlt, decide_true, cond_true, idxN, hx, Option.bind_some, wrapI (x := (i : Int) + 1) (by omega) (by omega)]
      have e : ((i : Int) + 1) = ((i + 1 : Nat) : Int) := by omega
      by_cases hg : a.f3[i].f0 ≤ p.f1
      · simp only [hg, decide_true, cond_true]
        rw [e, ih (i + 1) (by unfold gone; omega) (by omega)]
      · simp only [hg, decide_false, cond_false]
        have : gone a p.f1 = i := by unfold gone at h3 ⊢; omega
        rw [this]
    · have hlt : ¬ ((i : Int) < (a.f3.length : Int)) := by omega
      have : gone a p.f1 = i := by unfold gone at h3 ⊢; omega
      simp [hlt, this]
def takeS (a : S24) (p : S37) : S24 × ByteArray × Bool :=
  if p.f0 < 0 ∨ p.f1 < 0 ∨ a.f0 ≤ p.f1 then (a, ⟨#[]⟩, false)
  else if p.f0 = 0 then (⟨a.f0, a.f1, if 0 < gone a p.f1 then 0 else a.f2, a.f3.drop (gone a p.f1), a.f4⟩, ⟨#[]⟩, false)
  else if p.f0 = a.f1 ∧ a.f1 < 1099511627776 then (⟨a.f0, a.f1 + 1, if 0 < gone a p.f1 then 0 else a.f2, a.f3.drop (gone a p.f1), true⟩, p.f2, true)
  else (⟨a.f0, a.f1, if 0 < gone a p.f1 then 0 else a.f2, a.f3.drop (gone a p.f1), true⟩, ⟨#[]⟩, false)
theorem take_f {K : Nat} (hK : 1000 ≤ K) (a : S24) (p : S37) : link_Take.f K a p = some (takeS (own a) p) := by
  have r := own_R a
  rw [link_Take.f, own_f hK]
  generalize own a = a at r
  have hb1 := r.b1
  have hb2 := r.b2
  have hl := r.l1
  simp only [Option.bind_some]
  have e := take_loop K a p r K 0 (Nat.zero_le _) (by omega)
  have hg : gone a p.f1 ≤ a.f3.length := by unfold gone; omega
  rw [show link_Take.l18 K p a K 0 = _ from e, wrapI (x := a.f1 + 1) (by omega) (by omega)]
  unfold takeS
  generalize gone a p.f1 = g at hg
  have e1 : cutO a.f3 (g : Int) (a.f3.length : Int) = some (a.f3.drop g) := by
    unfold cutO
    rw [if_pos (by omega)]
    simp [cutL]
  have e2 : cutL a.f3 ((g : Int).toNat) (((a.f3.length : Int)).toNat) = a.f3.drop g := by simp [cutL]
  simp only [e1, e2, Option.bind_some]
  by_cases h1 : p.f0 < 0
  · simp [h1]
  by_cases h2 : p.f1 < 0
  · simp [h1, h2]
  by_cases h3 : p.f1 ≥ a.f0
  · simp [h1, h2, h3]
  have h3' : ¬ a.f0 ≤ p.f1 := h3
  have e4 : (cond (decide ((g : Int) > 0)) (some (0, a.f3.drop g)) (some (a.f2, a.f3)) : Option (Int × List S71)) = some (if 0 < g then 0 else a.f2, a.f3.drop g) := by
    by_cases hz : 0 < g
    · have : (g : Int) > 0 := by omega
      simp [hz, this]
    · have : g = 0 := by omega
      simp [this]
  rw [e4]
  simp only [h1, h2, h3, h3', decide_false, cond_false, Option.bind_some, or_self, if_false, condB, condN]
  by_cases h5 : p.f0 = 0
  · simp [h5]
  by_cases h6 : p.f0 = a.f1
  · by_cases h7 : a.f1 ≥ 1099511627776
    · have : ¬ a.f1 < 1099511627776 := by omega
      simp only [h5, h6, h7, this]
      have : ¬ a.f1 = 0 := by omega
      simp [this]
    · have h8 : a.f1 < 1099511627776 := by omega
      have : ¬ a.f1 = 0 := by omega
      simp [h6, h7, h8, this]
  · simp [h5, h6]
theorem take_R {a : S24} {p : S37} (r : R a) : R (takeS a p).1 := by
  have hc1 := r.c1
  have hc2 := r.c2
  have hl := r.l1
  have hl2 := r.l2
  have hb1 := r.b1
  have hb2 := r.b2
  have hg : gone a p.f1 ≤ a.f3.length := by unfold gone; omega
  have key : ∀ (w : Int) (b : Bool), 1 ≤ w → w ≤ 1099511627776 → R ⟨a.f0, w, if 0 < gone a p.f1 then 0 else a.f2, a.f3.drop (gone a p.f1), b⟩ := by
    intro w b hw1 hw2
    refine ⟨r.a1, r.a2, hw1, hw2, by simp only; split <;> omega, by simp only; split <;> omega, by simp only [List.length_drop]; omega, by simp only [List.length_drop]; omega, ?_⟩
    intro j x _ hx
    have hx : (a.f3.drop (gone a p.f1))[j]? = some x := hx
    rw [List.getElem?_drop] at hx
    have := r.ok _ x (Nat.zero_le _) hx
    simp only [List.length_drop]
    omega
  unfold takeS
  split
  · exact r
  split
  · exact key _ _ hb1 hb2
  split
  · rename_i h; exact key _ _ (by omega) (by omega)
  · exact key _ _ hb1 hb2
/-- The document's form of an end. -/
def g1 (s : S71) : S74 := ⟨s.f0, s.f1⟩
def A (a : S24) : S29 := ⟨a.f0, a.f1, a.f2, a.f3.map g1, a.f4⟩
theorem as_loop (K : Nat) (a : S24) (hl : a.f3.length ≤ 300) : ∀ (k i : Nat) (acc : List S74), i ≤ a.f3.length → a.f3.length < k + i → acc.length = i → haywainlaw16_as.l1 K a k (i, acc) = some ⟨a.f0, a.f1, a.f2, acc ++ (a.f3.drop i).map g1, a.f4⟩ := by
  intro k
  induction k with
  | zero => intro i acc h3 h4 _; omega
  | succ k ih =>
    intro i acc h3 h4 hacc
    rw [haywainlaw16_as.l1]
    by_cases hi : i < a.f3.length
    · have hx : a.f3[i]? = some a.f3[i] := List.getElem?_eq_getElem hi
      have hlt : ((i : Int) < (a.f3.length : Int)) := by omega
      simp only [hlt, decide_true, cond_true, idxN, hx, Option.bind_some]
      rw [appN (by simp only [List.length_cons, List.length_nil]; omega), wrapI (x := (i : Int) + 1) (by omega) (by omega)]
      have e : ((i : Int) + 1) = ((i + 1 : Nat) : Int) := by omega
      simp only [Option.bind_some]
      rw [e, ih (i + 1) _ hi (by omega) (by simp [hacc]), List.drop_eq_getElem_cons hi]
      simp only [List.map_cons, List.append_assoc, List.singleton_append]
      rfl
    · have hlt : ¬ ((i : Int) < (a.f3.length : Int)) := by omega
      simp only [hlt, decide_false, cond_false]
      rw [List.drop_eq_nil_of_le (by omega)]
      simp
theorem as_f {K : Nat} (hK : 1000 ≤ K) {a : S24} (hl : a.f3.length ≤ 300) : haywainlaw16_as.f K a = some (A a) := by
  rw [haywainlaw16_as.f, show (0 : Int) = ((0 : Nat) : Int) from rfl, as_loop K a hl K 0 [] (Nat.zero_le _) (by omega) rfl]
  simp [A]
theorem idxM {α β : Type} {xs : List α} {g : α → β} {i : Nat} : idxO (xs.map g) (i : Int) = (xs[i]?).map g := by simp [idxO]
theorem okN_down {xs : List S71} {n : Int} {i : Nat} (h : okN xs n (i + 1)) (hx : ∀ x, xs[i]? = some x → x.f0 = n + i) : okN xs n i := by
  intro j y hj hy
  by_cases e : j = i
  · subst e; exact hx y hy
  · exact h j y (by omega) hy
theorem rrStep {x y : Int} {P P' : Prop} {d1 : Decidable P} {d2 : Decidable P'} (e : P ↔ 1 ≤ x ∧ x = y ∧ P') : cond (decide (x ≥ 1)) (some (x == y && decide P')) (some (false && decide P')) = some (true && decide P) := by
  by_cases h1 : x ≥ 1
  · by_cases h2 : x = y
    · by_cases h3 : P'
      · have : P := e.2 ⟨h1, h2, h3⟩
        simp only [h1, h2, h3, this, decide_true, cond_true]
        rw [h2] at h1
        simp [h1]
      · have : ¬ P := fun h => h3 (e.1 h).2.2
        simp [h3, this]
    · have : ¬ P := fun h => h2 (e.1 h).2.1
      simp [h1, h2, this]
  · have : ¬ P := fun h => h1 (e.1 h).1
    simp [h1, this]
theorem rright_loop (K : Nat) (a : S24) (h1 : 1 ≤ a.f0) (h2 : a.f0 ≤ 1099511627776) (hl : a.f3.length ≤ 300) : ∀ (k i : Nat) (b : Bool), i ≤ a.f3.length → a.f3.length + 1 < k + i → haywainref16_Right.l7 K (A a) k (b, i) = some (b && decide (okN a.f3 (a.f0 - a.f3.length) i ∧ (i < a.f3.length → 1 ≤ a.f0 - a.f3.length + i))) := by
  intro k
  induction k with
  | zero => intro i b h3 h4; omega
  | succ k ih =>
    intro i b h3 h4
    rw [haywainref16_Right.l7]
    cases b with
    | false => simp
    | true =>
      by_cases hi : i < a.f3.length
      · have hx : a.f3[i]? = some a.f3[i] := List.getElem?_eq_getElem hi
        have hlt : ((i : Int) < (a.f3.length : Int)) := by omega
        have hle : ((A a).f3.length : Int) = a.f3.length := by simp [A]
        have h0 : (A a).f0 = a.f0 := rfl
        simp only [A, List.length_map, hlt, decide_true, cond_true, idxM, hx, Option.bind_some, Option.map_some]
        rw [wrapI (x := (i : Int) + 1) (by omega) (by omega), wrapI (x := (a.f3.length : Int) - i) (by omega) (by omega), wrapI (x := a.f0 - _) (by omega) (by omega)]
        have e : ((i : Int) + 1) = ((i + 1 : Nat) : Int) := by omega
        have ih1 := fun b => ih (i + 1) b hi (by omega)
        simp only [A] at ih1
        rw [e, ih1, ih1]
        simp only [g1]
        have e5 := okN_step (n := a.f0 - a.f3.length) hx
        have eP : (okN a.f3 (a.f0 - a.f3.length) i ∧ (i < a.f3.length → 1 ≤ a.f0 - a.f3.length + i)) ↔ 1 ≤ a.f3[i].f0 ∧ a.f3[i].f0 = a.f0 - (a.f3.length - i) ∧ (okN a.f3 (a.f0 - a.f3.length) (i + 1) ∧ (i + 1 < a.f3.length → 1 ≤ a.f0 - a.f3.length + ((i + 1 : Nat) : Int))) := by
          rw [e5]
          constructor
          · rintro ⟨⟨h5, h6⟩, h7⟩
            have := h7 hi
            exact ⟨by omega, by omega, h6, fun _ => by omega⟩
          · rintro ⟨h5, h6, h7, h8⟩
            exact ⟨⟨by omega, h7⟩, fun _ => by omega⟩
        exact rrStep eP
      · have hlt : ¬ ((i : Int) < ((A a).f3.length : Int)) := by simp only [A, List.length_map]; omega
        have h6 : okN a.f3 (a.f0 - a.f3.length) i := okN_end (by omega)
        simp [hlt, h6, hi]
theorem rright_f {K : Nat} (hK : 1000 ≤ K) {a : S24} (hl : a.f3.length ≤ 300) : haywainref16_Right.f K (A a) = some (decide (R a)) := by
  obtain ⟨k, rfl⟩ : ∃ k, K = k + 1 := ⟨K - 1, by omega⟩
  rw [haywainref16_Right.f]
  simp only [haywainref16_Right.l17, haywainref16_Right.l18, haywainref16_Right.l19, haywainref16_Right.l20, haywainref16_Right.l21, haywainref16_Right.l22]
  simp only [show (A a).f0 = a.f0 from rfl, show (A a).f1 = a.f1 from rfl, show (A a).f2 = a.f2 from rfl, show ((A a).f3.length : Int) = a.f3.length by simp [A]]
  by_cases h1 : a.f0 > 0
  case neg => have : ¬ R a := fun h => by have := h.a1; omega
              simp [h1, this]
  by_cases h2 : a.f0 ≤ 1099511627776
  case neg => have : ¬ R a := fun h => by have := h.a2; omega
              simp [h1, h2, this]
  by_cases h3 : a.f1 > 0
  case neg => have : ¬ R a := fun h => by have := h.b1; omega
              simp [h1, h2, h3, this]
  by_cases h4 : a.f1 ≤ 1099511627776
  case neg => have : ¬ R a := fun h => by have := h.b2; omega
              simp [h1, h2, h3, h4, this]
  by_cases h5 : a.f2 ≥ 0
  case neg => have : ¬ R a := fun h => by have := h.c1; omega
              simp [h1, h2, h3, h4, h5, this]
  by_cases h6 : a.f2 ≤ 3
  case neg => have : ¬ R a := fun h => by have := h.c2; omega
              simp [h1, h2, h3, h4, h5, h6, this]
  simp only [h1, h2, h3, h4, h5, h6, decide_true, cond_true]
  rw [show (0 : Int) = ((0 : Nat) : Int) from rfl, rright_loop _ a (by omega) h2 hl _ 0 _ (Nat.zero_le _) (by omega)]
  have : R a ↔ (a.f3.length : Int) ≤ 200 ∧ okN a.f3 (a.f0 - a.f3.length) 0 ∧ (0 < a.f3.length → 1 ≤ a.f0 - a.f3.length + (0 : Nat)) := by
    constructor
    · intro h
      have l1 := h.l1
      have l2 := h.l2
      exact ⟨by omega, h.ok, fun _ => by omega⟩
    · rintro ⟨l1, h, l2⟩
      exact ⟨by omega, by omega, by omega, by omega, by omega, by omega, by omega, by by_cases hz : 0 < a.f3.length <;> omega, h⟩
  simp only [this, Bool.decide_and]
theorem A_new : A new = ⟨1, 1, 0, [], false⟩ := rfl
theorem good_f {K : Nat} (hK : 1000 ≤ K) {a : S24} (hl : a.f3.length ≤ 300) : haywainref16_Good.f K (A a) = some (A (own a)) := by
  rw [haywainref16_Good.f, rright_f hK hl]
  by_cases h : R a <;> simp [h, own, A_new]
theorem bbRefl (b : ByteArray) : (b == b) = true := by
  cases b with | mk d =>
  show (d == d) = true
  simp
theorem same_loop (K : Nat) (a b : S29) (h : a.f3 = b.f3) (hl : a.f3.length ≤ 300) : ∀ (k i : Nat), i ≤ a.f3.length → a.f3.length < k + i → haywainref16_Same.l6 K a b k i = some true := by
  intro k
  induction k with
  | zero => intro i h3 h4; omega
  | succ k ih =>
    intro i h3 h4
    rw [haywainref16_Same.l6, ← h]
    by_cases hi : i < a.f3.length
    · have hx : a.f3[i]? = some a.f3[i] := List.getElem?_eq_getElem hi
      have hlt : ((i : Int) < (a.f3.length : Int)) := by omega
      simp only [hlt, decide_true, cond_true, idxN, hx, Option.bind_some]
      rw [wrapI (x := (i : Int) + 1) (by omega) (by omega)]
      have e : ((i : Int) + 1) = ((i + 1 : Nat) : Int) := by omega
      rw [e, ih (i + 1) hi (by omega)]
      simp [Bool.cond_eq_ite, bbRefl]
    · have hlt : ¬ ((i : Int) < (a.f3.length : Int)) := by omega
      simp [hlt]
theorem same_f {K : Nat} (hK : 1000 ≤ K) {a : S29} (hl : a.f3.length ≤ 300) : haywainref16_Same.f K a a = some true := by
  rw [haywainref16_Same.f, show (0 : Int) = ((0 : Nat) : Int) from rfl, same_loop K a a rfl hl K 0 (Nat.zero_le _) (by omega)]
  simp
theorem own_len (a : S24) : (own a).f3.length ≤ 300 := by have := (own_R a).l1; omega
theorem A_len (a : S24) : (A a).f3.length = a.f3.length := by simp [A]
theorem rsend_f {K : Nat} (hK : 1000 ≤ K) {a : S24} {b : ByteArray} (hl : a.f3.length ≤ 300) : haywainref16_Send.f K (A a) b = some (A (sendS (own a) b).1, (sendS (own a) b).2) := by
  have r := own_R a
  rw [haywainref16_Send.f, good_f hK hl]
  generalize own a = a at r
  have h1 := r.a1
  have h2 := r.a2
  have hl := r.l1
  simp only [Option.bind_some, A_len]
  unfold sendS
  simp only [condB]
  by_cases h3 : 200 ≤ a.f3.length
  · have : (a.f3.length : Int) = 200 := by omega
    simp [h3, this]
  · have h4 : ¬ (a.f3.length : Int) = 200 := by omega
    simp only [h3, h4, if_false, show (A a).f0 = a.f0 from rfl]
    by_cases h5 : a.f0 = 1099511627776
    · simp [h5]
    · have h6 : ¬ a.f0 ≥ 1099511627776 := by omega
      simp only [h5, h6, decide_false, cond_false, if_false]
      rw [appN (by simp only [A_len, List.length_nil]; omega), Option.bind_some, appN (by simp only [List.length_append, A_len, List.length_nil, List.length_cons]; omega), wrapI (x := a.f0 + 1) (by omega) (by omega)]
      simp [A, g1]
def g2 (p : S37) : S56 := ⟨p.f0, p.f1, p.f2⟩
theorem rtick_loop (K : Nat) (a : S24) (r : R a) : ∀ (k i : Nat) (acc : List S56), i ≤ (a.f3.take 8).length → (a.f3.take 8).length < k + i → acc.length = i → haywainref16_Tick.l10 K (A a) k (acc, i) = some (acc ++ (((a.f3.take 8).drop i).map (pk a)).map g2) := by
  intro k
  have hl : (a.f3.take 8).length ≤ 8 := by simp; omega
  have hb1 := r.b1
  have hb2 := r.b2
  have ht : (a.f3.take 8).length = min 8 a.f3.length := List.length_take
  induction k with
  | zero => intro i acc h3 h4 _; omega
  | succ k ih =>
    intro i acc h3 h4 hacc
    rw [haywainref16_Tick.l10]
    have e3 : (A a).f3 = a.f3.map g1 := rfl
    rw [e3]
    by_cases hi : i < (a.f3.take 8).length
    · have hi2 : i < a.f3.length := by omega
      have hx : a.f3[i]? = some a.f3[i] := List.getElem?_eq_getElem hi2
      have hlt : ((i : Int) < (a.f3.length : Int)) := by omega
      have hlt8 : ((i : Int) < 8) := by omega
      simp only [List.length_map, hlt, hlt8, decide_true, cond_true, idxM, hx, Option.map_some, Option.bind_some, show (A a).f1 = a.f1 from rfl]
      rw [appN (by simp only [List.length_cons, List.length_nil]; omega), wrapI (x := (i : Int) + 1) (by omega) (by omega), wrapI (x := a.f1 - 1) (by omega) (by omega)]
      have e : ((i : Int) + 1) = ((i + 1 : Nat) : Int) := by omega
      simp only [Option.bind_some]
      rw [e, ih (i + 1) _ hi (by omega) (by simp [hacc]), List.drop_eq_getElem_cons hi]
      simp [pk, g1, g2]
    · have : ¬ ((i : Int) < (a.f3.length : Int)) ∨ ¬ ((i : Int) < 8) := by omega
      have e4 : (a.f3.take 8).drop i = [] := List.drop_eq_nil_of_le (by omega)
      rw [e4]
      rcases this with h | h
      · simp [h]
      · simp [h]
theorem rtick_f {K : Nat} (hK : 1000 ≤ K) {a : S24} (hl : a.f3.length ≤ 300) : haywainref16_Tick.f K (A a) = some (A (tickS (own a)).1, (tickS (own a)).2.map g2) := by
  have r := own_R a
  rw [haywainref16_Tick.f, good_f hK hl]
  generalize own a = a at r
  have hb1 := r.b1
  have hb2 := r.b2
  have hc1 := r.c1
  have hc2 := r.c2
  have hl := r.l1
  simp only [Option.bind_some]
  have ht : (a.f3.take 8).length ≤ 8 := by simp; omega
  have e := rtick_loop K a r K 0 [] (Nat.zero_le _) (by omega) rfl
  rw [show haywainref16_Tick.l10 K (A a) K ([], 0) = _ from e]
  simp only [A_len, show (A a).f0 = a.f0 from rfl, show (A a).f1 = a.f1 from rfl, show (A a).f2 = a.f2 from rfl, show (A a).f4 = a.f4 from rfl, show (A a).f3 = a.f3.map g1 from rfl]
  rw [wrapI (x := a.f2 - 1) (by omega) (by omega), wrapI (x := a.f1 - 1) (by omega) (by omega)]
  unfold tickS
  by_cases h1 : 0 < a.f3.length
  · have h1' : (a.f3.length : Int) > 0 := by omega
    by_cases h2 : a.f2 = 0
    · simp [h1, h2, h1', condB, A]
    · have h3 : a.f2 > 0 := by omega
      cases h4 : a.f4 <;> simp [h1, h2, h1', condB, h3, h4, appO, A, g2]
  · have h1' : ¬ (a.f3.length : Int) > 0 := by omega
    by_cases h3 : a.f2 > 0
    · cases h4 : a.f4 <;> simp [h1, h1', condB, h3, h4, appO, A, g2]
    · cases h4 : a.f4 <;> simp [h1, h1', condB, h3, h4, appO, A, g2]
theorem samep_loop (K : Nat) (a : List S37) (hl : a.length ≤ 300) : ∀ (k i : Nat), i ≤ a.length → a.length < k + i → haywainlaw16_same.l2 K a (a.map g2) k i = some true := by
  intro k
  induction k with
  | zero => intro i h3 h4; omega
  | succ k ih =>
    intro i h3 h4
    rw [haywainlaw16_same.l2]
    by_cases hi : i < a.length
    · have hx : a[i]? = some a[i] := List.getElem?_eq_getElem hi
      have hlt : ((i : Int) < (a.length : Int)) := by omega
      simp only [hlt, decide_true, cond_true, idxN, List.getElem?_map, hx, Option.map_some, Option.bind_some]
      rw [wrapI (x := (i : Int) + 1) (by omega) (by omega)]
      have e : ((i : Int) + 1) = ((i + 1 : Nat) : Int) := by omega
      rw [e, ih (i + 1) hi (by omega)]
      simp [g2]
    · have hlt : ¬ ((i : Int) < (a.length : Int)) := by omega
      simp [hlt]
theorem samep_f {K : Nat} (hK : 1000 ≤ K) {a : List S37} (hl : a.length ≤ 300) : haywainlaw16_same.f K a (a.map g2) = some true := by
  rw [haywainlaw16_same.f, show (0 : Int) = ((0 : Nat) : Int) from rfl, samep_loop K a hl K 0 (Nat.zero_le _) (by omega)]
  simp
theorem tick_len {a : S24} : (tickS a).2.length ≤ 300 := by
  unfold tickS
  split
  · simp; omega
  · simp only; split <;> simp
theorem rtake_loop (K : Nat) (a : S24) (p : S37) (r : R a) : ∀ (k i : Nat) (acc : List S74) (v : Int), i ≤ a.f3.length → a.f3.length < k + i → acc.length ≤ i → v = (if 0 < min i (gone a p.f1) then 0 else a.f2) → acc = ((a.f3.take i).drop (gone a p.f1)).map g1 → haywainref16_Take.l15 K (g2 p) (A a) k (acc, i, v) = some ((a.f3.drop (gone a p.f1)).map g1, if 0 < gone a p.f1 then 0 else a.f2) := by
  intro k
  have hl := r.l1
  have hgl : gone a p.f1 ≤ a.f3.length := by unfold gone; omega
  induction k with
  | zero => intro i acc v h3 h4; omega
  | succ k ih =>
    intro i acc v h3 h4 hacc hv ha
    rw [haywainref16_Take.l15]
    have e3 : (A a).f3 = a.f3.map g1 := rfl
    rw [e3]
    by_cases hi : i < a.f3.length
    · have hx : a.f3[i]? = some a.f3[i] := List.getElem?_eq_getElem hi
      have hlt : ((i : Int) < (a.f3.length : Int)) := by omega
      have ho := r.ok i _ (Nat.zero_le _) hx
      simp only [List.length_map, hlt, decide_true, cond_true, idxM, hx, Option.map_some, Option.bind_some]
      rw [wrapI (x := (i : Int) + 1) (by omega) (by omega)]
      have e : ((i : Int) + 1) = ((i + 1 : Nat) : Int) := by omega
      rw [appN (by simp only [List.length_cons, List.length_nil]; omega), e]
      simp only [Option.bind_some]
      have et : a.f3.take (i + 1) = a.f3.take i ++ [a.f3[i]] := by rw [List.take_add_one, hx]; rfl
      by_cases hg : a.f3[i].f0 > p.f1
      · have hg2 : (g1 a.f3[i]).f0 > (g2 p).f1 := hg
        simp only [hg2, decide_true, cond_true]
        have h5 : gone a p.f1 ≤ i := by unfold gone; omega
        refine ih (i + 1) _ v hi (by omega) (by simp only [List.length_append, List.length_cons, List.length_nil]; omega) ?_ ?_
        · rw [hv, Nat.min_eq_right h5, Nat.min_eq_right (by omega)]
        · rw [et, ha, List.drop_append_of_le_length (by simp; omega)]
          simp
      · have hg2 : ¬ (g1 a.f3[i]).f0 > (g2 p).f1 := hg
        simp only [hg2, decide_false, cond_false]
        have h5 : i < gone a p.f1 := by unfold gone; omega
        refine ih (i + 1) _ 0 hi (by omega) (by omega) ?_ ?_
        · rw [Nat.min_eq_left (by omega)]; simp
        · rw [ha, List.drop_eq_nil_of_le (by simp; omega), List.drop_eq_nil_of_le (by simp; omega)]
    · have hlt : ¬ ((i : Int) < (a.f3.length : Int)) := by omega
      have : i = a.f3.length := by omega
      subst this
      simp [hlt, ha, hv, Nat.min_eq_right hgl]
theorem rtake_f {K : Nat} (hK : 1000 ≤ K) {a : S24} {p : S37} (hl : a.f3.length ≤ 300) : haywainref16_Take.f K (A a) (g2 p) = some (A (takeS (own a) p).1, (takeS (own a) p).2) := by
  have r := own_R a
  rw [haywainref16_Take.f, good_f hK hl]
  generalize own a = a at r
  have ha1 := r.a1
  have ha2 := r.a2
  have hb1 := r.b1
  have hb2 := r.b2
  have hl := r.l1
  simp only [Option.bind_some]
  have e := rtake_loop K a p r K 0 [] a.f2 (Nat.zero_le _) (by omega) (Nat.le_refl _) (by simp) (by simp)
  rw [show haywainref16_Take.l15 K (g2 p) (A a) K ([], 0, (A a).f2) = _ from e]
  simp only [A_len, show (A a).f0 = a.f0 from rfl, show (A a).f1 = a.f1 from rfl, show (A a).f2 = a.f2 from rfl, show (A a).f4 = a.f4 from rfl, show (A a).f3 = a.f3.map g1 from rfl, show (g2 p).f0 = p.f0 from rfl, show (g2 p).f1 = p.f1 from rfl, show (g2 p).f2 = p.f2 from rfl]
  rw [wrapI (x := a.f0 - 1) (by omega) (by omega), wrapI (x := a.f1 + 1) (by omega) (by omega)]
  unfold takeS
  generalize gone a p.f1 = g
  by_cases h1 : p.f0 < 0
  · simp [h1, A]
  by_cases h2 : p.f1 < 0
  · simp [h1, h2, A]
  by_cases h3 : p.f1 > a.f0 - 1
  · have h3' : a.f0 ≤ p.f1 := by omega
    simp [h1, h2, h3, h3', A]
  have h3' : ¬ a.f0 ≤ p.f1 := by omega
  simp only [h1, h2, h3, h3', decide_false, cond_false, Option.bind_some, or_self, if_false, condB, condN]
  by_cases h5 : p.f0 = 0
  · simp [h5, A]
  have h5' : p.f0 > 0 := by omega
  by_cases h6 : p.f0 = a.f1
  · have : ¬ a.f1 = 0 := by omega
    have : a.f1 > 0 := by omega
    by_cases h7 : a.f1 < 1099511627776
    · simp [h5, h5', h6, h7, *, A]
    · simp [h5, h5', h6, h7, *, A]
  · simp [h5, h5', h6, A]
theorem knows_f : haywainlaw16_knows.f 1000 = some true := by kernel_rfl
end Go.Proofs.Ytndccmilcffedaa.Pure
