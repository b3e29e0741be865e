/- Disks: the document's (first part). -/
import Derived.Test.YtkcpbehgjbionaaDiskP
set_option linter.unusedVariables false
set_option linter.unusedSimpArgs false
namespace Go.Proofs.Ytkcpbehgjbionaa.Pure
open Go Go.RowKit Go.Hw Go.Proofs.Ytkcpbehgjbionaa.G
def asF (x : S70) : S85 := ⟨x.f0, x.f1, x.f2⟩
def A (l : List S70) : List S85 := l.map asF
theorem A_nil : A [] = [] := rfl
theorem A_cons (x : S70) (l : List S70) : A (x :: l) = asF x :: A l := rfl
theorem A_append (l m : List S70) : A (l ++ m) = A l ++ A m := List.map_append
theorem idxA {l : List S70} {i : Nat} : idxO (A l) (i : Int) = (l[i]?).map asF := by rw [idxN, A, List.getElem?_map]
theorem lenA (l : List S70) : (A l).length = l.length := List.length_map _
theorem rright_loop (K : Nat) (l : List S70) (hl : l.length ≤ 1000000) : ∀ (k i : Nat) (ok : Bool) (b : List UInt8), ((i = 0 ∧ b = []) ∨ ∃ x, 0 < i ∧ l[i - 1]? = some x ∧ b = key x) → i ≤ l.length → l.length < k + i → haywainref13_Right.l1 K (A l) k (ok, (i : Int)) = some (ok && decide (Ch b (l.drop i))) := by
  intro k
  induction k with
  | zero => intro i ok b hb h1 h2; omega
  | succ k ih =>
    intro i ok b hb h1 h2
    rw [haywainref13_Right.l1]
    by_cases hi : i < l.length
    · have hx : l[i]? = some l[i] := List.getElem?_eq_getElem hi
      have hlt : ((i : Int) < (l.length : Int)) := by omega
      have nxt : ∀ o, haywainref13_Right.l1 K (A l) k (o, ((i + 1 : Nat) : Int)) = some (o && decide (Ch (key l[i]) (l.drop (i + 1)))) := fun o =>
        ih (i + 1) o (key l[i]) (.inr ⟨l[i], by omega, by rw [Nat.add_sub_cancel]; exact hx, rfl⟩) hi (by omega)
      simp only [lenA, condD, if_pos hlt, idxA, hx, Option.map_some, Option.bind_some, step1 (show i < 1000000000 by omega), nxt, asF]
      rw [List.drop_eq_getElem_cons hi]
      cases ok with
      | false => simp
      | true =>
        simp only [cond_true, Bool.true_and, Bool.false_and]
        by_cases a1 : (l[i].f0.size : Int) > 0
        · by_cases a2 : (l[i].f0.size : Int) ≤ 16
          · by_cases a3 : (l[i].f1.length : Int) ≤ 20000
            · by_cases a4 : l[i].f2 ≥ 0
              · by_cases a5 : l[i].f2 ≤ (l[i].f1.length : Int)
                · simp only [if_pos a1, if_pos a2, if_pos a3, if_pos a4, if_pos a5, condB]
                  have fin : ∀ {c : Bool}, (c = true ↔ bl b (key l[i])) → some (c && decide (Ch (key l[i]) (l.drop (i + 1)))) = some (decide (Ch b (l[i] :: l.drop (i + 1)))) := by
                    intro c hc
                    congr 1
                    cases c with
                    | false =>
                      have : ¬ Ch b (l[i] :: l.drop (i + 1)) := fun h => by have := hc.2 h.2.1; simp at this
                      rw [decide_eq_false this]; rfl
                    | true =>
                      rw [Bool.true_and]
                      apply decide_eq_decide.2
                      exact ⟨fun h => ⟨⟨by omega, by omega⟩, hc.1 rfl, by omega, a4, a5, h⟩, fun h => h.2.2.2.2.2⟩
                  rcases hb with ⟨h0, hb⟩ | ⟨x, h0, hp, hb⟩
                  · have h0' : (i : Int) = 0 := by omega
                    rw [if_pos h0']
                    refine fin (c := true) ⟨fun _ => ?_, fun _ => rfl⟩
                    rw [hb, bl_nil]
                    intro e
                    have := toList_size l[i].f0
                    rw [show l[i].f0.toList = [] from e] at this
                    simp only [List.length_nil] at this
                    omega
                  · have h0' : ¬ (i : Int) = 0 := by omega
                    have hw : IntKind.wrap .i64 ((i : Int) - 1) = ((i - 1 : Nat) : Int) := by rw [wrapI (by omega) (by omega)]; omega
                    rw [if_neg h0', hw, idxA, hp]
                    simp only [Option.map_some, Option.bind_some, asF]
                    exact fin (by rw [hb])
                · have : ¬ Ch b (l[i] :: l.drop (i + 1)) := fun h => a5 h.2.2.2.2.1
                  simp only [if_pos a1, if_pos a2, if_pos a3, if_pos a4, if_neg a5, decide_eq_false this]
              · have : ¬ Ch b (l[i] :: l.drop (i + 1)) := fun h => a4 h.2.2.2.1
                simp only [if_pos a1, if_pos a2, if_pos a3, if_neg a4, decide_eq_false this]
            · have : ¬ Ch b (l[i] :: l.drop (i + 1)) := fun h => a3 (by have := h.2.2.1; omega)
              simp only [if_pos a1, if_pos a2, if_neg a3, decide_eq_false this]
          · have : ¬ Ch b (l[i] :: l.drop (i + 1)) := fun h => a2 (by have := h.1.2; omega)
            simp only [if_pos a1, if_neg a2, decide_eq_false this]
        · have : ¬ Ch b (l[i] :: l.drop (i + 1)) := fun h => a1 (by have := h.1.1; omega)
          simp only [if_neg a1, decide_eq_false this]
    · have hlt : ¬ ((i : Int) < (l.length : Int)) := by omega
      simp only [lenA, condD, if_neg hlt, List.drop_eq_nil_of_le (show l.length ≤ i by omega), Ch, decide_true, Bool.and_true]
theorem rright_f {K : Nat} {l : List S70} (hl : l.length ≤ 1000) (hK : 2000 ≤ K) : haywainref13_Right.f K (A l) = some (decide (RD l)) := by
  have := rright_loop K l (by omega) K 0 (decide ((l.length : Int) ≤ 40)) [] (.inl ⟨rfl, rfl⟩) (by omega) (by omega)
  rw [haywainref13_Right.f, lenA, show (0 : Int) = ((0 : Nat) : Int) from rfl, this, List.drop_zero]
  congr 1
  rw [← Bool.decide_and]
  apply decide_eq_decide.2
  rw [RD_iff, and_comm]
  have : (l.length : Int) ≤ 40 ↔ l.length ≤ 40 := by omega
  rw [this]
theorem rgood_f {K : Nat} {l : List S70} (hl : l.length ≤ 1000) (hK : 2000 ≤ K) : haywainref13_Good.f K (A l) = some (A (own l)) := by
  rw [haywainref13_Good.f, rright_f hl hK]
  unfold own
  by_cases h : RD l
  · simp only [Option.bind_some, decide_eq_true h, if_pos h, cond_true]
  · simp only [Option.bind_some, decide_eq_false h, if_neg h, cond_false]; rfl
theorem as_loop (K : Nat) (l : List S70) (hl : l.length ≤ 1000000) : ∀ (k i : Nat) (acc : List S85), i ≤ l.length → l.length < k + i → acc.length ≤ i → haywainlaw13_As.l1 K ⟨l⟩ k (acc, (i : Int)) = some (acc ++ A (l.drop i)) := by
  intro k
  induction k with
  | zero => intro i acc h1 h2; omega
  | succ k ih =>
    intro i acc h1 h2 h3
    rw [haywainlaw13_As.l1]
    by_cases hi : i < l.length
    · have hx : l[i]? = some l[i] := List.getElem?_eq_getElem hi
      have hlt : ((i : Int) < (l.length : Int)) := by omega
      simp only [condD, if_pos hlt, idxN, hx, Option.bind_some, step1 (show i < 1000000000 by omega)]
      rw [appN (by simp only [List.length_cons, List.length_nil]; omega), Option.bind_some, ih (i + 1) _ hi (by omega) (by simp only [List.length_append, List.length_cons, List.length_nil]; omega), List.drop_eq_getElem_cons hi, A_cons]
      simp only [List.append_assoc, List.singleton_append]
      rfl
    · have hlt : ¬ ((i : Int) < (l.length : Int)) := by omega
      simp only [condD, if_neg hlt, List.drop_eq_nil_of_le (show l.length ≤ i by omega), A_nil, List.append_nil]
theorem as_f {K : Nat} {l : List S70} (hl : l.length ≤ 1000) (hK : 2000 ≤ K) : haywainlaw13_As.f K ⟨l⟩ = some (A l) := by
  have := as_loop K l (by omega) K 0 [] (by omega) (by omega) (by simp)
  rw [haywainlaw13_As.f, show (0 : Int) = ((0 : Nat) : Int) from rfl, this]
  rfl
theorem has_loop (K : Nat) (l : List S70) (n : ByteArray) (hl : l.length ≤ 1000000) : ∀ (k i : Nat), i ≤ l.length → l.length < k + i → haywainref13_Has.l1 K (A l) n k (i : Int) = some ((l.drop i).find? (fun x => key x == n.toList)).isSome := by
  intro k
  induction k with
  | zero => intro i h1 h2; omega
  | succ k ih =>
    intro i h1 h2
    rw [haywainref13_Has.l1]
    by_cases hi : i < l.length
    · have hx : l[i]? = some l[i] := List.getElem?_eq_getElem hi
      have hlt : ((i : Int) < (l.length : Int)) := by omega
      simp only [lenA, condD, if_pos hlt, idxA, hx, Option.map_some, Option.bind_some, step1 (show i < 1000000000 by omega), ih (i + 1) hi (by omega), asF]
      rw [List.drop_eq_getElem_cons hi, List.find?_cons]
      cases (l[i].f0.toList == n.toList) <;> rfl
    · have hlt : ¬ ((i : Int) < (l.length : Int)) := by omega
      simp only [lenA, condD, if_neg hlt, List.drop_eq_nil_of_le (show l.length ≤ i by omega)]
      rfl
theorem rget_loop (K : Nat) (l : List S70) (n : ByteArray) (hl : l.length ≤ 1000000) : ∀ (k i : Nat), i ≤ l.length → l.length < k + i → haywainref13_Get.l1 K (A l) n k (i : Int) = some (((l.drop i).find? (fun x => key x == n.toList)).elim [] (·.f1)) := by
  intro k
  induction k with
  | zero => intro i h1 h2; omega
  | succ k ih =>
    intro i h1 h2
    rw [haywainref13_Get.l1]
    by_cases hi : i < l.length
    · have hx : l[i]? = some l[i] := List.getElem?_eq_getElem hi
      have hlt : ((i : Int) < (l.length : Int)) := by omega
      simp only [lenA, condD, if_pos hlt, idxA, hx, Option.map_some, Option.bind_some, step1 (show i < 1000000000 by omega), ih (i + 1) hi (by omega), asF]
      rw [List.drop_eq_getElem_cons hi, List.find?_cons]
      cases (l[i].f0.toList == n.toList) <;> rfl
    · have hlt : ¬ ((i : Int) < (l.length : Int)) := by omega
      simp only [lenA, condD, if_neg hlt, List.drop_eq_nil_of_le (show l.length ≤ i by omega)]
      rfl
theorem safe_loop (K : Nat) (l : List S70) (n : ByteArray) (hl : l.length ≤ 1000000) : ∀ (k i : Nat), i ≤ l.length → l.length < k + i → haywainref13_safe.l1 K (A l) n k (i : Int) = some (((l.drop i).find? (fun x => key x == n.toList)).elim 0 (·.f2)) := by
  intro k
  induction k with
  | zero => intro i h1 h2; omega
  | succ k ih =>
    intro i h1 h2
    rw [haywainref13_safe.l1]
    by_cases hi : i < l.length
    · have hx : l[i]? = some l[i] := List.getElem?_eq_getElem hi
      have hlt : ((i : Int) < (l.length : Int)) := by omega
      simp only [lenA, condD, if_pos hlt, idxA, hx, Option.map_some, Option.bind_some, step1 (show i < 1000000000 by omega), ih (i + 1) hi (by omega), asF]
      rw [List.drop_eq_getElem_cons hi, List.find?_cons]
      cases (l[i].f0.toList == n.toList) <;> rfl
    · have hlt : ¬ ((i : Int) < (l.length : Int)) := by omega
      simp only [lenA, condD, if_neg hlt, List.drop_eq_nil_of_le (show l.length ≤ i by omega)]
      rfl
theorem find_mi (l : List S70) (n : List UInt8) : l.find? (fun x => key x == n) = (mi n l).head? := List.head?_filter.symm
section
variable {K : Nat} {l : List S70} {n : ByteArray} (hl : l.length ≤ 1000) (hK : 2000 ≤ K)
include hl hK
theorem has_f : haywainref13_Has.f K (A l) n = some (mi n.toList l).head?.isSome := by
  have := has_loop K l n (by omega) K 0 (by omega) (by omega)
  rw [haywainref13_Has.f, show (0 : Int) = ((0 : Nat) : Int) from rfl, this, List.drop_zero, find_mi]
theorem rget_f : haywainref13_Get.f K (A l) n = some ((mi n.toList l).head?.elim [] (·.f1)) := by
  have := rget_loop K l n (by omega) K 0 (by omega) (by omega)
  rw [haywainref13_Get.f, show (0 : Int) = ((0 : Nat) : Int) from rfl, this, List.drop_zero, find_mi]
theorem safe_f : haywainref13_safe.f K (A l) n = some ((mi n.toList l).head?.elim 0 (·.f2)) := by
  have := safe_loop K l n (by omega) K 0 (by omega) (by omega)
  rw [List.drop_zero, find_mi] at this
  exact this
end
/-- A disk with a file in the place of the one of its name, read from the left. -/
def wL (n : List UInt8) (f : S70) : List S70 → Bool → List S70 × Bool
  | [], put => ([], put)
  | x :: r, put => (((if !put && !(Op.bytesLess (key x) n) then [f] else []) ++ (if key x == n then [] else [x])) ++ (wL n f r (put || !(Op.bytesLess (key x) n))).1, (wL n f r (put || !(Op.bytesLess (key x) n))).2)
theorem with_loop (K : Nat) (l : List S70) (f : S70) (hl : l.length ≤ 1000000) : ∀ (k i : Nat) (acc : List S85) (put : Bool), i ≤ l.length → l.length < k + i → acc.length ≤ 2 * i → haywainref13_with.l23 K (A l) (asF f) k (acc, put, (i : Int)) = some (acc ++ A (wL (key f) f (l.drop i) put).1, (wL (key f) f (l.drop i) put).2) := by
  intro k
  induction k with
  | zero => intro i acc put h1 h2; omega
  | succ k ih =>
    intro i acc put h1 h2 h3
    rw [haywainref13_with.l23]
    by_cases hi : i < l.length
    · have hx : l[i]? = some l[i] := List.getElem?_eq_getElem hi
      have hlt : ((i : Int) < (l.length : Int)) := by omega
      simp only [lenA, condD, if_pos hlt, idxA, hx, Option.map_some, Option.bind_some, step1 (show i < 1000000000 by omega)]
      rw [List.drop_eq_getElem_cons hi]
      have n1 : ∀ a p, a.length ≤ 2 * i + 2 → haywainref13_with.l23 K (A l) (asF f) k (a, p, ((i + 1 : Nat) : Int)) = some (a ++ A (wL (key f) f (l.drop (i + 1)) p).1, (wL (key f) f (l.drop (i + 1)) p).2) := fun a p ha => ih (i + 1) a p hi (by omega) (by omega)
      have e1 : ((asF l[i]).f0.toList == (asF f).f0.toList) = (key l[i] == key f) := rfl
      have e2 : Op.bytesLess (asF l[i]).f0.toList (asF f).f0.toList = Op.bytesLess (key l[i]) (key f) := rfl
      simp only [e1, e2, wL]
      cases put <;> cases Op.bytesLess (key l[i]) (key f) <;> cases (key l[i] == key f) <;>
        simp only [Bool.not_true, Bool.not_false, cond_true, cond_false, Bool.or_true, Bool.or_false, Bool.and_true, Bool.and_false, Bool.false_and, Bool.true_and, Bool.false_or, Bool.true_or, if_true, if_false, Option.bind_some, Bool.false_eq_true, List.nil_append, List.append_nil] <;>
        (try rw [appN (by simp only [List.length_cons, List.length_nil]; omega)]) <;> (try simp only [Option.bind_some]) <;>
        (try rw [appN (by simp only [List.length_append, List.length_cons, List.length_nil]; omega)]) <;> (try simp only [Option.bind_some]) <;>
        (rw [n1 _ _ (by (try simp only [List.length_append, List.length_cons, List.length_nil]); omega)]) <;> (try simp only [A_append, A_cons, A_nil, List.append_assoc, List.singleton_append, List.cons_append, List.nil_append])
    · have hlt : ¬ ((i : Int) < (l.length : Int)) := by omega
      simp only [lenA, condD, if_neg hlt, List.drop_eq_nil_of_le (show l.length ≤ i by omega), wL, A_nil, List.append_nil]
theorem wL_skip {n : List UInt8} {f : S70} : ∀ {p q : List S70}, (∀ x ∈ p, bl (key x) n) → wL n f (p ++ q) false = (p ++ (wL n f q false).1, (wL n f q false).2)
  | [], q, _ => by simp
  | x :: p, q, h => by
    have h1 : Op.bytesLess (key x) n = true := h x List.mem_cons_self
    have h2 : (key x == n) = false := by simpa using bl_ne h1
    rw [List.cons_append, wL]
    simp only [h1, h2, Bool.not_true, Bool.and_false, Bool.or_false, Bool.false_eq_true, if_false, List.nil_append, List.singleton_append, List.cons_append]
    rw [wL_skip (fun y hy => h y (List.mem_cons_of_mem _ hy))]
theorem wL_rest {n : List UInt8} {f : S70} : ∀ {q : List S70}, (∀ x ∈ q, bl n (key x)) → wL n f q true = (q, true)
  | [], _ => rfl
  | x :: q, h => by
    have h2 : (key x == n) = false := by simpa using (bl_ne (h x List.mem_cons_self)).symm
    rw [wL, Bool.true_or, wL_rest (fun y hy => h y (List.mem_cons_of_mem _ hy))]
    simp only [h2, Bool.not_true, Bool.false_and, Bool.false_eq_true, if_false, List.nil_append, List.singleton_append]
theorem with_f {K : Nat} {l : List S70} {f : S70} (hl : l.length ≤ 1000) (hK : 2000 ≤ K) (hR : RD l) : haywainref13_with.f K (A l) (asF f) = some (A (repl l f.f0 f)) := by
  have := with_loop K l f (by omega) K 0 [] false (by omega) (by omega) (by simp)
  rw [haywainref13_with.f, show (0 : Int) = ((0 : Nat) : Int) from rfl, this, List.drop_zero]
  obtain ⟨p, m, q, e1, e2, e3, e, hp, hq, hm⟩ := split hR f.f0.toList
  have hlen := congrArg List.length e
  simp only [List.length_append] at hlen
  unfold repl
  rw [e1, e3]
  simp only [Option.bind_some, List.nil_append]
  rcases hm with rfl | ⟨x, rfl, hk, _⟩
  · rw [List.append_nil] at e
    rw [e, wL_skip hp]
    cases q with
    | nil =>
      simp only [wL, List.append_nil, Bool.not_false, cond_true]
      rw [appN (by rw [lenA]; simp only [List.length_cons, List.length_nil]; omega), Option.bind_some, A_append]
      rfl
    | cons y q =>
      have hy := hq y List.mem_cons_self
      have h2 : (key y == key f) = false := by simpa using (bl_ne hy).symm
      have h3 : Op.bytesLess (key y) (key f) = false := ff (bl_asymm hy)
      rw [wL, show key f = f.f0.toList from rfl] at *
      simp only [h2, h3, Bool.not_false, Bool.false_or, Bool.and_true, Bool.false_eq_true, if_true, if_false]
      rw [wL_rest (fun z hz => hq z (List.mem_cons_of_mem _ hz))]
      simp only [Bool.not_true, cond_false, List.append_assoc, List.singleton_append, List.cons_append, List.nil_append]
  · rw [e, List.append_assoc, wL_skip hp, List.singleton_append, wL]
    have h2 : (key x == key f) = true := by simpa using hk
    have h3 : Op.bytesLess (key x) (key f) = false := ff (by rw [hk]; exact bl_irrefl _)
    simp only [h2, h3, Bool.not_false, Bool.false_or, Bool.and_true, Bool.false_eq_true, if_true, if_false]
    rw [wL_rest hq]
    simp only [Bool.not_true, cond_false, List.append_assoc, List.singleton_append, List.append_nil]
end Go.Proofs.Ytkcpbehgjbionaa.Pure
