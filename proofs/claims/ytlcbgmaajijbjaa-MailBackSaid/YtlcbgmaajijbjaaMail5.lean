/- Mails, in plain Lean: what the document's reader reads. -/
import Derived.Test.YtlcbgmaajijbjaaMail4
set_option linter.unusedVariables false
set_option linter.unusedSimpArgs false
namespace Go.Proofs.Ytlcbgmaajijbjaa.Pure
open Go Go.RowKit Go.Hw Go.Proofs.Ytlcbgmaajijbjaa.G
abbrev Z' : S34 := ⟨0, 0, 0, 0, 0, 0, 0, 0, [], [], [], ⟨0, 0, [], [], []⟩, []⟩
def fin : Option S29 → S34 × Bool
  | some m => (asM m, true)
  | none => (Z', false)
theorem Wl_drop : ∀ (i : Nat) (l : List Int), (Wl l).drop (8 * i) = Wl (l.drop i)
  | 0, l => rfl
  | i + 1, [] => by simp [Wl_nil]
  | i + 1, x :: l => by
    rw [Wl_cons, show 8 * (i + 1) = 8 + 8 * i by omega, ← List.drop_drop, drop8, Wl_drop i l]
    rfl
theorem take_loop {K : Nat} (hK : 2000 ≤ K) (l : List Int) (hl : Rl l) (hn : l.length ≤ 1000) : ∀ (k i : Nat) (acc : List Int), i ≤ l.length → l.length < k + i → acc.length ≤ i → haywainref15_Decode.l16 K (Wl l) k (acc, ((8 * i : Nat) : Int)) = some (acc ++ l.drop i) := by
  intro k
  induction k with
  | zero => intro i acc h1 h2; omega
  | succ k ih =>
    intro i acc h1 h2 h3
    rw [haywainref15_Decode.l16]
    have hlen := Wl_length l
    by_cases hi : i < l.length
    · have hlt : (((8 * i : Nat) : Int) < ((Wl l).length : Int)) := by omega
      have hw : IntKind.wrap .i64 (((8 * i : Nat) : Int) + 8) = ((8 * (i + 1) : Nat) : Int) := by rw [wrapI (by omega) (by omega)]; omega
      have c1 : cutO (Wl l) ((8 * i : Nat) : Int) ((Wl l).length : Int) = some (Wl (l.drop i)) := by rw [cutN (by omega), List.take_length, Wl_drop]
      have c2 : cutL (Wl l) (((8 * i : Nat) : Int).toNat) (((Wl l).length : Int).toNat) = Wl (l.drop i) := by simp only [cutL, Int.toNat_natCast, List.take_length]; exact Wl_drop i l
      have hR := hl _ (List.getElem_mem hi)
      have hd : l.drop i = l[i] :: l.drop (i + 1) := List.drop_eq_getElem_cons hi
      have hlen2 := Wl_length (l.drop i)
      rw [List.length_drop] at hlen2
      have hno : ¬ (Wl (l.drop i)).length < 8 := by omega
      have ht : haywainref02_TakeNum.f K (Wl (l.drop i)) = some (l[i], true) := by
        rw [rtakeNum_f (Wl_bytes _) (by omega), if_neg hno, hd, Wl_cons, take8, val_be8, wrap_back hR]
      simp only [condD, if_pos hlt, c1, c2, ht, Option.bind_some, hw]
      rw [appN (by simp only [List.length_cons, List.length_nil]; omega), Option.bind_some, ih (i + 1) _ hi (by omega) (by simp only [List.length_append, List.length_cons, List.length_nil]; omega), hd, List.append_assoc, List.singleton_append]
    · have hlt : ¬ (((8 * i : Nat) : Int) < ((Wl l).length : Int)) := by omega
      simp only [condD, if_neg hlt, List.drop_eq_nil_of_le (show l.length ≤ i by omega), List.append_nil]
def smS (b : Int) (l : List Int) : Int := match nm b l with
  | some (x, _) => x
  | none => -1
theorem small_f {K : Nat} {l : List Int} {i : Nat} {b : Int} : haywainref15_small.f K l (i : Int) b = some (smS b (l.drop i)) := by
  rw [haywainref15_small.f, haywainref15_at.f]
  have h0 : ¬ ((i : Int) < 0) := by omega
  simp only [condD, if_neg h0]
  by_cases hi : i < l.length
  · have hx : l[i]? = some l[i] := List.getElem?_eq_getElem hi
    have h1 : ¬ ((i : Int) ≥ (l.length : Int)) := by omega
    simp only [if_neg h1, idxN, hx, Option.bind_some]
    rw [List.drop_eq_getElem_cons hi]
    unfold smS nm
    by_cases a : l[i] < 0
    · have hno : ¬ (0 ≤ l[i] ∧ l[i] ≤ b) := by omega
      simp only [if_pos a, if_neg hno]
    · by_cases c : l[i] > b
      · have hno : ¬ (0 ≤ l[i] ∧ l[i] ≤ b) := by omega
        simp only [if_neg a, if_pos c, if_neg hno]
      · have hyes : (0 ≤ l[i] ∧ l[i] ≤ b) := by omega
        simp only [if_neg a, if_neg c, if_pos hyes]
  · have h1 : ((i : Int) ≥ (l.length : Int)) := by omega
    simp only [if_pos h1, Option.bind_some]
    rw [List.drop_eq_nil_of_le (by omega)]
    rfl
theorem sm_none {b : Int} {l : List Int} (h : nm b l = none) : smS b l = -1 := by unfold smS; rw [h]
theorem sm_some {b : Int} {l r : List Int} {x : Int} (h : nm b l = some (x, r)) : smS b l = x := by unfold smS; rw [h]
theorem nm_rest {b : Int} {l r : List Int} {x : Int} {i : Nat} (h : nm b (l.drop i) = some (x, r)) : r = l.drop (i + 1) ∧ 0 ≤ x ∧ x ≤ b := by
  obtain ⟨g, e⟩ := (nm_inv _ _ _ _).1 h
  refine ⟨?_, g⟩
  rw [← List.drop_drop, e]
  rfl
def smA (o : Option (List Int × List Int)) : List Int × Bool := match o with
  | some (xs, _) => (xs, true)
  | none => ([], false)
theorem rp_rest {l r xs : List Int} {i n : Nat} (h : rp (nm 1099511627776) n (l.drop i) = some (xs, r)) : r = l.drop (i + n) ∧ xs.length = n := by
  obtain ⟨⟨_, g⟩, e⟩ := (rpn _ _ _ _).1 h
  refine ⟨?_, g⟩
  rw [← List.drop_drop, e]
  simp only [id]
  rw [← g, List.drop_left]
theorem rsome_loop {K : Nat} (l : List Int) (fr n : Nat) (hf : fr ≤ 10000) (hn : n ≤ 1000) : ∀ (k i : Nat) (acc : List Int), i ≤ n → n < k + i → acc.length ≤ i →
    haywainref15_some.l1 K l fr n k (acc, (i : Int)) = some (match rp (nm 1099511627776) (n - i) (l.drop (fr + i)) with
      | some (xs, _) => (acc ++ xs, true)
      | none => ([], false)) := by
  intro k
  induction k with
  | zero => intro i acc h1 h2; omega
  | succ k ih =>
    intro i acc h1 h2 h3
    rw [haywainref15_some.l1]
    by_cases hi : i < n
    · have hlt : ((i : Int) < (n : Int)) := by omega
      have hw : IntKind.wrap .i64 ((fr : Int) + (i : Int)) = ((fr + i : Nat) : Int) := by rw [wrapI (by omega) (by omega)]; omega
      obtain ⟨j, hj⟩ : ∃ j, n - i = j + 1 := ⟨n - i - 1, by omega⟩
      have hj2 : n - (i + 1) = j := by omega
      simp only [condD, if_pos hlt, hw, small_f, Option.bind_some, step1 (show i < 1000000000 by omega)]
      rw [hj]
      show _ = some (match (nm 1099511627776 (l.drop (fr + i))).bind fun y => (rp (nm 1099511627776) j y.2).bind fun z => some (y.1 :: z.1, z.2) with
        | some (xs, _) => (acc ++ xs, true)
        | none => ([], false))
      cases hx : nm 1099511627776 (l.drop (fr + i)) with
      | none =>
        have : smS 1099511627776 (l.drop (fr + i)) < 0 := by rw [sm_none hx]; omega
        rw [if_pos this]
        rfl
      | some y =>
        obtain ⟨x, r⟩ := y
        obtain ⟨hr, g1, g2⟩ := nm_rest hx
        subst hr
        have : ¬ smS 1099511627776 (l.drop (fr + i)) < 0 := by rw [sm_some hx]; omega
        rw [if_neg this, sm_some hx, appN (by simp only [List.length_cons, List.length_nil]; omega), Option.bind_some, ih (i + 1) _ hi (by omega) (by simp only [List.length_append, List.length_cons, List.length_nil]; omega), hj2, ← Nat.add_assoc, Option.bind_some]
        simp only
        cases rp (nm 1099511627776) j (l.drop (fr + i + 1)) with
        | none => rfl
        | some z => simp only [Option.bind_some, List.append_assoc, List.singleton_append]
    · have hlt : ¬ ((i : Int) < (n : Int)) := by omega
      have hj : n - i = 0 := by omega
      simp only [condD, if_neg hlt, hj, rp, List.append_nil]
theorem rsome_f {K : Nat} (hK : 2000 ≤ K) {l : List Int} {fr n : Nat} (hf : fr ≤ 10000) (hn : n ≤ 1000) : haywainref15_some.f K l fr n = some (smA (rp (nm 1099511627776) n (l.drop fr))) := by
  have := rsome_loop (K := K) l fr n hf hn K 0 [] (by omega) (by omega) (by simp)
  rw [haywainref15_some.f, show (0 : Int) = ((0 : Nat) : Int) from rfl, this]
  rfl
def tkA (fr : Nat) (o : Option (List S77 × List Int)) : List S77 × Int × Bool := match o with
  | some (xs, _) => (xs, ((fr + 1 + 2 * xs.length : Nat) : Int), true)
  | none => ([], 0, false)
theorem rpm_rest {l r : List Int} {xs : List S77} {i n : Nat} (h : rp mg n (l.drop i) = some (xs, r)) : r = l.drop (i + 2 * n) ∧ xs.length = n ∧ (i ≤ l.length → i + 2 * n ≤ l.length) := by
  obtain ⟨⟨_, g⟩, e⟩ := (rp_inv mg_inv _ _ _ _).1 h
  have hl := mf_length xs
  have e' : l.drop i = mf xs ++ r := e
  refine ⟨?_, g, fun hi => ?_⟩
  · rw [← List.drop_drop, e', ← g, ← hl, List.drop_left]
  · have := congrArg List.length e'
    rw [List.length_drop, List.length_append, hl, g] at this
    omega
theorem taken_loop {K : Nat} (l : List Int) (fr n : Nat) (hf : fr ≤ 10000) (hn : n ≤ 1000) (hlen : fr + 1 + 2 * n ≤ l.length) : ∀ (k i : Nat) (acc : List S77), i ≤ n → n < k + i → acc.length ≤ i →
    haywainref15_taken.l3 K l fr n k (acc, (i : Int)) = some (match rp mg (n - i) (l.drop (fr + 1 + 2 * i)) with
      | some (xs, _) => (acc ++ xs, ((fr + 1 + 2 * n : Nat) : Int), true)
      | none => ([], 0, false)) := by
  intro k
  induction k with
  | zero => intro i acc h1 h2; omega
  | succ k ih =>
    intro i acc h1 h2 h3
    rw [haywainref15_taken.l3]
    have w1 : IntKind.wrap .i64 ((fr : Int) + 1) = ((fr + 1 : Nat) : Int) := by rw [wrapI (by omega) (by omega)]; omega
    by_cases hi : i < n
    · have hlt : ((i : Int) < (n : Int)) := by omega
      have w2 : IntKind.wrap .i64 (2 * (i : Int)) = ((2 * i : Nat) : Int) := by rw [wrapI (by omega) (by omega)]; omega
      have w3 : IntKind.wrap .i64 (((fr + 1 : Nat) : Int) + ((2 * i : Nat) : Int)) = ((fr + 1 + 2 * i : Nat) : Int) := by rw [wrapI (by omega) (by omega)]; omega
      have w4 : IntKind.wrap .i64 ((fr : Int) + 2) = ((fr + 2 : Nat) : Int) := by rw [wrapI (by omega) (by omega)]; omega
      have w5 : IntKind.wrap .i64 (((fr + 2 : Nat) : Int) + ((2 * i : Nat) : Int)) = ((fr + 1 + 2 * i + 1 : Nat) : Int) := by rw [wrapI (by omega) (by omega)]; omega
      obtain ⟨j, hj⟩ : ∃ j, n - i = j + 1 := ⟨n - i - 1, by omega⟩
      have hj2 : n - (i + 1) = j := by omega
      have hi2 : fr + 1 + 2 * i + 1 < l.length := by omega
      have hy : l[fr + 1 + 2 * i + 1]? = some l[fr + 1 + 2 * i + 1] := List.getElem?_eq_getElem hi2
      simp only [condD, if_pos hlt, w1, w2, w3, w4, w5, small_f, Option.bind_some, step1 (show i < 1000000000 by omega), idxN, hy]
      rw [hj]
      show _ = some (match (mg (l.drop (fr + 1 + 2 * i))).bind fun y => (rp mg j y.2).bind fun z => some (y.1 :: z.1, z.2) with
        | some (xs, _) => (acc ++ xs, ((fr + 1 + 2 * n : Nat) : Int), true)
        | none => ([], 0, false))
      cases hx : nm 1099511627776 (l.drop (fr + 1 + 2 * i)) with
      | none =>
        have : smS 1099511627776 (l.drop (fr + 1 + 2 * i)) < 0 := by rw [sm_none hx]; omega
        rw [if_pos this, mg, hx]
        rfl
      | some y =>
        obtain ⟨x, r⟩ := y
        obtain ⟨hr, g1, g2⟩ := nm_rest hx
        subst hr
        have hm : mg (l.drop (fr + 1 + 2 * i)) = some (⟨x, l[fr + 1 + 2 * i + 1]⟩, l.drop (fr + 1 + 2 * (i + 1))) := by
          rw [mg, hx, Option.bind_some]
          simp only
          rw [List.drop_eq_getElem_cons hi2]
          rfl
        have : ¬ smS 1099511627776 (l.drop (fr + 1 + 2 * i)) < 0 := by rw [sm_some hx]; omega
        rw [if_neg this, sm_some hx, appN (by simp only [List.length_cons, List.length_nil]; omega), Option.bind_some, ih (i + 1) _ hi (by omega) (by simp only [List.length_append, List.length_cons, List.length_nil]; omega), hj2, hm, Option.bind_some]
        simp only
        cases rp mg j (l.drop (fr + 1 + 2 * (i + 1))) with
        | none => rfl
        | some z => simp only [Option.bind_some, List.append_assoc, List.singleton_append]
    · have hlt : ¬ ((i : Int) < (n : Int)) := by omega
      have hj : n - i = 0 := by omega
      have w2 : IntKind.wrap .i64 (2 * (n : Int)) = ((2 * n : Nat) : Int) := by rw [wrapI (by omega) (by omega)]; omega
      have w3 : IntKind.wrap .i64 (((fr + 1 : Nat) : Int) + ((2 * n : Nat) : Int)) = ((fr + 1 + 2 * n : Nat) : Int) := by rw [wrapI (by omega) (by omega)]; omega
      simp only [condD, if_neg hlt, hj, rp, List.append_nil, w1, w2, w3]
theorem taken_f {K : Nat} (hK : 2000 ≤ K) {l : List Int} {fr : Nat} (hf : fr ≤ 10000) : haywainref15_taken.f K l fr = some (tkA fr (mgs (l.drop fr))) := by
  rw [haywainref15_taken.f, small_f, Option.bind_some, condD]
  cases hx : nm 24 (l.drop fr) with
  | none =>
    have : smS 24 (l.drop fr) < 0 := by rw [sm_none hx]; omega
    rw [if_pos this, mgs, hx]
    rfl
  | some y =>
    obtain ⟨x, r⟩ := y
    obtain ⟨hr, g1, g2⟩ := nm_rest hx
    subst hr
    obtain ⟨n, rfl⟩ : ∃ n : Nat, x = (n : Int) := ⟨x.toNat, by omega⟩
    have : ¬ smS 24 (l.drop fr) < 0 := by rw [sm_some hx]; omega
    have w1 : IntKind.wrap .i64 ((fr : Int) + 1) = ((fr + 1 : Nat) : Int) := by rw [wrapI (by omega) (by omega)]; omega
    have w2 : IntKind.wrap .i64 (2 * (n : Int)) = ((2 * n : Nat) : Int) := by rw [wrapI (by omega) (by omega)]; omega
    have w3 : IntKind.wrap .i64 (((fr + 1 : Nat) : Int) + ((2 * n : Nat) : Int)) = ((fr + 1 + 2 * n : Nat) : Int) := by rw [wrapI (by omega) (by omega)]; omega
    rw [if_neg this, sm_some hx, w1, w2, w3, condD]
    have hm : mgs (l.drop fr) = rp mg n (l.drop (fr + 1)) := by rw [mgs, hx]; rfl
    rw [hm]
    by_cases c : ((fr + 1 + 2 * n : Nat) : Int) > (l.length : Int)
    · rw [if_pos c]
      cases hq : rp mg n (l.drop (fr + 1)) with
      | none => rfl
      | some z =>
        obtain ⟨xs, r⟩ := z
        have hfl : fr < l.length := by
          rcases Nat.lt_or_ge fr l.length with h | h
          · exact h
          · rw [List.drop_eq_nil_of_le h] at hx; cases hx
        have := (rpm_rest hq).2.2 (by omega)
        omega
    · rw [if_neg c]
      have := taken_loop (K := K) l fr n hf (by omega) (by omega) K 0 [] (by omega) (by omega) (by simp)
      rw [show (0 : Int) = ((0 : Nat) : Int) from rfl, this]
      simp only [Nat.mul_zero, Nat.add_zero, Nat.sub_zero, List.nil_append]
      cases hq : rp mg n (l.drop (fr + 1)) with
      | none => rfl
      | some z =>
        obtain ⟨xs, r⟩ := z
        have := (rpm_rest hq).2.1
        simp only [tkA, this]
theorem bt_at {l : List Int} {j : Nat} (hj : j < l.length) : bt (l.drop j) = if l[j] = 0 ∨ l[j] = 1 then some (l[j] == 1, l.drop (j + 1)) else none := by
  rw [List.drop_eq_getElem_cons hj]
  show (Option.bind (if 0 ≤ l[j] ∧ l[j] ≤ 1 then some (l[j], l.drop (j + 1)) else none) fun y => some (y.1 == 1, y.2)) = _
  by_cases c : 0 ≤ l[j] ∧ l[j] ≤ 1
  · have c' : l[j] = 0 ∨ l[j] = 1 := by omega
    rw [if_pos c, if_pos c']
    rfl
  · have c' : ¬ (l[j] = 0 ∨ l[j] = 1) := by omega
    rw [if_neg c, if_neg c']
    rfl
theorem body_loop {K : Nat} (l : List Int) (fr n : Nat) (hf : fr ≤ 10000) (hn : n ≤ 1000) (hlen : fr + 3 + 2 * n ≤ l.length) : ∀ (k i : Nat) (av : List Int) (ar : List Bool), i ≤ n → n < k + i → av.length ≤ i → ar.length ≤ i →
    haywainref15_body.l19 K l fr n k ((i : Int), av, ar) = some (match rp bt (n - i) (l.drop (fr + 3 + n + i)) with
      | some (bs, _) => .inl (av ++ (l.drop (fr + 3 + i)).take (n - i), ar ++ bs)
      | none => .inr (Z', false)) := by
  intro k
  induction k with
  | zero => intro i av ar h1 h2; omega
  | succ k ih =>
    intro i av ar h1 h2 h3 h4
    rw [haywainref15_body.l19]
    by_cases hi : i < n
    · have hlt : ((i : Int) < (n : Int)) := by omega
      have w1 : IntKind.wrap .i64 ((fr : Int) + 3) = ((fr + 3 : Nat) : Int) := by rw [wrapI (by omega) (by omega)]; omega
      have w2 : IntKind.wrap .i64 (((fr + 3 : Nat) : Int) + (i : Int)) = ((fr + 3 + i : Nat) : Int) := by rw [wrapI (by omega) (by omega)]; omega
      have w3 : IntKind.wrap .i64 (((fr + 3 : Nat) : Int) + (n : Int)) = ((fr + 3 + n : Nat) : Int) := by rw [wrapI (by omega) (by omega)]; omega
      have w4 : IntKind.wrap .i64 (((fr + 3 + n : Nat) : Int) + (i : Int)) = ((fr + 3 + n + i : Nat) : Int) := by rw [wrapI (by omega) (by omega)]; omega
      obtain ⟨j, hj⟩ : ∃ j, n - i = j + 1 := ⟨n - i - 1, by omega⟩
      have hj2 : n - (i + 1) = j := by omega
      have hi1 : fr + 3 + i < l.length := by omega
      have hi2 : fr + 3 + n + i < l.length := by omega
      have hx : l[fr + 3 + i]? = some l[fr + 3 + i] := List.getElem?_eq_getElem hi1
      have hy : l[fr + 3 + n + i]? = some l[fr + 3 + n + i] := List.getElem?_eq_getElem hi2
      have tk : (l.drop (fr + 3 + i)).take (j + 1) = l[fr + 3 + i] :: (l.drop (fr + 3 + (i + 1))).take j := by rw [List.drop_eq_getElem_cons hi1]; rfl
      simp only [condD, condN, if_pos hlt, w1, w2, w3, w4, Option.bind_some, step1 (show i < 1000000000 by omega), idxN, hx, hy]
      rw [hj, appN (by simp only [List.length_cons, List.length_nil]; omega), Option.bind_some, appN (by simp only [List.length_cons, List.length_nil]; omega), Option.bind_some, tk]
      show _ = some (match (bt (l.drop (fr + 3 + n + i))).bind fun y => (rp bt j y.2).bind fun z => some (y.1 :: z.1, z.2) with
        | some (bs, _) => (Sum.inl (av ++ l[fr + 3 + i] :: (l.drop (fr + 3 + (i + 1))).take j, ar ++ bs) : (List Int × List Bool) ⊕ (S34 × Bool))
        | none => Sum.inr (Z', false))
      rw [bt_at hi2]
      have nxt := ih (i + 1) (av ++ [l[fr + 3 + i]]) (ar ++ [l[fr + 3 + n + i] == 1]) hi (by omega) (by simp only [List.length_append, List.length_cons, List.length_nil]; omega) (by simp only [List.length_append, List.length_cons, List.length_nil]; omega)
      rw [hj2] at nxt
      by_cases c0 : l[fr + 3 + n + i] = 0
      · rw [if_pos c0, if_pos (.inl c0), nxt, Option.bind_some]
        simp only [← Nat.add_assoc]
        cases rp bt j (l.drop (fr + 3 + n + i + 1)) with
        | none => rfl
        | some z => simp only [Option.bind_some, List.append_assoc, List.singleton_append]
      · by_cases c1 : l[fr + 3 + n + i] = 1
        · rw [if_neg c0, if_pos c1, if_pos (.inr c1), nxt, Option.bind_some]
          simp only [← Nat.add_assoc]
          cases rp bt j (l.drop (fr + 3 + n + i + 1)) with
          | none => rfl
          | some z => simp only [Option.bind_some, List.append_assoc, List.singleton_append]
        · have c2 : ¬ (l[fr + 3 + n + i] = 0 ∨ l[fr + 3 + n + i] = 1) := by omega
          rw [if_neg c0, if_neg c1, if_neg c2]
          rfl
    · have hlt : ¬ ((i : Int) < (n : Int)) := by omega
      have hj : n - i = 0 := by omega
      simp only [condD, if_neg hlt, hj, rp, List.take_zero, List.append_nil]
end Go.Proofs.Ytlcbgmaajijbjaa.Pure
