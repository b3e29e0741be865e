/- Disks, in plain Lean: what the document does to a disk, and that a disk stays right. -/
import Derived.Test.YtfgdceeceehmpaaDisk3
set_option linter.unusedVariables false
set_option linter.unusedSimpArgs false
namespace Go.Proofs.Ytfgdceeceehmpaa.Pure
open Go Go.RowKit Go.Hw Go.Proofs.Ytfgdceeceehmpaa.G
section
variable {K : Nat} {l : List S43} {n : ByteArray} (hl : l.length ≤ 1000) (hK : 2000 ≤ K)
include hl hK
theorem rput_f {b : List Int} (hb : b.length ≤ 1000000000) : haywainref13_Put.f K (A l) n b = some (A (putS (own l) n b).1, (putS (own l) n b).2) := by
  have hR := own_RD l
  have hlo := hR.len
  rw [haywainref13_Put.f, rgood_f hl hK]
  generalize own l = l at *
  simp only [Option.bind_some, condD, has_f (show l.length ≤ 1000 by omega) hK, rget_f (show l.length ≤ 1000 by omega) hK, safe_f (show l.length ≤ 1000 by omega) hK, lenA]
  unfold putS
  by_cases h1 : (n.size : Int) < 1
  · have hn : ¬ Nm n := fun h => by have := h.1; omega
    simp only [if_pos h1, if_pos hn]
  · by_cases h2 : (n.size : Int) > 16
    · have hn : ¬ Nm n := fun h => by have := h.2; omega
      simp only [if_neg h1, if_pos h2, if_pos hn]
    · have hn : ¬ ¬ Nm n := fun h => h ⟨by omega, by omega⟩
      simp only [if_neg h1, if_neg h2, if_neg hn]
      obtain ⟨p, m, q, e1, e2, e3, e, hp, hq, hm⟩ := split hR n.toList
      rw [e2]
      rcases hm with rfl | ⟨x, rfl, hk, ho⟩
      · simp only [List.head?_nil, Option.isSome_none, Bool.not_false, cond_true, Option.elim_none, condB, List.length_nil]
        by_cases c1 : l.length = 40
        · have c1' : (l.length : Int) = 40 := by omega
          have c1'' : l.length = 40 ∨ 20000 < b.length := .inl c1
          simp only [if_pos c1', if_pos c1'']
        · have c1' : ¬ (l.length : Int) = 40 := by omega
          by_cases c2 : 20000 < b.length
          · have c2' : (b.length : Int) > 20000 := by omega
            have c2'' : l.length = 40 ∨ 20000 < b.length := .inr c2
            simp only [if_neg c1', if_pos c2', if_pos c2'']
          · have c2' : ¬ (b.length : Int) > 20000 := by omega
            have c2'' : ¬ (l.length = 40 ∨ 20000 < b.length) := by omega
            have c3 : ¬ IntKind.wrap .i64 (((0 : Nat) : Int) + (b.length : Int)) > 20000 := by rw [wrapI (by omega) (by omega)]; omega
            simp only [if_neg c1', if_neg c2', if_neg c2'']
            refine (if_neg c3).trans ?_
            rw [appN (by simp only [List.length_nil]; omega), Option.bind_some, appN (by simp only [List.length_nil, List.length_append]; omega), Option.bind_some]
            have := with_f (K := K) (l := l) (f := ⟨n, b, 0⟩) (by omega) hK hR
            simp only [List.nil_append]
            rw [show (⟨n, b, 0⟩ : S39) = asF ⟨n, b, 0⟩ from rfl, this]
            rfl
      · have hnx : x.f0 = n := toList_inj hk
        obtain ⟨_, o1, o2, o3⟩ := ho
        simp only [List.head?_cons, Option.isSome_some, Bool.not_true, cond_false, Option.elim_some]
        by_cases c2 : 20000 < b.length
        · have c2' : (b.length : Int) > 20000 := by omega
          have c3 : 20000 < x.f1.length + b.length := by omega
          simp only [if_pos c2', if_pos c3]
        · have c2' : ¬ (b.length : Int) > 20000 := by omega
          simp only [if_neg c2']
          have hw : IntKind.wrap .i64 ((x.f1.length : Int) + (b.length : Int)) = (x.f1.length : Int) + (b.length : Int) := wrapI (by omega) (by omega)
          by_cases c3 : 20000 < x.f1.length + b.length
          · have c3' : IntKind.wrap .i64 ((x.f1.length : Int) + (b.length : Int)) > 20000 := by rw [hw]; omega
            rw [if_pos c3]
            exact if_pos c3'
          · have c3' : ¬ IntKind.wrap .i64 ((x.f1.length : Int) + (b.length : Int)) > 20000 := by rw [hw]; omega
            rw [if_neg c3]
            refine (if_neg c3').trans ?_
            rw [appN (by simp only [List.length_nil]; omega), Option.bind_some, appN (by simp only [List.length_nil, List.length_append]; omega), Option.bind_some]
            have := with_f (K := K) (l := l) (f := ⟨n, x.f1 ++ b, x.f2⟩) (by omega) hK hR
            simp only [List.nil_append]
            rw [show (⟨n, x.f1 ++ b, x.f2⟩ : S39) = asF ⟨n, x.f1 ++ b, x.f2⟩ from rfl, this, hnx]
            rfl
theorem rsync_f : haywainref13_Sync.f K (A l) n = some (A (syncS (own l) n).1, (syncS (own l) n).2) := by
  have hR := own_RD l
  have hlo := hR.len
  rw [haywainref13_Sync.f, rgood_f hl hK]
  generalize own l = l at *
  simp only [Option.bind_some, condD, has_f (show l.length ≤ 1000 by omega) hK, rget_f (show l.length ≤ 1000 by omega) hK]
  unfold syncS
  obtain ⟨p, m, q, e1, e2, e3, e, hp, hq, hm⟩ := split hR n.toList
  rw [e2]
  rcases hm with rfl | ⟨x, rfl, hk, ho⟩
  · rfl
  · have hnx : x.f0 = n := toList_inj hk
    have := with_f (K := K) (l := l) (f := ⟨n, x.f1, x.f1.length⟩) (by omega) hK hR
    simp only [List.head?_cons, Option.isSome_some, Bool.not_true, cond_false, Option.elim_some]
    rw [show (⟨n, x.f1, (x.f1.length : Int)⟩ : S39) = asF ⟨n, x.f1, x.f1.length⟩ from rfl, this, hnx]
    rfl
theorem rcut_f {c : Int} : haywainref13_Cut.f K (A l) n c = some (A (cutS (own l) n c).1, (cutS (own l) n c).2) := by
  have hR := own_RD l
  have hlo := hR.len
  rw [haywainref13_Cut.f, rgood_f hl hK]
  generalize own l = l at *
  simp only [Option.bind_some, condD, has_f (show l.length ≤ 1000 by omega) hK, rget_f (show l.length ≤ 1000 by omega) hK]
  unfold cutS
  obtain ⟨p, m, q, e1, e2, e3, e, hp, hq, hm⟩ := split hR n.toList
  rw [e2]
  rcases hm with rfl | ⟨x, rfl, hk, ho⟩
  · rfl
  · have hnx : x.f0 = n := toList_inj hk
    simp only [List.head?_cons, Option.isSome_some, Bool.not_true, cond_false, Option.elim_some]
    by_cases c1 : c < 0
    · have c1' : c < 0 ∨ (x.f1.length : Int) < c := .inl c1
      simp only [if_pos c1, if_pos c1']
    · by_cases c2 : c > (x.f1.length : Int)
      · have c1' : c < 0 ∨ (x.f1.length : Int) < c := .inr c2
        rw [if_neg c1, if_pos c1']
        exact if_pos c2
      · have c1' : ¬ (c < 0 ∨ (x.f1.length : Int) < c) := by omega
        rw [if_neg c1, if_neg c1']
        refine (if_neg c2).trans ?_
        obtain ⟨c, rfl⟩ : ∃ d : Nat, c = (d : Int) := ⟨c.toNat, by omega⟩
        have k1 : cutO x.f1 0 (c : Int) = some (x.f1.take c) := (cutN (xs := x.f1) (lo := 0) (hi := c) (by omega)).trans (by simp)
        have k2 : cutL x.f1 ((0 : Int).toNat) ((c : Int).toNat) = x.f1.take c := by simp [cutL]
        have := with_f (K := K) (l := l) (f := ⟨n, x.f1.take c, c⟩) (by omega) hK hR
        rw [k1, k2]
        simp only [Option.bind_some, Int.toNat_natCast]
        rw [show (⟨n, x.f1.take c, (c : Int)⟩ : S39) = asF ⟨n, x.f1.take c, c⟩ from rfl, this, hnx]
        rfl
omit hl hK in
theorem rdrop_loop (l : List S43) (n : ByteArray) (hl : l.length ≤ 1000000) : ∀ (k i : Nat) (acc : List S39), i ≤ l.length → l.length < k + i → acc.length ≤ i → haywainref13_Drop.l2 K n (A l) k (acc, (i : Int)) = some (acc ++ A ((l.drop i).filter (fun x => !(key x == n.toList))), 0) := by
  intro k
  induction k with
  | zero => intro i acc h1 h2; omega
  | succ k ih =>
    intro i acc h1 h2 h3
    rw [haywainref13_Drop.l2]
    by_cases hi : i < l.length
    · have hx : l[i]? = some l[i] := List.getElem?_eq_getElem hi
      have hlt : ((i : Int) < (l.length : Int)) := by omega
      simp only [lenA, condD, if_pos hlt, idxA, hx, Option.map_some, Option.bind_some, step1 (show i < 1000000000 by omega)]
      rw [List.drop_eq_getElem_cons hi, List.filter_cons]
      have e1 : ((asF l[i]).f0.toList == n.toList) = (key l[i] == n.toList) := rfl
      rw [e1]
      cases (key l[i] == n.toList)
      · simp only [Bool.not_false, cond_true, if_true]
        rw [appN (by simp only [List.length_cons, List.length_nil]; omega), Option.bind_some, ih (i + 1) _ hi (by omega) (by simp only [List.length_append, List.length_cons, List.length_nil]; omega), A_cons]
        simp only [List.append_assoc, List.singleton_append]
      · simp only [Bool.not_true, cond_false, if_false, Bool.false_eq_true]
        rw [ih (i + 1) _ hi (by omega) (by omega)]
    · have hlt : ¬ ((i : Int) < (l.length : Int)) := by omega
      simp only [lenA, condD, if_neg hlt, List.drop_eq_nil_of_le (show l.length ≤ i by omega), List.filter_nil, A_nil, List.append_nil]
theorem rdrop_f : haywainref13_Drop.f K (A l) n = some (A (dropS (own l) n).1, (dropS (own l) n).2) := by
  have hR := own_RD l
  have hlo := hR.len
  rw [haywainref13_Drop.f, rgood_f hl hK]
  generalize own l = l at *
  simp only [Option.bind_some, condD, has_f (show l.length ≤ 1000 by omega) hK]
  unfold dropS
  obtain ⟨p, m, q, e1, e2, e3, e, hp, hq, hm⟩ := split hR n.toList
  rw [e2]
  rcases hm with rfl | ⟨x, rfl, hk, ho⟩
  · rfl
  · simp only [List.head?_cons, Option.isSome_some, Bool.not_true, cond_false]
    have := rdrop_loop (K := K) l n (by omega) K 0 [] (by omega) (by omega) (by simp)
    rw [show (0 : Int) = ((0 : Nat) : Int) from rfl, this, List.drop_zero, List.nil_append, e1, e3]
    have : l.filter (fun x => !(key x == n.toList)) = p ++ q := by
      rw [e, List.filter_append, List.filter_append]
      have : ([x] : List S43).filter (fun x => !(key x == n.toList)) = [] := by simp [hk]
      rw [this, List.append_nil, List.filter_eq_self.2 (fun y hy => by simpa using bl_ne (hp y hy)), List.filter_eq_self.2 (fun y hy => by simpa using (bl_ne (hq y hy)).symm)]
    rw [this]
    rfl
end
theorem take_next {α : Type} {l : List α} {j : Nat} (h : j < l.length) : l.take j ++ [l[j]] = l.take (j + 1) := by simp
theorem kept_lt {x : S43} (ho : okF x) {k : Option Int} {j : Nat} (hj : j < x.f1.length) : j < kept x k ↔ ((j : Int) < x.f2 ∨ ∃ v, k = some v ∧ (j : Int) - x.f2 < v) := by
  obtain ⟨_, o1, o2, o3⟩ := ho
  unfold kept
  cases k with
  | none =>
    have : ¬ ∃ v, (none : Option Int) = some v ∧ (j : Int) - x.f2 < v := by rintro ⟨v, h, _⟩; cases h
    simp only [this, or_false]
    omega
  | some v =>
    have : (∃ w, some v = some w ∧ (j : Int) - x.f2 < w) ↔ (j : Int) - x.f2 < v := ⟨fun ⟨w, h, k⟩ => by cases h; exact k, fun h => ⟨v, rfl, h⟩⟩
    simp only [this]
    by_cases c1 : (x.f1.length : Int) - x.f2 < v
    · simp only [if_pos c1]
      by_cases c2 : (x.f1.length : Int) - x.f2 > 0
      · simp only [if_pos c2]; omega
      · simp only [if_neg c2]; omega
    · simp only [if_neg c1]
      by_cases c2 : v > 0
      · simp only [if_pos c2]; omega
      · simp only [if_neg c2]; omega
theorem crash_inner (K : Nat) (l : List S43) (keep : List Int) (hkl : keep.length ≤ 1000000) (acc : List S39) {i : Nat} {x : S43} (hx : l[i]? = some x) (ho : okF x) : ∀ (k j : Nat), j ≤ x.f1.length → x.f1.length < k + j →
    haywainref13_Crash.l157 K keep (acc, (i : Int)) (A l) k ((j : Int), x.f1.take (min j (kept x keep[i]?))) = some (x.f1.take (kept x keep[i]?)) := by
  obtain ⟨k1, k2⟩ := kept_le ho keep[i]?
  have ho' := ho
  obtain ⟨_, o1, o2, o3⟩ := ho'
  intro k
  induction k with
  | zero => intro j h1 h2; omega
  | succ k ih =>
    intro j h1 h2
    rw [haywainref13_Crash.l157]
    simp only [idxA, hx, Option.map_some, Option.bind_some, condD, asF]
    by_cases hj : j < x.f1.length
    · have hlt : ((j : Int) < (x.f1.length : Int)) := by omega
      have hy : x.f1[j]? = some x.f1[j] := List.getElem?_eq_getElem hj
      have hlt2 := kept_lt ho hj (k := keep[i]?)
      simp only [if_pos hlt, step1 (show j < 1000000000 by omega), idxN, hy, Option.bind_some]
      by_cases c : j < kept x keep[i]?
      · have m1 : min j (kept x keep[i]?) = j := by omega
        have m2 : min (j + 1) (kept x keep[i]?) = j + 1 := by omega
        have nxt := ih (j + 1) hj (by omega)
        rw [m2] at nxt
        have ha : appO 1 (x.f1.take j) [x.f1[j]] = some (x.f1.take (j + 1)) := by rw [appN (by simp only [List.length_take, List.length_cons, List.length_nil]; omega), take_next hj]
        rw [m1, ha, take_next hj]
        simp only [Option.bind_some, nxt]
        rcases hlt2.1 c with d | ⟨v, d1, d2⟩
        · rw [if_pos d]
        · have hil : i < keep.length := by
            rcases Nat.lt_or_ge i keep.length with h | h
            · exact h
            · rw [List.getElem?_eq_none h] at d1; cases d1
          have hil' : (i : Int) < (keep.length : Int) := by omega
          rw [if_pos hil', d1]
          simp only [Option.bind_some]
          rw [wrapI (by omega) (by omega), if_pos d2]
          split <;> rfl
      · have m1 : min j (kept x keep[i]?) = kept x keep[i]? := by omega
        have m2 : min (j + 1) (kept x keep[i]?) = kept x keep[i]? := by omega
        have nxt := ih (j + 1) hj (by omega)
        rw [m2] at nxt
        have hno := fun h => c (hlt2.2 h)
        have d1 : ¬ (j : Int) < x.f2 := fun h => hno (.inl h)
        rw [m1, if_neg d1]
        simp only [nxt]
        by_cases hil : i < keep.length
        · have hil' : (i : Int) < (keep.length : Int) := by omega
          have hv : keep[i]? = some keep[i] := List.getElem?_eq_getElem hil
          rw [if_pos hil', hv, Option.bind_some, wrapI (by omega) (by omega)]
          have d2 : ¬ (j : Int) - x.f2 < keep[i] := fun h => hno (.inr ⟨_, hv, h⟩)
          rw [if_neg d2]
        · have hil' : ¬ (i : Int) < (keep.length : Int) := by omega
          rw [if_neg hil']
    · have hlt : ¬ ((j : Int) < (x.f1.length : Int)) := by omega
      have m1 : min j (kept x keep[i]?) = kept x keep[i]? := by omega
      rw [if_neg hlt, m1]
theorem rcrash_loop {K : Nat} (hK : 30000 ≤ K) {l : List S43} (hR : RD l) {keep : List Int} (hkl : keep.length ≤ 1000000) : ∀ (k i : Nat) (acc : List S39), i ≤ l.length → l.length < k + i → acc.length ≤ i → haywainref13_Crash.l1 K keep (A l) k (acc, (i : Int)) = some (acc ++ A (crashS (l.drop i) (keep.drop i))) := by
  have hlo := hR.len
  intro k
  induction k with
  | zero => intro i acc h1 h2; omega
  | succ k ih =>
    intro i acc h1 h2 h3
    rw [haywainref13_Crash.l1]
    by_cases hi : i < l.length
    · have hx : l[i]? = some l[i] := List.getElem?_eq_getElem hi
      have ho := hR.ok _ (List.getElem_mem hi)
      have hlt : ((i : Int) < (l.length : Int)) := by omega
      have hin := crash_inner K l keep hkl acc hx ho K 0 (by omega) (by have := ho.2.1; omega)
      have hkd : (keep.drop i)[0]? = keep[i]? := by rw [List.getElem?_drop, Nat.add_zero]
      have kl := (kept_le ho keep[i]?).2
      simp only [Nat.zero_min, List.take_zero] at hin
      simp only [lenA, condD, if_pos hlt, idxA, hx, Option.map_some, Option.bind_some, step1 (show i < 1000000000 by omega)]
      rw [show (0 : Int) = ((0 : Nat) : Int) from rfl, hin]
      simp only [Option.bind_some]
      rw [appN (by simp only [List.length_cons, List.length_nil]; omega), Option.bind_some, Option.bind_some, ih (i + 1) _ hi (by omega) (by simp only [List.length_append, List.length_cons, List.length_nil]; omega), List.drop_eq_getElem_cons hi, crashS, A_cons, hkd, List.tail_drop]
      have : asF (crashF l[i] keep[i]?) = ⟨(asF l[i]).f0, l[i].f1.take (kept l[i] keep[i]?), ((l[i].f1.take (kept l[i] keep[i]?)).length : Int)⟩ := by
        simp only [asF, crashF, List.length_take]
        rw [Nat.min_eq_left kl]
      rw [this]
      simp only [List.append_assoc, List.singleton_append]
    · have hlt : ¬ ((i : Int) < (l.length : Int)) := by omega
      simp only [lenA, condD, if_neg hlt, List.drop_eq_nil_of_le (show l.length ≤ i by omega), crashS, A_nil, List.append_nil]
theorem rcrash_f {K : Nat} {l : List S43} (hl : l.length ≤ 1000) (hK : 30000 ≤ K) {keep : List Int} (hkl : keep.length ≤ 1000000) : haywainref13_Crash.f K (A l) keep = some (A (crashS (own l) keep)) := by
  have hR := own_RD l
  have hlo := hR.len
  rw [haywainref13_Crash.f, rgood_f hl (by omega)]
  generalize own l = l at *
  have := rcrash_loop hK hR hkl K 0 [] (by omega) (by omega) (by simp)
  rw [Option.bind_some, show (0 : Int) = ((0 : Nat) : Int) from rfl, this]
  rfl
theorem same_loop (K : Nat) (l : List S43) (hl : l.length ≤ 1000000) : ∀ (k i : Nat), i ≤ l.length → l.length < k + i → haywainref13_Same.l2 K (A l) (A l) k (i : Int) = some true := by
  intro k
  induction k with
  | zero => intro i h1 h2; omega
  | succ k ih =>
    intro i h1 h2
    rw [haywainref13_Same.l2]
    by_cases hi : i < l.length
    · have hx : l[i]? = some l[i] := List.getElem?_eq_getElem hi
      have hlt : ((i : Int) < (l.length : Int)) := by omega
      simp only [lenA, condD, if_pos hlt, idxA, hx, Option.map_some, Option.bind_some, step1 (show i < 1000000000 by omega), ih (i + 1) hi (by omega), beq_self_eq_true, Bool.not_true, cond_false, condN, if_true]
    · have hlt : ¬ ((i : Int) < (l.length : Int)) := by omega
      simp only [lenA, condD, if_neg hlt]
theorem same_f {K : Nat} {l : List S43} (hl : l.length ≤ 1000) (hK : 2000 ≤ K) : haywainref13_Same.f K (A l) (A l) = some true := by
  have := same_loop K l (by omega) K 0 (by omega) (by omega)
  rw [haywainref13_Same.f, condN, if_pos rfl, show (0 : Int) = ((0 : Nat) : Int) from rfl, this]
theorem great_loop (K : Nat) (l : List S43) (hl : l.length ≤ 1000000) : ∀ (k i : Nat), i ≤ l.length → l.length < k + i → ∃ g, haywainlaw13_great.l2 K ⟨l⟩ k (i : Int) = some g := by
  intro k
  induction k with
  | zero => intro i h1 h2; omega
  | succ k ih =>
    intro i h1 h2
    rw [haywainlaw13_great.l2]
    by_cases hi : i < l.length
    · have hx : l[i]? = some l[i] := List.getElem?_eq_getElem hi
      have hlt : ((i : Int) < (l.length : Int)) := by omega
      simp only [condD, if_pos hlt, idxN, hx, Option.bind_some, step1 (show i < 1000000000 by omega)]
      split
      · exact ⟨_, rfl⟩
      · split
        · exact ⟨_, rfl⟩
        · exact ih (i + 1) hi (by omega)
    · have hlt : ¬ ((i : Int) < (l.length : Int)) := by omega
      simp only [condD, if_neg hlt]
      exact ⟨_, rfl⟩
theorem great_f {K : Nat} (hK : 2000 ≤ K) (l : List S43) : ∃ g, haywainlaw13_great.f K ⟨l⟩ = some g ∧ (g = false → l.length ≤ 100) := by
  rw [haywainlaw13_great.f, condD]
  by_cases h : (l.length : Int) > 100
  · rw [if_pos h]
    exact ⟨true, rfl, fun h => by cases h⟩
  · rw [if_neg h]
    obtain ⟨g, hg⟩ := great_loop K l (by omega) K 0 (by omega) (by omega)
    exact ⟨g, hg, fun _ => by omega⟩
/-! A disk stays right. -/
theorem key_of {x : S43} {n : ByteArray} (h : x.f0 = n) : key x = n.toList := congrArg _ h
theorem RD_repl {l : List S43} (h : RD l) {n : ByteArray} {x : S43} (hk : key x = n.toList) (hx : okF x) (hm : mi n.toList l = [] → l.length < 40) : RD (repl l n x) := by
  obtain ⟨p, m, q, e1, e2, e3, e, hp, hq, hc⟩ := split h n.toList
  have hlen := congrArg List.length e
  simp only [List.length_append] at hlen
  have hl := h.len
  refine RD_join h (.inr ⟨x, rfl, hk, hx⟩) ?_
  rw [e1, e3, List.length_singleton]
  rcases hc with rfl | ⟨y, rfl, _⟩
  · have := hm e2
    simp only [List.length_nil] at hlen
    omega
  · simp only [List.length_singleton] at hlen
    omega
theorem mi_ok {l : List S43} (h : RD l) {n : List UInt8} {x : S43} {r : List S43} (e : mi n l = x :: r) : key x = n ∧ okF x :=
  ⟨mi_key (l := l) (by rw [e]; exact List.mem_cons_self), h.ok _ (mi_mem (n := n) (by rw [e]; exact List.mem_cons_self))⟩
theorem RD_put {l : List S43} (h : RD l) (n : ByteArray) (b : List Int) : RD (putS l n b).1 := by
  unfold putS
  by_cases hn : Nm n
  · have hnn : ¬ ¬ Nm n := fun k => k hn
    rw [if_neg hnn]
    have hl := h.len
    split
    · rename_i e
      by_cases c : l.length = 40 ∨ 20000 < b.length
      · rw [if_pos c]; exact h
      · rw [if_neg c]
        exact RD_repl h rfl ⟨hn, by show b.length ≤ 20000; omega, Int.le_refl 0, by show (0 : Int) ≤ (b.length : Int); omega⟩ (fun _ => by omega)
    · rename_i x r e
      by_cases c : 20000 < x.f1.length + b.length
      · rw [if_pos c]; exact h
      · rw [if_neg c]
        obtain ⟨hk, ho⟩ := mi_ok h e
        refine RD_repl h hk ⟨ho.1, ?_, ho.2.2.1, ?_⟩ (fun k => by rw [e] at k; cases k)
        · show (x.f1 ++ b).length ≤ 20000
          rw [List.length_append]; omega
        · show x.f2 ≤ ((x.f1 ++ b).length : Int)
          have := ho.2.2.2
          rw [List.length_append]; omega
  · rw [if_pos hn]; exact h
theorem RD_sync {l : List S43} (h : RD l) (n : ByteArray) : RD (syncS l n).1 := by
  unfold syncS
  split
  · exact h
  · rename_i x r e
    obtain ⟨hk, ho⟩ := mi_ok h e
    exact RD_repl h hk ⟨ho.1, ho.2.1, by show (0 : Int) ≤ (x.f1.length : Int); omega, Int.le_refl _⟩ (fun k => by rw [e] at k; cases k)
theorem RD_cut {l : List S43} (h : RD l) (n : ByteArray) (c : Int) : RD (cutS l n c).1 := by
  unfold cutS
  split
  · exact h
  · rename_i x r e
    obtain ⟨hk, ho⟩ := mi_ok h e
    by_cases c1 : c < 0 ∨ (x.f1.length : Int) < c
    · rw [if_pos c1]; exact h
    · rw [if_neg c1]
      have o1 := ho.2.1
      refine RD_repl h hk ⟨ho.1, ?_, ?_, ?_⟩ (fun k => by rw [e] at k; cases k)
      · show (x.f1.take c.toNat).length ≤ 20000
        rw [List.length_take]; omega
      · show 0 ≤ c
        omega
      · show c ≤ ((x.f1.take c.toNat).length : Int)
        rw [List.length_take]; omega
theorem RD_drop {l : List S43} (h : RD l) (n : ByteArray) : RD (dropS l n).1 := by
  unfold dropS
  split
  · exact h
  · have h1 := RD_join h (n := n.toList) (m := []) (.inl rfl) (by
      have hl := h.len
      have hlen := congrArg List.length (parts h.srt n.toList).1
      simp only [List.length_append] at hlen
      simp only [List.length_nil]
      omega)
    rwa [List.append_nil] at h1
theorem crash_ok {x : S43} (ho : okF x) (k : Option Int) : okF (crashF x k) := by
  obtain ⟨k1, k2⟩ := kept_le ho k
  have o1 := ho.2.1
  refine ⟨ho.1, ?_, ?_, ?_⟩
  · show (x.f1.take (kept x k)).length ≤ 20000
    rw [List.length_take]; omega
  · show (0 : Int) ≤ ((kept x k : Nat) : Int)
    omega
  · show ((kept x k : Nat) : Int) ≤ ((x.f1.take (kept x k)).length : Int)
    rw [List.length_take]; omega
theorem crash_mem : ∀ {l : List S43} {k : List Int} {y : S43}, y ∈ crashS l k → ∃ x ∈ l, ∃ v, y = crashF x v
  | [], _, y, h => by simp [crashS] at h
  | x :: l, k, y, h => by
    rw [crashS, List.mem_cons] at h
    rcases h with h | h
    · exact ⟨x, List.mem_cons_self, _, h⟩
    · obtain ⟨z, hz, v, e⟩ := crash_mem h
      exact ⟨z, List.mem_cons_of_mem _ hz, v, e⟩
theorem crash_srt : ∀ {l : List S43} {k : List Int}, Srt l → Srt (crashS l k)
  | [], _, h => List.Pairwise.nil
  | x :: l, k, h => by
    obtain ⟨h1, h2⟩ := List.pairwise_cons.1 h
    rw [crashS]
    refine List.pairwise_cons.2 ⟨fun y hy => ?_, crash_srt h2⟩
    obtain ⟨z, hz, v, rfl⟩ := crash_mem hy
    exact h1 z hz
theorem RD_crash {l : List S43} (h : RD l) (k : List Int) : RD (crashS l k) :=
  ⟨by rw [crash_len]; exact h.len, crash_srt h.srt, fun y hy => by obtain ⟨x, hx, v, rfl⟩ := crash_mem hy; exact crash_ok (h.ok x hx) v⟩
end Go.Proofs.Ytfgdceeceehmpaa.Pure
