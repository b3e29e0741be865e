/- Disks: the document's (second part). -/
import Derived.Test.YtkcpbehgjbionaaDiskR
set_option linter.unusedVariables false
set_option linter.unusedSimpArgs false
namespace Go.Proofs.Ytkcpbehgjbionaa.Pure
open Go Go.RowKit Go.Hw Go.Proofs.Ytkcpbehgjbionaa.G
section
variable {K : Nat} {l : List S70} {n : ByteArray} (hl : l.length ≤ 1000) (hK : 2000 ≤ K)
include hl hK
theorem rput_f {b : List Int} (hb : b.length ≤ 1000000000) : haywainref13_Put.f K (A l) n b = some (A (putS (own l) n b).1, (putS (own l) n b).2) := by
  have hR := own_RD l
  have hlo := hR.len
  rw [haywainref13_Put.f, rgood_f hl hK]
  generalize own l = l at *
  simp only [Option.bind_some, condD, has_f (show l.length ≤ 1000 by omega) hK, rget_f (show l.length ≤ 1000 by omega) hK, safe_f (show l.length ≤ 1000 by omega) hK, lenA]
  unfold putS
  by_cases h1 : (n.size : Int) < 1
  · have hn : ¬ Nm n := fun h => by have := h.1; omega
    simp only [if_pos h1, if_pos hn]
  · by_cases h2 : (n.size : Int) > 16
    · have hn : ¬ Nm n := fun h => by have := h.2; omega
      simp only [if_neg h1, if_pos h2, if_pos hn]
    · have hn : ¬ ¬ Nm n := fun h => h ⟨by omega, by omega⟩
      simp only [if_neg h1, if_neg h2, if_neg hn]
      obtain ⟨p, m, q, e1, e2, e3, e, hp, hq, hm⟩ := split hR n.toList
      rw [e2]
      rcases hm with rfl | ⟨x, rfl, hk, ho⟩
      · simp only [List.head?_nil, Option.isSome_none, Bool.not_false, cond_true, Option.elim_none, condB, List.length_nil]
        by_cases c1 : l.length = 40
        · have c1' : (l.length : Int) = 40 := by omega
          have c1'' : l.length = 40 ∨ 20000 < b.length := .inl c1
          simp only [if_pos c1', if_pos c1'']
        · have c1' : ¬ (l.length : Int) = 40 := by omega
          by_cases c2 : 20000 < b.length
          · have c2' : (b.length : Int) > 20000 := by omega
            have c2'' : l.length = 40 ∨ 20000 < b.length := .inr c2
            simp only [if_neg c1', if_pos c2', if_pos c2'']
          · have c2' : ¬ (b.length : Int) > 20000 := by omega
            have c2'' : ¬ (l.length = 40 ∨ 20000 < b.length) := by omega
            have c3 : ¬ IntKind.wrap .i64 (((0 : Nat) : Int) + (b.length : Int)) > 20000 := by rw [wrapI (by omega) (by omega)]; omega
            simp only [if_neg c1', if_neg c2', if_neg c2'']
            refine (if_neg c3).trans ?_
            rw [appN (by simp only [List.length_nil]; omega), Option.bind_some, appN (by simp only [List.length_nil, List.length_append]; omega), Option.bind_some]
            have := with_f (K := K) (l := l) (f := ⟨n, b, 0⟩) (by omega) hK hR
            simp only [List.nil_append]
            rw [show (⟨n, b, 0⟩ : S85) = asF ⟨n, b, 0⟩ from rfl, this]
            rfl
      · have hnx : x.f0 = n := toList_inj hk
        obtain ⟨_, o1, o2, o3⟩ := ho
        simp only [List.head?_cons, Option.isSome_some, Bool.not_true, cond_false, Option.elim_some]
        by_cases c2 : 20000 < b.length
        · have c2' : (b.length : Int) > 20000 := by omega
          have c3 : 20000 < x.f1.length + b.length := by omega
          simp only [if_pos c2', if_pos c3]
        · have c2' : ¬ (b.length : Int) > 20000 := by omega
          simp only [if_neg c2']
          have hw : IntKind.wrap .i64 ((x.f1.length : Int) + (b.length : Int)) = (x.f1.length : Int) + (b.length : Int) := wrapI (by omega) (by omega)
          by_cases c3 : 20000 < x.f1.length + b.length
          · have c3' : IntKind.wrap .i64 ((x.f1.length : Int) + (b.length : Int)) > 20000 := by rw [hw]; omega
            rw [if_pos c3]
            exact if_pos c3'
          · have c3' : ¬ IntKind.wrap .i64 ((x.f1.length : Int) + (b.length : Int)) > 20000 := by rw [hw]; omega
            rw [if_neg c3]
            refine (if_neg c3').trans ?_
            rw [appN (by simp only [List.length_nil]; omega), Option.bind_some, appN (by simp only [List.length_nil, List.length_append]; omega), Option.bind_some]
            have := with_f (K := K) (l := l) (f := ⟨n, x.f1 ++ b, x.f2⟩) (by omega) hK hR
            simp only [List.nil_append]
            rw [show (⟨n, x.f1 ++ b, x.f2⟩ : S85) = asF ⟨n, x.f1 ++ b, x.f2⟩ from rfl, this, hnx]
            rfl
theorem rsync_f : haywainref13_Sync.f K (A l) n = some (A (syncS (own l) n).1, (syncS (own l) n).2) := by
  have hR := own_RD l
  have hlo := hR.len
  rw [haywainref13_Sync.f, rgood_f hl hK]
  generalize own l = l at *
  simp only [Option.bind_some, condD, has_f (show l.length ≤ 1000 by omega) hK, rget_f (show l.length ≤ 1000 by omega) hK]
  unfold syncS
  obtain ⟨p, m, q, e1, e2, e3, e, hp, hq, hm⟩ := split hR n.toList
  rw [e2]
  rcases hm with rfl | ⟨x, rfl, hk, ho⟩
  · rfl
  · have hnx : x.f0 = n := toList_inj hk
    have := with_f (K := K) (l := l) (f := ⟨n, x.f1, x.f1.length⟩) (by omega) hK hR
    simp only [List.head?_cons, Option.isSome_some, Bool.not_true, cond_false, Option.elim_some]
    rw [show (⟨n, x.f1, (x.f1.length : Int)⟩ : S85) = asF ⟨n, x.f1, x.f1.length⟩ from rfl, this, hnx]
    rfl
theorem rcut_f {c : Int} : haywainref13_Cut.f K (A l) n c = some (A (cutS (own l) n c).1, (cutS (own l) n c).2) := by
  have hR := own_RD l
  have hlo := hR.len
  rw [haywainref13_Cut.f, rgood_f hl hK]
  generalize own l = l at *
  simp only [Option.bind_some, condD, has_f (show l.length ≤ 1000 by omega) hK, rget_f (show l.length ≤ 1000 by omega) hK]
  unfold cutS
  obtain ⟨p, m, q, e1, e2, e3, e, hp, hq, hm⟩ := split hR n.toList
  rw [e2]
  rcases hm with rfl | ⟨x, rfl, hk, ho⟩
  · rfl
  · have hnx : x.f0 = n := toList_inj hk
    simp only [List.head?_cons, Option.isSome_some, Bool.not_true, cond_false, Option.elim_some]
    by_cases c1 : c < 0
    · have c1' : c < 0 ∨ (x.f1.length : Int) < c := .inl c1
      simp only [if_pos c1, if_pos c1']
    · by_cases c2 : c > (x.f1.length : Int)
      · have c1' : c < 0 ∨ (x.f1.length : Int) < c := .inr c2
        rw [if_neg c1, if_pos c1']
        exact if_pos c2
      · have c1' : ¬ (c < 0 ∨ (x.f1.length : Int) < c) := by omega
        rw [if_neg c1, if_neg c1']
        refine (if_neg c2).trans ?_
        obtain ⟨c, rfl⟩ : ∃ d : Nat, c = (d : Int) := ⟨c.toNat, by omega⟩
        have k1 : cutO x.f1 0 (c : Int) = some (x.f1.take c) := (cutN (xs := x.f1) (lo := 0) (hi := c) (by omega)).trans (by simp)
        have k2 : cutL x.f1 ((0 : Int).toNat) ((c : Int).toNat) = x.f1.take c := by simp [cutL]
        have := with_f (K := K) (l := l) (f := ⟨n, x.f1.take c, c⟩) (by omega) hK hR
        rw [k1, k2]
        simp only [Option.bind_some, Int.toNat_natCast]
        rw [show (⟨n, x.f1.take c, (c : Int)⟩ : S85) = asF ⟨n, x.f1.take c, c⟩ from rfl, this, hnx]
        rfl
omit hl hK in
theorem rdrop_loop (l : List S70) (n : ByteArray) (hl : l.length ≤ 1000000) : ∀ (k i : Nat) (acc : List S85), i ≤ l.length → l.length < k + i → acc.length ≤ i → haywainref13_Drop.l2 K n (A l) k (acc, (i : Int)) = some (acc ++ A ((l.drop i).filter (fun x => !(key x == n.toList))), 0) := by
  intro k
  induction k with
  | zero => intro i acc h1 h2; omega
  | succ k ih =>
    intro i acc h1 h2 h3
    rw [haywainref13_Drop.l2]
    by_cases hi : i < l.length
    · have hx : l[i]? = some l[i] := List.getElem?_eq_getElem hi
      have hlt : ((i : Int) < (l.length : Int)) := by omega
      simp only [lenA, condD, if_pos hlt, idxA, hx, Option.map_some, Option.bind_some, step1 (show i < 1000000000 by omega)]
      rw [List.drop_eq_getElem_cons hi, List.filter_cons]
      have e1 : ((asF l[i]).f0.toList == n.toList) = (key l[i] == n.toList) := rfl
      rw [e1]
      cases (key l[i] == n.toList)
      · simp only [Bool.not_false, cond_true, if_true]
        rw [appN (by simp only [List.length_cons, List.length_nil]; omega), Option.bind_some, ih (i + 1) _ hi (by omega) (by simp only [List.length_append, List.length_cons, List.length_nil]; omega), A_cons]
        simp only [List.append_assoc, List.singleton_append]
      · simp only [Bool.not_true, cond_false, if_false, Bool.false_eq_true]
        rw [ih (i + 1) _ hi (by omega) (by omega)]
    · have hlt : ¬ ((i : Int) < (l.length : Int)) := by omega
      simp only [lenA, condD, if_neg hlt, List.drop_eq_nil_of_le (show l.length ≤ i by omega), List.filter_nil, A_nil, List.append_nil]
theorem rdrop_f : haywainref13_Drop.f K (A l) n = some (A (dropS (own l) n).1, (dropS (own l) n).2) := by
  have hR := own_RD l
  have hlo := hR.len
  rw [haywainref13_Drop.f, rgood_f hl hK]
  generalize own l = l at *
  simp only [Option.bind_some, condD, has_f (show l.length ≤ 1000 by omega) hK]
  unfold dropS
  obtain ⟨p, m, q, e1, e2, e3, e, hp, hq, hm⟩ := split hR n.toList
  rw [e2]
  rcases hm with rfl | ⟨x, rfl, hk, ho⟩
  · rfl
  · simp only [List.head?_cons, Option.isSome_some, Bool.not_true, cond_false]
    have := rdrop_loop (K := K) l n (by omega) K 0 [] (by omega) (by omega) (by simp)
    rw [show (0 : Int) = ((0 : Nat) : Int) from rfl, this, List.drop_zero, List.nil_append, e1, e3]
    have : l.filter (fun x => !(key x == n.toList)) = p ++ q := by
      rw [e, List.filter_append, List.filter_append]
      have : ([x] : List S70).filter (fun x => !(key x == n.toList)) = [] := by simp [hk]
      rw [this, List.append_nil, List.filter_eq_self.2 (fun y hy => by simpa using bl_ne (hp y hy)), List.filter_eq_self.2 (fun y hy => by simpa using (bl_ne (hq y hy)).symm)]
    rw [this]
    rfl
end
theorem same_loop (K : Nat) (l : List S70) (hl : l.length ≤ 1000000) : ∀ (k i : Nat), i ≤ l.length → l.length < k + i → haywainref13_Same.l2 K (A l) (A l) k (i : Int) = some true := by
  intro k
  induction k with
  | zero => intro i h1 h2; omega
  | succ k ih =>
    intro i h1 h2
    rw [haywainref13_Same.l2]
    by_cases hi : i < l.length
    · have hx : l[i]? = some l[i] := List.getElem?_eq_getElem hi
      have hlt : ((i : Int) < (l.length : Int)) := by omega
      simp only [lenA, condD, if_pos hlt, idxA, hx, Option.map_some, Option.bind_some, step1 (show i < 1000000000 by omega), ih (i + 1) hi (by omega), beq_self_eq_true, Bool.not_true, cond_false, condN, if_true]
    · have hlt : ¬ ((i : Int) < (l.length : Int)) := by omega
      simp only [lenA, condD, if_neg hlt]
theorem same_f {K : Nat} {l : List S70} (hl : l.length ≤ 1000) (hK : 2000 ≤ K) : haywainref13_Same.f K (A l) (A l) = some true := by
  have := same_loop K l (by omega) K 0 (by omega) (by omega)
  rw [haywainref13_Same.f, condN, if_pos rfl, show (0 : Int) = ((0 : Nat) : Int) from rfl, this]
end Go.Proofs.Ytkcpbehgjbionaa.Pure
