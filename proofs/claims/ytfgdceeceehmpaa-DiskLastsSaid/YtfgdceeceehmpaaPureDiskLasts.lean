/- What the law DiskLasts asks of plain Lean. -/
import Derived.Test.YtfgdceeceehmpaaDisk5
import Derived.Test.YtfgdceeceehmpaaLDiskLasts
set_option linter.unusedVariables false
set_option linter.unusedSimpArgs false
namespace Go.Proofs.Ytfgdceeceehmpaa.Pure
open Go Go.RowKit Go.Hw Go.Proofs.Ytfgdceeceehmpaa.G
theorem crash_get : ∀ (l : List S43) (k : List Int) (i : Nat), (crashS l k)[i]? = (l[i]?).map (fun x => crashF x k[i]?)
  | [], k, i => by simp [crashS]
  | x :: l, k, 0 => by simp [crashS]
  | x :: l, k, i + 1 => by
    rw [crashS, List.getElem?_cons_succ, List.getElem?_cons_succ, crash_get l k.tail i]
    simp
theorem again_F {x : S43} (ho : okF x) (k j : Option Int) : crashF (crashF x k) j = crashF x k := by
  obtain ⟨k1, k2⟩ := kept_le ho k
  obtain ⟨j1, j2⟩ := kept_le (crash_ok ho k) j
  have e1 : (crashF x k).f1.length = kept x k := by
    show (x.f1.take (kept x k)).length = _
    rw [List.length_take]; omega
  have e2 : (crashF x k).f2 = ((kept x k : Nat) : Int) := rfl
  have e : kept (crashF x k) j = kept x k := by omega
  show (⟨(crashF x k).f0, (crashF x k).f1.take (kept (crashF x k) j), ((kept (crashF x k) j : Nat) : Int)⟩ : S43) = _
  rw [e, List.take_of_length_le (by omega)]
  rfl
theorem again_S : ∀ {l : List S43} (k j : List Int), (∀ x ∈ l, okF x) → crashS (crashS l k) j = crashS l k
  | [], _, _, _ => rfl
  | x :: l, k, j, h => by
    rw [crashS, crashS, again_F (h x List.mem_cons_self), again_S k.tail j.tail (fun y hy => h y (List.mem_cons_of_mem _ hy))]
theorem last_loop (K : Nat) {l : List S43} (hR : RD l) (keep : List Int) : ∀ (k i : Nat), i ≤ l.length → l.length < k + i → haywainlaw13_DiskLasts.l24 K (A l) ⟨crashS l keep⟩ k (i : Int) = some (.inl ()) := by
  have hlo := hR.len
  intro k
  induction k with
  | zero => intro i h1 h2; omega
  | succ k ih =>
    intro i h1 h2
    rw [haywainlaw13_DiskLasts.l24]
    by_cases hi : i < l.length
    · have hx : l[i]? = some l[i] := List.getElem?_eq_getElem hi
      have hlt : ((i : Int) < (l.length : Int)) := by omega
      have ho := hR.ok _ (List.getElem_mem hi)
      obtain ⟨k1, k2⟩ := kept_le ho keep[i]?
      have hc : idxO (crashS l keep) (i : Int) = some (crashF l[i] keep[i]?) := by rw [idxN, crash_get, hx]; rfl
      have e1 : (crashF l[i] keep[i]?).f1.length = kept l[i] keep[i]? := by
        show (l[i].f1.take (kept l[i] keep[i]?)).length = _
        rw [List.length_take]; omega
      have c1 : ¬ ((kept l[i] keep[i]? : Nat) : Int) < l[i].f2 := by omega
      have c2 : ¬ ((kept l[i] keep[i]? : Nat) : Int) > (l[i].f1.length : Int) := by omega
      have c3 : cutO l[i].f1 0 ((kept l[i] keep[i]? : Nat) : Int) = some (l[i].f1.take (kept l[i] keep[i]?)) := (cutN (xs := l[i].f1) (lo := 0) (by omega)).trans (by simp)
      have c4 : cutL l[i].f1 ((0 : Int).toNat) (((kept l[i] keep[i]? : Nat) : Int).toNat) = l[i].f1.take (kept l[i] keep[i]?) := by simp [cutL]
      simp only [lenA, condD, if_pos hlt, idxA, hx, hc, Option.map_some, Option.bind_some, step1 (show i < 1000000000 by omega), ih (i + 1) hi (by omega), asF, e1, if_neg c1, if_neg c2, c3, c4]
      simp only [crashF, beq_self_eq_true, Bool.not_true, cond_false]
    · have hlt : ¬ ((i : Int) < (l.length : Int)) := by omega
      simp only [lenA, condD, if_neg hlt]
theorem DiskLasts : haywainlaw13_DiskLasts.Pure := by
  rintro ⟨l⟩ keep again _ _ _
  obtain ⟨K, hK, hkn⟩ := knows_f
  refine ⟨K, ?_⟩
  have hK2 : 2000 ≤ K := by omega
  rw [haywainlaw13_DiskLasts.f]
  obtain ⟨g, hg, hgl⟩ := great_f hK2 l
  rw [hg, Option.bind_some]
  cases g with
  | true => simp only [cond_true, hkn, Option.bind_some]
  | false =>
    have hl := hgl rfl
    have hl2 : l.length ≤ 1000 := by omega
    by_cases h1 : (keep.length : Int) > 100
    · simp only [cond_false, condD, if_pos h1, hkn, Option.bind_some]
    by_cases h2 : (again.length : Int) > 100
    · simp only [cond_false, condD, if_neg h1, if_pos h2, hkn, Option.bind_some]
    simp only [cond_false, condD, if_neg h1, if_neg h2, as_f hl2 hK2, rgood_f hl2 hK2, crash_f hl2 hK2 (show keep.length ≤ 1000000 by omega), Option.bind_some]
    have hR := own_RD l
    generalize own l = l at *
    have hlo := hR.len
    have hC := RD_crash hR keep
    have hCl : (crashS l keep).length ≤ 1000 := by have := hC.len; omega
    have a1 := last_loop K hR keep K 0 (by omega) (by omega)
    rw [show (0 : Int) = ((0 : Nat) : Int) from rfl]
    simp only [crash_len, lenA, condN, if_true, right_f hCl hK2, decide_eq_true hC, Option.bind_some, Bool.not_true, cond_false, a1, Sum.elim_inl, crash_f hCl hK2 (show again.length ≤ 1000000 by omega), own_of hC, again_S keep again hR.ok, as_f hCl hK2, same_f hCl hK2, cond_true, hkn]
end Go.Proofs.Ytfgdceeceehmpaa.Pure
