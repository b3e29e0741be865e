/- What the law DiskApart asks of plain Lean. -/
import Derived.Test.YtfgdceeceehmpaaDisk5
import Derived.Test.YtfgdceeceehmpaaLDiskApart
set_option linter.unusedVariables false
set_option linter.unusedSimpArgs false
namespace Go.Proofs.Ytfgdceeceehmpaa.Pure
open Go Go.RowKit Go.Hw Go.Proofs.Ytfgdceeceehmpaa.G
theorem put_err {l : List S43} (n : ByteArray) (b : List Int) : (putS l n b).1 = l ∨ ((putS l n b).2 = 0 ∧ ∃ x, key x = n.toList ∧ (putS l n b).1 = repl l n x) := by
  unfold putS
  split
  · exact .inl rfl
  · split
    · split
      · exact .inl rfl
      · exact .inr ⟨rfl, _, rfl, rfl⟩
    · rename_i x r e
      split
      · exact .inl rfl
      · exact .inr ⟨rfl, ⟨x.f0, x.f1 ++ b, x.f2⟩, mi_key (x := x) (l := l) (by rw [e]; exact List.mem_cons_self), rfl⟩
theorem sync_err {l : List S43} (n : ByteArray) : (syncS l n).1 = l ∨ ((syncS l n).2 = 0 ∧ ∃ x, key x = n.toList ∧ (syncS l n).1 = repl l n x) := by
  unfold syncS
  split
  · exact .inl rfl
  · rename_i x r e
    exact .inr ⟨rfl, ⟨x.f0, x.f1, x.f1.length⟩, mi_key (x := x) (l := l) (by rw [e]; exact List.mem_cons_self), rfl⟩
theorem cut_err {l : List S43} (n : ByteArray) (c : Int) : (cutS l n c).1 = l ∨ ((cutS l n c).2 = 0 ∧ ∃ x, key x = n.toList ∧ (cutS l n c).1 = repl l n x) := by
  unfold cutS
  split
  · exact .inl rfl
  · rename_i x r e
    split
    · exact .inl rfl
    · exact .inr ⟨rfl, ⟨x.f0, x.f1.take c.toNat, c⟩, mi_key (x := x) (l := l) (by rw [e]; exact List.mem_cons_self), rfl⟩
theorem drop_err {l : List S43} (n : ByteArray) : (dropS l n).1 = l ∨ ((dropS l n).2 = 0 ∧ (dropS l n).1 = lo n.toList l ++ hi n.toList l) := by
  unfold dropS
  split
  · exact .inl rfl
  · exact .inr ⟨rfl, rfl⟩
theorem do_err {l : List S43} {a : S52} (h0 : 0 ≤ a.f0) (h3 : a.f0 ≤ 3) : (doS l a).1 = own l ∨ ((doS l a).2 = 0 ∧ ((∃ x, key x = a.f2.toList ∧ (doS l a).1 = repl (own l) a.f2 x) ∨ (doS l a).1 = lo a.f2.toList (own l) ++ hi a.f2.toList (own l))) := by
  unfold doS
  split
  · rcases put_err (l := own l) a.f2 a.f3 with h | ⟨h, k⟩
    · exact .inl h
    · exact .inr ⟨h, .inl k⟩
  · split
    · rcases sync_err (l := own l) a.f2 with h | ⟨h, k⟩
      · exact .inl h
      · exact .inr ⟨h, .inl k⟩
    · split
      · rcases cut_err (l := own l) a.f2 a.f1 with h | ⟨h, k⟩
        · exact .inl h
        · exact .inr ⟨h, .inl k⟩
      · split
        · rcases drop_err (l := own l) a.f2 with h | ⟨h, k⟩
          · exact .inl h
          · exact .inr ⟨h, .inr k⟩
        · omega
theorem do_other {l : List S43} {a : S52} (h0 : 0 ≤ a.f0) (h3 : a.f0 ≤ 3) {m : ByteArray} (hm : m.toList ≠ a.f2.toList) : getS (doS l a).1 m = getS (own l) m := by
  have hs := (own_RD l).srt
  rcases do_err (l := l) h0 h3 with h | ⟨_, ⟨x, hk, h⟩ | h⟩
  · rw [h]
  · rw [h, get_repl' hs hk hm]
  · rw [h, get_drop' hs hm]
theorem DiskApart : haywainlaw13_DiskApart.Pure := by
  rintro ⟨l⟩ a m _ _ _
  obtain ⟨K, hK, hkn⟩ := knows_f
  refine ⟨K, ?_⟩
  have hK2 : 2000 ≤ K := by omega
  rw [haywainlaw13_DiskApart.f]
  obtain ⟨g, hg, hgl⟩ := great_f hK2 l
  rw [hg, Option.bind_some]
  cases g with
  | true => simp only [cond_true, hkn, Option.bind_some]
  | false =>
    have hl := hgl rfl
    have hl2 : l.length ≤ 1000 := by omega
    obtain ⟨w, hw, hwl⟩ := wide_f (K := K) (a := a)
    cases w with
    | true => simp only [cond_true, cond_false, hw, hkn, Option.bind_some]
    | false =>
      obtain ⟨w1, w2⟩ := hwl rfl
      by_cases h1 : (m.size : Int) > 100
      · simp only [cond_false, hw, condD, if_pos h1, hkn, Option.bind_some]
      by_cases h2 : a.f0 < 0
      · simp only [cond_false, hw, condD, if_neg h1, if_pos h2, hkn, Option.bind_some]
      by_cases h3 : a.f0 > 3
      · simp only [cond_false, hw, condD, if_neg h1, if_neg h2, if_pos h3, hkn, Option.bind_some]
      have hR := RD_do l a
      have hdl : (doS l a).1.length ≤ 1000 := by have := hR.len; omega
      have hO := own_RD l
      have hol : (own l).length ≤ 1000 := by have := hO.len; omega
      simp only [cond_false, hw, condD, if_neg h1, if_neg h2, if_neg h3, Option.bind_some, get_f hl2 hK2, do_f hl2 hK w1 w2, get_f hdl hK2, own_of hR, right_f hdl hK2, decide_eq_true hR, Bool.not_true, as_f hdl hK2, rright_f hdl hK2, as_f hl2 hK2, rgood_f hl2 hK2]
      by_cases h4 : (doS l a).2 = 0
      · by_cases h5 : m.toList = a.f2.toList
        · simp only [condN, if_pos h4, h5, beq_self_eq_true, cond_true, hkn, Option.bind_some]
        · have h5' : (m.toList == a.f2.toList) = false := by simpa using h5
          simp only [condN, if_pos h4, h5', cond_false, do_other (l := l) (a := a) (by omega) (by omega) h5, beq_self_eq_true, cond_true, hkn, Option.bind_some]
      · have h6 : (doS l a).1 = own l := by
          rcases do_err (l := l) (a := a) (by omega) (by omega) with h | ⟨h, _⟩
          · exact h
          · exact absurd h h4
        simp only [condN, if_neg h4, h6, same_f hol hK2, Option.bind_some, cond_true, hkn]
end Go.Proofs.Ytfgdceeceehmpaa.Pure
