/- What the law DiskBehind asks of plain Lean. -/
import Derived.Test.YtfgdceeceehmpaaDisk5
import Derived.Test.YtfgdceeceehmpaaLDiskBehind
set_option linter.unusedVariables false
set_option linter.unusedSimpArgs false
namespace Go.Proofs.Ytfgdceeceehmpaa.Pure
open Go Go.RowKit Go.Hw Go.Proofs.Ytfgdceeceehmpaa.G
theorem repl_repl {l : List S43} (h : Srt l) {n : ByteArray} {x y : S43} (hk : key x = n.toList) : repl (repl l n x) n y = repl l n y := by
  obtain ⟨e1, _, e3⟩ := repl_parts h hk
  unfold repl at *
  rw [e1, e3]
theorem put_two {l : List S43} (h : RD l) (n : ByteArray) (b c : List Int) :
    (((putS l n b).2 ≠ 0 ∨ (putS (putS l n b).1 n c).2 ≠ 0) ∧ (putS l n (b ++ c)).2 ≠ 0) ∨
    ((putS l n b).2 = 0 ∧ (putS (putS l n b).1 n c).2 = 0 ∧ (putS l n (b ++ c)).2 = 0 ∧ (putS (putS l n b).1 n c).1 = (putS l n (b ++ c)).1 ∧ getS (putS l n (b ++ c)).1 n = ((getS l n).1 ++ b ++ c, 0)) := by
  have hs := h.srt
  by_cases hn : Nm n
  · have hnn : ¬ ¬ Nm n := fun k => k hn
    unfold putS
    simp only [if_neg hnn]
    unfold getS
    rcases hm : mi n.toList l with _ | ⟨x, r⟩
    · simp only
      by_cases c1 : l.length = 40 ∨ 20000 < b.length
      · refine .inl ⟨.inl ?_, ?_⟩
        · rw [if_pos c1]; simp
        · have c2 : l.length = 40 ∨ 20000 < (b ++ c).length := by rw [List.length_append]; omega
          rw [if_pos c2]; simp
      · rw [if_neg c1]
        have hk : key (⟨n, b, 0⟩ : S43) = n.toList := rfl
        simp only [(repl_parts hs hk).2.1, List.length_append]
        by_cases c2 : 20000 < b.length + c.length
        · refine .inl ⟨.inr ?_, ?_⟩
          · rw [if_pos c2]; simp
          · have c3 : l.length = 40 ∨ 20000 < b.length + c.length := .inr c2
            rw [if_pos c3]; simp
        · have c3 : ¬ (l.length = 40 ∨ 20000 < b.length + c.length) := by omega
          refine .inr ⟨trivial, ?_, ?_, ?_, ?_⟩
          · rw [if_neg c2]
          · rw [if_neg c3]
          · rw [if_neg c2, if_neg c3]
            exact repl_repl hs hk
          · have hk2 : key (⟨n, b ++ c, 0⟩ : S43) = n.toList := rfl
            rw [if_neg c3, (repl_parts hs hk2).2.1]
            rfl
    · have hkx : key x = n.toList := mi_key (l := l) (by rw [hm]; exact List.mem_cons_self)
      simp only
      by_cases c1 : 20000 < x.f1.length + b.length
      · refine .inl ⟨.inl ?_, ?_⟩
        · rw [if_pos c1]; simp
        · have c2 : 20000 < x.f1.length + (b ++ c).length := by rw [List.length_append]; omega
          rw [if_pos c2]; simp
      · rw [if_neg c1]
        have hk : key (⟨x.f0, x.f1 ++ b, x.f2⟩ : S43) = n.toList := hkx
        simp only [(repl_parts hs hk).2.1, List.length_append]
        by_cases c2 : 20000 < x.f1.length + b.length + c.length
        · refine .inl ⟨.inr ?_, ?_⟩
          · rw [if_pos c2]; simp
          · have c3 : 20000 < x.f1.length + (b.length + c.length) := by omega
            rw [if_pos c3]; simp
        · have c3 : ¬ 20000 < x.f1.length + (b.length + c.length) := by omega
          refine .inr ⟨trivial, ?_, ?_, ?_, ?_⟩
          · rw [if_neg c2]
          · rw [if_neg c3]
          · rw [if_neg c2, if_neg c3]
            simp only [List.append_assoc]
            exact repl_repl hs hk
          · have hk2 : key (⟨x.f0, x.f1 ++ (b ++ c), x.f2⟩ : S43) = n.toList := hkx
            rw [if_neg c3, (repl_parts hs hk2).2.1]
            simp only [List.append_assoc]
  · refine .inl ⟨.inl ?_, ?_⟩ <;>
    · unfold putS
      rw [if_pos hn]
      simp
theorem strCat (a b : List Int) : strOfNums a ++ strOfNums b = strOfNums (a ++ b) := by
  apply ByteArray.ext
  rw [ByteArray.data_append]
  simp [strOfNums]
theorem catN {a b : ByteArray} (h : a.size + b.size ≤ 1000000) : catO a b = some () := by
  unfold catO
  rw [if_pos (by omega)]
theorem str_size (a : List Int) : (strOfNums a).size = a.length := by
  show Array.size _ = _
  simp
theorem DiskBehind : haywainlaw13_DiskBehind.Pure := by
  rintro ⟨l⟩ n b c _ _ _ _
  obtain ⟨K, hK, hkn⟩ := knows_f
  refine ⟨K, ?_⟩
  have hK2 : 2000 ≤ K := by omega
  rw [haywainlaw13_DiskBehind.f]
  obtain ⟨g, hg, hgl⟩ := great_f hK2 l
  rw [hg, Option.bind_some]
  cases g with
  | true => simp only [cond_true, hkn, Option.bind_some]
  | false =>
    have hl := hgl rfl
    have hl2 : l.length ≤ 1000 := by omega
    by_cases h1 : (n.size : Int) > 100
    · simp only [cond_false, condD, if_pos h1, hkn, Option.bind_some]
    by_cases h2 : (b.length : Int) > 10000
    · simp only [cond_false, condD, if_neg h1, if_pos h2, hkn, Option.bind_some]
    by_cases h3 : (c.length : Int) > 10000
    · simp only [cond_false, condD, if_neg h1, if_neg h2, if_pos h3, hkn, Option.bind_some]
    have hO := own_RD l
    have hol : (own l).length ≤ 1000 := by have := hO.len; omega
    have hb := RD_put hO n b
    have hbl : (putS (own l) n b).1.length ≤ 1000 := by have := hb.len; omega
    have hc := RD_put hb n c
    have hcl : (putS (putS (own l) n b).1 n c).1.length ≤ 1000 := by have := hc.len; omega
    have hbc := RD_put hO n (b ++ c)
    have hbcl : (putS (own l) n (b ++ c)).1.length ≤ 1000 := by have := hbc.len; omega
    have ab : appO 1 ([] : List Int) b = some b := by rw [appN (by simp only [List.length_nil]; omega)]; rfl
    have ac : appO 1 ([] : List Int) c = some c := by rw [appN (by simp only [List.length_nil]; omega)]; rfl
    have abc : appO 1 b c = some (b ++ c) := appN (by omega)
    simp only [cond_false, condD, if_neg h1, if_neg h2, if_neg h3, Option.bind_some, List.nil_append, ab, ac, abc, get_f hl2 hK2, put_f hl2 hK2 (show b.length ≤ 1000000000 by omega), put_f hbl hK2 (show c.length ≤ 1000000000 by omega), own_of hb, put_f hl2 hK2 (show (b ++ c).length ≤ 1000000000 by rw [List.length_append]; omega), get_f hcl hK2, own_of hc, as_f hcl hK2, as_f hbcl hK2, condN, condB]
    rcases put_two hO n b c with ⟨e1, e2⟩ | ⟨e1, e2, e3, e4, e5⟩
    · simp only [if_neg e2, hkn, Option.bind_some]
      by_cases f1 : (putS (own l) n b).2 = 0
      · rcases e1 with e1 | e1
        · exact absurd f1 e1
        · simp only [if_pos f1, if_neg e1]
      · simp only [if_neg f1]
    · have hg0 : (getS (own l) n).1.length ≤ 20000 := by
        unfold getS
        rcases hm : mi n.toList (own l) with _ | ⟨x, r⟩
        · simp
        · exact (mi_ok hO hm).2.2.1
      have k1 : catO (strOfNums (getS (own l) n).1) (strOfNums b) = some () := catN (by rw [str_size, str_size]; omega)
      have k2 : catO (strOfNums ((getS (own l) n).1 ++ b)) (strOfNums c) = some () := catN (by rw [str_size, str_size, List.length_append]; omega)
      simp only [e4, e5, e1, e2, e3, if_true, strCat, k1, k2, Option.bind_some, beq_self_eq_true, cond_true, same_f hbcl hK2, hkn]
end Go.Proofs.Ytfgdceeceehmpaa.Pure
