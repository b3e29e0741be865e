/- What the law DiskCutsOff asks of plain Lean. -/
import Derived.Test.YtfgdceeceehmpaaDisk5
import Derived.Test.YtfgdceeceehmpaaLDiskCutsOff
set_option linter.unusedVariables false
set_option linter.unusedSimpArgs false
namespace Go.Proofs.Ytfgdceeceehmpaa.Pure
open Go Go.RowKit Go.Hw Go.Proofs.Ytfgdceeceehmpaa.G
theorem strCat (a b : List Int) : strOfNums a ++ strOfNums b = strOfNums (a ++ b) := by
  apply ByteArray.ext
  rw [ByteArray.data_append]
  simp [strOfNums]
theorem catN {a b : ByteArray} (h : a.size + b.size ≤ 1000000) : catO a b = some () := by
  unfold catO
  rw [if_pos (by omega)]
theorem str_size (a : List Int) : (strOfNums a).size = a.length := by
  show Array.size _ = _
  simp
theorem mi_crash (n : List UInt8) : ∀ (l : List S43) (k : List Int), (mi n l = [] → mi n (crashS l k) = []) ∧ (∀ x, mi n l = [x] → ∃ v, mi n (crashS l k) = [crashF x v])
  | [], k => ⟨fun _ => rfl, fun x h => by simp [mi] at h⟩
  | y :: l, k => by
    obtain ⟨i1, i2⟩ := mi_crash n l k.tail
    have c1 : mi n (y :: l) = if key y == n then y :: mi n l else mi n l := List.filter_cons ..
    have c2 : mi n (crashS (y :: l) k) = if key y == n then crashF y k[0]? :: mi n (crashS l k.tail) else mi n (crashS l k.tail) := List.filter_cons ..
    rw [c1, c2]
    by_cases h : (key y == n) = true
    · simp only [h, if_true]
      refine ⟨fun e => (by cases e), fun x e => ?_⟩
      obtain ⟨rfl, e2⟩ := List.cons.inj e
      exact ⟨k[0]?, by rw [i1 e2]⟩
    · simp only [ff h, Bool.false_eq_true, if_false]
      exact ⟨i1, i2⟩
theorem crash_whole {x : S43} (ho : okF x) (hw : x.f2 = (x.f1.length : Int)) (k : Option Int) : crashF x k = x := by
  obtain ⟨k1, k2⟩ := kept_le ho k
  have e : kept x k = x.f1.length := by omega
  show (⟨x.f0, x.f1.take (kept x k), ((kept x k : Nat) : Int)⟩ : S43) = x
  rw [e, List.take_length, ← hw]
theorem put_get {l : List S43} (h : RD l) (n : ByteArray) (b : List Int) (h0 : (putS l n b).2 = 0) : getS (putS l n b).1 n = ((getS l n).1 ++ b, 0) := by
  have hs := h.srt
  unfold putS at h0 ⊢
  by_cases hn : Nm n
  · have hnn : ¬ ¬ Nm n := fun k => k hn
    simp only [if_neg hnn] at h0 ⊢
    have hg : getS l n = (match mi n.toList l with
      | [] => ([], 4)
      | x :: _ => (x.f1, 0)) := rfl
    rw [hg]
    rcases hm : mi n.toList l with _ | ⟨x, r⟩
    · simp only [hm] at h0 ⊢
      by_cases c1 : l.length = 40 ∨ 20000 < b.length
      · rw [if_pos c1] at h0; simp at h0
      · rw [if_neg c1]
        exact get_repl hs rfl
    · simp only [hm] at h0 ⊢
      have hkx : key x = n.toList := mi_key (l := l) (by rw [hm]; exact List.mem_cons_self)
      by_cases c1 : 20000 < x.f1.length + b.length
      · rw [if_pos c1] at h0; simp at h0
      · rw [if_neg c1]
        exact get_repl hs hkx
  · rw [if_pos hn] at h0; simp at h0
theorem drop_put {l : List S43} (h : RD l) (n : ByteArray) {b : List Int} (hb : b.length ≤ 10000) (h0 : (dropS l n).2 = 0) : (putS (dropS l n).1 n b).2 = 0 ∧ getS (putS (dropS l n).1 n b).1 n = (b, 0) ∧ getS (dropS l n).1 n = ([], 4) := by
  have hR := RD_drop h n
  have hl := h.len
  have e0 := congrArg List.length (parts h.srt n.toList).1
  unfold dropS at h0 hR ⊢
  rcases hm : mi n.toList l with _ | ⟨x, r⟩
  · simp [hm] at h0
  · simp only [hm] at hR ⊢
    have hok := (mi_ok h hm)
    have hn : x.f0 = n := toList_inj hok.1
    have hnm : ¬ ¬ Nm n := fun k => k (hn ▸ hok.2.1)
    have hg := get_drop (l := l) n
    rw [hm] at e0
    simp only [List.length_append, List.length_cons] at e0
    have c1 : ¬ ((lo n.toList l ++ hi n.toList l).length = 40 ∨ 20000 < b.length) := by rw [List.length_append]; omega
    have hput : putS (lo n.toList l ++ hi n.toList l) n b = (repl (lo n.toList l ++ hi n.toList l) n ⟨n, b, 0⟩, 0) := by
      unfold putS
      rw [if_neg hnm, (drop_parts n.toList).2.1]
      simp only [if_neg c1]
    rw [hput]
    exact ⟨rfl, get_repl hR.srt rfl, hg⟩
theorem cut_ok {l : List S43} (h : RD l) (n : ByteArray) (c : Int) (h0 : (cutS l n c).2 = 0) : 0 ≤ c ∧ c ≤ ((getS l n).1.length : Int) ∧ getS (cutS l n c).1 n = ((getS l n).1.take c.toNat, 0) ∧ ∀ k, getS (crashS (cutS l n c).1 k) n = ((getS l n).1.take c.toNat, 0) := by
  have hR := RD_cut h n c
  have hs := h.srt
  unfold cutS at h0 hR ⊢
  have hg : getS l n = (match mi n.toList l with
    | [] => ([], 4)
    | x :: _ => (x.f1, 0)) := rfl
  rw [hg]
  rcases hm : mi n.toList l with _ | ⟨x, r⟩
  · simp [hm] at h0
  · simp only [hm] at h0 hR ⊢
    obtain ⟨hk, ho⟩ := mi_ok h hm
    by_cases c1 : c < 0 ∨ (x.f1.length : Int) < c
    · rw [if_pos c1] at h0; simp at h0
    · rw [if_neg c1] at hR ⊢
      have hk2 : key (⟨x.f0, x.f1.take c.toNat, c⟩ : S43) = n.toList := hk
      refine ⟨by omega, by omega, get_repl hs hk2, fun k => ?_⟩
      have hmi := (repl_parts hs hk2).2.1
      obtain ⟨v, hv⟩ := (mi_crash n.toList _ k).2 _ hmi
      have hlen : ((⟨x.f0, x.f1.take c.toNat, c⟩ : S43).f1.length : Int) = c := by
        show ((x.f1.take c.toNat).length : Int) = c
        rw [List.length_take]; omega
      have hxo := (mi_ok hR hmi).2
      rw [crash_whole hxo hlen.symm] at hv
      unfold getS
      rw [hv]
theorem drop_err4 {l : List S43} (n : ByteArray) (c : Int) (h0 : (dropS l n).2 ≠ 0) : (dropS l n).2 = 4 ∧ (cutS l n c).2 ≠ 0 := by
  unfold dropS cutS at *
  rcases hm : mi n.toList l with _ | ⟨x, r⟩
  · simp
  · simp [hm] at h0
theorem DiskCutsOff : haywainlaw13_DiskCutsOff.Pure := by
  rintro ⟨l⟩ n c b keep _ _ _ _ _
  obtain ⟨K, hK, hkn⟩ := knows_f
  refine ⟨K, ?_⟩
  have hK2 : 2000 ≤ K := by omega
  rw [haywainlaw13_DiskCutsOff.f]
  obtain ⟨g, hg, hgl⟩ := great_f hK2 l
  rw [hg, Option.bind_some]
  cases g with
  | true => simp only [cond_true, hkn, Option.bind_some]
  | false =>
    have hl := hgl rfl
    have hl2 : l.length ≤ 1000 := by omega
    by_cases h1 : (n.size : Int) > 100
    · simp only [cond_false, condD, if_pos h1, hkn, Option.bind_some]
    by_cases h2 : (b.length : Int) > 10000
    · simp only [cond_false, condD, if_neg h1, if_pos h2, hkn, Option.bind_some]
    by_cases h3 : (keep.length : Int) > 100
    · simp only [cond_false, condD, if_neg h1, if_neg h2, if_pos h3, hkn, Option.bind_some]
    have hO := own_RD l
    have hol : (own l).length ≤ 1000 := by have := hO.len; omega
    have hc := RD_cut hO n c
    have hcl : (cutS (own l) n c).1.length ≤ 1000 := by have := hc.len; omega
    have hr := RD_crash hc keep
    have hrl : (crashS (cutS (own l) n c).1 keep).length ≤ 1000 := by have := hr.len; omega
    have hp := RD_put hc n b
    have hpl : (putS (cutS (own l) n c).1 n b).1.length ≤ 1000 := by have := hp.len; omega
    have hd := RD_drop hO n
    have hdl : (dropS (own l) n).1.length ≤ 1000 := by have := hd.len; omega
    have hq := RD_put hd n b
    have hql : (putS (dropS (own l) n).1 n b).1.length ≤ 1000 := by have := hq.len; omega
    have ab : appO 1 ([] : List Int) b = some b := by rw [appN (by simp only [List.length_nil]; omega)]; rfl
    have hb9 : b.length ≤ 1000000000 := by omega
    have hk9 : keep.length ≤ 1000000 := by omega
    have hg0 : (getS (own l) n).1.length ≤ 20000 := by
      unfold getS
      rcases hm : mi n.toList (own l) with _ | ⟨x, r⟩
      · simp
      · exact (mi_ok hO hm).2.2.1
    simp only [cond_false, condD, if_neg h1, if_neg h2, if_neg h3, Option.bind_some, List.nil_append, ab, get_f hl2 hK2, cut_f hl2 hK2, crash_f hcl hK2 hk9, own_of hc, get_f hrl hK2, own_of hr, put_f hcl hK2 hb9, get_f hpl hK2, own_of hp, drop_f hl2 hK2, put_f hdl hK2 hb9, own_of hd, get_f hql hK2, own_of hq, get_f hdl hK2, condN, condB]
    have tail : (if (dropS (own l) n).2 = 0 then
        (if (getS (dropS (own l) n).1 n).2 = 4 then
          if (putS (dropS (own l) n).1 n b).2 = 0 then
            (cond ((strOfNums (getS (putS (dropS (own l) n).1 n b).1 n).1).toList == (strOfNums b).toList) ((haywainlaw13_knows.f K).bind fun x => some x) (some false))
          else some false
        else some false)
      else if (dropS (own l) n).2 = 4 then
        if (cutS (own l) n c).2 = 0 then some false else (haywainlaw13_knows.f K).bind fun x => some x
      else some false) = some true := by
      by_cases hd0 : (dropS (own l) n).2 = 0
      · obtain ⟨q1, q2, q3⟩ := drop_put hO n (b := b) (by omega) hd0
        simp only [if_pos hd0, q1, q2, q3, if_true, beq_self_eq_true, cond_true, hkn, Option.bind_some]
      · obtain ⟨q1, q2⟩ := drop_err4 n c hd0
        simp only [if_neg hd0, if_pos q1, if_neg q2, hkn, Option.bind_some]
    by_cases hc0 : (cutS (own l) n c).2 = 0
    · obtain ⟨r1, r2, r3, r4⟩ := cut_ok hO n c hc0
      obtain ⟨c, rfl⟩ : ∃ d : Nat, c = (d : Int) := ⟨c.toNat, by omega⟩
      have n1 : ¬ (c : Int) < 0 := by omega
      have n2 : ¬ (c : Int) > ((getS (own l) n).1.length : Int) := by omega
      have k1 : cutO (getS (own l) n).1 0 (c : Int) = some ((getS (own l) n).1.take c) := (cutN (xs := (getS (own l) n).1) (lo := 0) (hi := c) (by omega)).trans (by simp)
      have k2 : cutL (getS (own l) n).1 ((0 : Int).toNat) ((c : Int).toNat) = (getS (own l) n).1.take c := by simp [cutL]
      simp only [Int.toNat_natCast] at r3 r4
      have key1 : ∀ f : Unit → Option Bool, ∀ gg : Bool → Option Bool, f () = some true → Option.bind (if (putS (cutS (own l) n c).1 n b).2 = 0 then
            (catO (strOfNums ((getS (own l) n).1.take c)) (strOfNums b)).bind fun z => cond (!((strOfNums (getS (putS (cutS (own l) n c).1 n b).1 n).1).toList == (strOfNums ((getS (own l) n).1.take c ++ b)).toList)) (some (.inr false)) (some (.inl ()))
          else some (.inl ()) : Option (Unit ⊕ Bool)) (Sum.elim f gg) = some true := by
        intro f gg hf
        by_cases hp0 : (putS (cutS (own l) n c).1 n b).2 = 0
        · have e1 := put_get hc n b hp0
          rw [r3] at e1
          have k3 : catO (strOfNums ((getS (own l) n).1.take c)) (strOfNums b) = some () := catN (by rw [str_size, str_size, List.length_take]; omega)
          simp only [if_pos hp0, k3, e1, Option.bind_some, beq_self_eq_true, Bool.not_true, cond_false, Sum.elim_inl, hf]
        · simp only [if_neg hp0, Option.bind_some, Sum.elim_inl, hf]
      simp only [if_pos hc0, if_neg n1, if_neg n2, k1, k2, Option.bind_some, strCat, r4, beq_self_eq_true, Bool.not_true, cond_false]
      exact key1 _ _ (by simp only [if_pos hc0] at tail; exact tail)
    · simp only [if_neg hc0, Option.bind_some, Sum.elim_inl]
      simp only [if_neg hc0] at tail
      exact tail
end Go.Proofs.Ytfgdceeceehmpaa.Pure
