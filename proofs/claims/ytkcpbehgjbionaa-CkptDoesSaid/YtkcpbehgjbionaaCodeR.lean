/- Numbers, sums and frames: what the document's functions answer. -/
import Derived.Test.YtkcpbehgjbionaaCodeP
set_option linter.unusedVariables false
set_option linter.unusedSimpArgs false
namespace Go.Proofs.Ytkcpbehgjbionaa.Pure
open Go Go.RowKit Go.Hw Go.Proofs.Ytkcpbehgjbionaa.G
theorem rsum_bit (K k c : Nat) (j : Int) (hc : c < 4294967296) (h0 : 0 ≤ j) (h8 : j < 8) : haywainref02_Sum.l80 K (k + 1) ((c : Int), j) = haywainref02_Sum.l80 K k ((bs c : Nat), j + 1) := by
  rw [haywainref02_Sum.l80]
  have t1 : (c : Int).tmod 2 = ((c % 2 : Nat) : Int) := (tmodN c 2 (by omega)).trans (by omega)
  have t2 : (c : Int).tdiv 2 = ((c / 2 : Nat) : Int) := (tdivN c 2 (by omega)).trans (by omega)
  have e1 : remO (c : Int) 2 = some ((c % 2 : Nat) : Int) := by rw [remO, if_neg (by omega), t1]
  have e2 : divO .u32 (c : Int) 2 = some ((c / 2 : Nat) : Int) := by rw [divO, if_neg (by omega), t2, wrapU32 (by omega) (by omega)]
  simp only [condD, if_pos h8, e1, e2, t1, t2, Option.bind_some, condB, wrapI (x := j + 1) (by omega) (by omega), wrapU32 (x := ((c / 2 : Nat) : Int)) (by omega) (by omega)]
  unfold bs
  by_cases h : c % 2 = 1
  · rw [if_pos (by omega), if_pos h, ← xor32 (c / 2) 3988292384 (by omega) (by omega)]; rfl
  · rw [if_neg (by omega), if_neg h]
theorem rsum_byte (K k c : Nat) (hc : c < 4294967296) : haywainref02_Sum.l80 K (k + 9) ((c : Int), 0) = some ((by8 c : Nat) : Int) := by
  have h1 := bs_lt hc
  have h2 := bs_lt h1
  have h3 := bs_lt h2
  have h4 := bs_lt h3
  have h5 := bs_lt h4
  have h6 := bs_lt h5
  have h7 := bs_lt h6
  rw [rsum_bit K _ _ _ hc (by omega) (by omega), rsum_bit K _ _ _ h1 (by omega) (by omega), rsum_bit K _ _ _ h2 (by omega) (by omega), rsum_bit K _ _ _ h3 (by omega) (by omega),
    rsum_bit K _ _ _ h4 (by omega) (by omega), rsum_bit K _ _ _ h5 (by omega) (by omega), rsum_bit K _ _ _ h6 (by omega) (by omega), rsum_bit K _ _ _ h7 (by omega) (by omega), haywainref02_Sum.l80]
  rfl
theorem rsum_loop {K : Nat} (hK : 9 ≤ K) (l : List Int) (hl : Bytes l) (hn : l.length ≤ 140737488351232) : ∀ (k c i : Nat), c < 4294967296 → i ≤ l.length → l.length < k + i →
    haywainref02_Sum.l1 K l k ((c : Int), (i : Int)) = some ((crc c (l.drop i) ^^^ 4294967295 : Nat) : Int) := by
  intro k
  induction k with
  | zero => intro c i hc hi hk; omega
  | succ k ih =>
    intro c i hc hi hk
    rw [haywainref02_Sum.l1]
    by_cases h : i < l.length
    · have hx := hl _ (List.getElem_mem h)
      obtain ⟨K', rfl⟩ : ∃ m, K = m + 9 := ⟨K - 9, by omega⟩
      have hlt : (i : Int) < (l.length : Int) := by omega
      simp only [condD, if_pos hlt, idxN, List.getElem?_eq_getElem h, Option.bind_some, xbyte hc hx, rsum_byte _ _ _ (xor_lt hc (show l[i].toNat < 4294967296 by omega))]
      rw [wrapI (by omega) (by omega), crc_drop h]
      exact ih _ (i + 1) (by8_lt (xor_lt hc (by omega))) h (by omega)
    · have hlt : ¬ (i : Int) < (l.length : Int) := by omega
      have := xor32 c 4294967295 hc (by omega)
      simp only [condD, if_neg hlt, List.drop_eq_nil_of_le (show l.length ≤ i by omega)]
      rw [show (4294967295 : Int) = ((4294967295 : Nat) : Int) from rfl, this]
      rfl
theorem rsum_f {K : Nat} {l : List Int} (hl : Bytes l) (hn : l.length ≤ 140737488351232) (hK : l.length + 9 ≤ K) : haywainref02_Sum.f K l = some (sumS l) := by
  rw [haywainref02_Sum.f]; exact rsum_loop (by omega) l hl hn K 4294967295 0 (by omega) (by omega) (by omega)
def digS : Nat → Int → List Int
  | 0, _ => []
  | m + 1, n => digS m (n / 256) ++ [n % 256]
theorem digS_len : ∀ (m : Nat) (n : Int), (digS m n).length = m
  | 0, _ => rfl
  | m + 1, n => by simp [digS, digS_len m]
theorem digits_r (K : Nat) : ∀ (m k : Nat) (n : Int), m ≤ 8 → m < k → 0 ≤ n → n ≤ 18446744073709551615 → haywainref02_Digits.r K k n (m : Int) = some (digS m n) := by
  intro m
  induction m with
  | zero =>
    intro k n _ hk h0 h1
    obtain ⟨k, rfl⟩ : ∃ j, k = j + 1 := ⟨k - 1, by omega⟩
    rw [haywainref02_Digits.r]
    simp [digS]
  | succ m ih =>
    intro k n hm hk h0 h1
    obtain ⟨k, rfl⟩ : ∃ j, k = j + 1 := ⟨k - 1, by omega⟩
    have t1 := tmodN n 256 h0
    have t2 := tdivN n 256 h0
    have e1 : remO n 256 = some (n % 256) := by rw [remO, if_neg (by omega)]; exact congrArg some t1
    have e2 : divO .u64 n 256 = some (n / 256) := by rw [divO, if_neg (by omega)]; rw [show n.tdiv 256 = n / 256 from t2, wrapU (by omega) (by omega)]
    have h00 : ¬ (((m + 1 : Nat) : Int) = 0) := by omega
    have e3 : IntKind.wrap .i64 (((m + 1 : Nat) : Int) - 1) = (m : Int) := by rw [wrapI (by omega) (by omega)]; omega
    rw [haywainref02_Digits.r]
    simp only [condB, if_neg h00, e1, e2, Option.bind_some, e3, show n.tdiv 256 = n / 256 from t2, show n.tmod 256 = n % 256 from t1]
    rw [wrapU (x := n / 256) (by omega) (by omega), ih k _ (by omega) (by omega) (by omega) (by omega), Option.bind_some, wrapU8, appN (by simp only [digS_len, List.length_cons, List.length_nil]; omega), Option.bind_some]
    simp only [digS, Int.emod_emod_of_dvd n (Int.dvd_refl 256)]
theorem digits4 {K : Nat} {n : Int} (hK : 9 ≤ K) (h0 : 0 ≤ n) (h1 : n ≤ 18446744073709551615) : haywainref02_Digits.f K n 4 = some (be4 n) := by
  have := digits_r K 4 K n (by omega) (by omega) h0 h1
  rw [haywainref02_Digits.f, show (4 : Int) = ((4 : Nat) : Int) from rfl, this]
  simp only [digS, be4, List.nil_append, List.cons_append, Option.some.injEq, List.cons.injEq, and_true]
  and_intros <;> omega
theorem digits8 {K : Nat} {n : Int} (hK : 9 ≤ K) (h0 : 0 ≤ n) (h1 : n ≤ 18446744073709551615) : haywainref02_Digits.f K n 8 = some (be8 n) := by
  have := digits_r K 8 K n (by omega) (by omega) h0 h1
  rw [haywainref02_Digits.f, show (8 : Int) = ((8 : Nat) : Int) from rfl, this]
  simp only [digS, be8, be4, List.nil_append, List.cons_append, Option.some.injEq, List.cons.injEq, and_true]
  and_intros <;> omega
theorem wrapU_mod (n : Int) : IntKind.wrap .u64 n = n % 18446744073709551616 := by
  simp only [IntKind.wrap, IntKind.signed, IntKind.bits]
  simp
theorem rnum_f {K : Nat} (n : Int) (hK : 9 ≤ K) : haywainref02_Num.f K n = some (be8 n) := by
  rw [haywainref02_Num.f, wrapU_mod, digits8 hK (by omega) (by omega), Option.bind_some, be8_mod]
theorem value_loop (K : Nat) (l : List Int) (hl : Bytes l) (hn : l.length ≤ 8) : ∀ (k i : Nat) (n : Int), 0 ≤ n → n < 256 ^ i → i ≤ l.length → l.length < k + i → haywainref02_Value.l1 K l k (n, (i : Int)) = some (val n (l.drop i)) := by
  intro k
  induction k with
  | zero => intro i n h0 h1 hi hk; omega
  | succ k ih =>
    intro i n h0 h1 hi hk
    rw [haywainref02_Value.l1]
    by_cases h : i < l.length
    · have hx := hl _ (List.getElem_mem h)
      have hlt : (i : Int) < (l.length : Int) := by omega
      have hb : n < 72057594037927936 := by
        have : (256 : Int) ^ i ≤ 256 ^ 7 := by
          have : ((256 ^ i : Nat) : Int) ≤ ((256 ^ 7 : Nat) : Int) := Int.ofNat_le.2 (Nat.pow_le_pow_right (by omega) (by omega))
          simpa using this
        have e : (256 : Int) ^ 7 = 72057594037927936 := by decide
        omega
      simp only [condD, if_pos hlt, idxN, List.getElem?_eq_getElem h, Option.bind_some]
      rw [wrapU (x := n * 256) (by omega) (by omega), wrapU (x := l[i]) (by omega) (by omega), wrapU (by omega) (by omega), wrapI (by omega) (by omega), List.drop_eq_getElem_cons h]
      refine ih (i + 1) _ (by omega) ?_ h (by omega)
      rw [Int.pow_succ]; omega
    · have hlt : ¬ (i : Int) < (l.length : Int) := by omega
      simp only [condD, if_neg hlt, List.drop_eq_nil_of_le (show l.length ≤ i by omega)]
      rfl
theorem value_f {K : Nat} {l : List Int} (hl : Bytes l) (hn : l.length ≤ 8) (hk : 9 ≤ K) : haywainref02_Value.f K l = some (val 0 l) := by
  rw [haywainref02_Value.f]; exact value_loop K l hl hn K 0 0 (by omega) (by simp) (by omega) (by omega)
theorem rframe_f {K : Nat} {l : List Int} (hl : Bytes l) (hn : l.length ≤ 20000) (hk : 30000 ≤ K) : haywainref02_Frame.f K l = some (frameS l) := by
  have hb := Bytes.append (be4_bytes l.length) hl
  have hs := sumS_bd _ hb
  unfold haywainref02_Frame.f
  rw [wrapU (by omega) (by omega), digits4 (by omega) (by omega) (by omega)]
  simp only [Option.bind_some, List.nil_append]
  rw [appN (by simp), Option.bind_some, appN (by simp; omega), Option.bind_some, Option.bind_some, rsum_f hb (by simp; omega) (by simp; omega), Option.bind_some, wrapU (by omega) (by omega), digits4 (by omega) (by omega) (by omega), Option.bind_some, appN (by simp), Option.bind_some, appN (by simp; omega), Option.bind_some]
  rfl
theorem rtakeFrame_f {K : Nat} {b : List Int} (hb : Bytes b) (hn : b.length ≤ 100000) (hk : 30000 ≤ K) : haywainref02_TakeFrame.f K b = some ((takeS b).1, (if (takeS b).2.2 = 0 then 8 + val 0 (b.take 4) else 0), (takeS b).2.2) := by
  unfold haywainref02_TakeFrame.f takeS
  by_cases h8 : b.length < 8
  · have : (b.length : Int) < 8 := by omega
    simp only [condD, if_pos this, if_pos h8]
    rfl
  have l4 : (b.take 4).length = 4 := by rw [List.length_take]; omega
  have v := val4_bd (hb.take 4) l4
  have h8' : ¬ (b.length : Int) < 8 := by omega
  simp only [condD, if_neg h8', if_neg h8, cut04 (show 8 ≤ b.length by omega), cutl04, Option.bind_some, value_f (hb.take 4) (by omega) (show 9 ≤ K by omega)]
  obtain ⟨N, hN⟩ := Int.eq_ofNat_of_zero_le v.1
  rw [hN] at v ⊢
  by_cases h1 : (N : Int) > 4000
  · rw [if_pos h1, if_pos (.inl h1)]; rfl
  rw [if_neg h1, wrapI (x := (b.length : Int) - 8) (by omega) (by omega), wrapI (x := (N : Int)) (by omega) (by omega)]
  by_cases h2 : (N : Int) > b.length - 8
  · rw [if_pos h2, if_pos (.inr h2)]; rfl
  have e8 : IntKind.wrap .i64 (8 + (N : Int)) = ((8 + N : Nat) : Int) := by rw [wrapI (by omega) (by omega)]; omega
  have bp : Bytes ((b.take (8 + N)).drop 8) := (hb.take _).drop _
  have lp : ((b.take (8 + N)).drop 8).length ≤ 4000 := by rw [List.length_drop, List.length_take]; omega
  have c1 : cutO b 8 ((8 + N : Nat) : Int) = some ((b.take (8 + N)).drop 8) := cutN (xs := b) (lo := 8) (by omega)
  have c2 : cutL b ((8 : Int).toNat) ((((8 + N : Nat) : Int)).toNat) = (b.take (8 + N)).drop 8 := by simp only [cutL, Int.toNat_natCast]; rfl
  have c3 : cutO b 0 ((8 + N : Nat) : Int) = some (b.take (8 + N)) := (cutN (xs := b) (lo := 0) (hi := 8 + N) (by omega)).trans (by simp)
  have c4 : cutL b ((0 : Int).toNat) ((((8 + N : Nat) : Int)).toNat) = b.take (8 + N) := by simp only [cutL, Int.toNat_natCast]; rfl
  rw [if_neg h2, if_neg (show ¬ ((N : Int) > 4000 ∨ (N : Int) > (b.length : Int) - 8) by omega), e8, c1, c2, c3, c4]
  simp only [Option.bind_some, rframe_f bp (show ((b.take (8 + N)).drop 8).length ≤ 20000 by omega) hk, Int.toNat_natCast, condNot]
  rw [strEq (frameS_bytes bp) (hb.take _)]
  have key := frame_iff hb (by omega) hN (show 8 + N ≤ b.length by omega)
  by_cases h3 : sumS (b.take 4 ++ (b.take (8 + N)).drop 8) = val 0 ((b.take 8).drop 4)
  · rw [if_pos h3, decide_eq_true (key.2 h3)]
    simp
  · rw [if_neg h3, decide_eq_false (fun h => h3 (key.1 h))]
    simp
theorem rtakeNum_f {K : Nat} {b : List Int} (hb : Bytes b) (hk : 9 ≤ K) : haywainref02_TakeNum.f K b = some (if b.length < 8 then (0, false) else (IntKind.wrap .i64 (val 0 (b.take 8)), true)) := by
  unfold haywainref02_TakeNum.f
  by_cases h8 : b.length < 8
  · have : (b.length : Int) < 8 := by omega
    simp only [condD, if_pos this, if_pos h8]
  have h8' : ¬ (b.length : Int) < 8 := by omega
  have c1 : cutO b 0 8 = some (b.take 8) := (cutN (xs := b) (lo := 0) (hi := 8) (by omega)).trans (by simp)
  have c2 : cutL b ((0 : Int).toNat) ((8 : Int).toNat) = b.take 8 := by simp [cutL]
  simp only [condD, if_neg h8', if_neg h8, c1, c2, Option.bind_some, value_f (hb.take 8) (show (b.take 8).length ≤ 8 by rw [List.length_take]; omega) hk]
end Go.Proofs.Ytkcpbehgjbionaa.Pure
