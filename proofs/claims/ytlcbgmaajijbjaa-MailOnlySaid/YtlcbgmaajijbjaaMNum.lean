/- Numbers as bytes: what the functions of code and of its reference answer, for mail. -/
import Derived.Test.YtlcbgmaajijbjaaBase
set_option linter.unusedVariables false
set_option linter.unusedSimpArgs false
namespace Go.Proofs.Ytlcbgmaajijbjaa.Pure
open Go Go.RowKit Go.Hw Go.Proofs.Ytlcbgmaajijbjaa.G
/-- One bit, one byte, all bytes of the sum. -/
def be4 (n : Int) : List Int := [n / 16777216 % 256, n / 65536 % 256, n / 256 % 256, n % 256]
def be8 (n : Int) : List Int := [n / 72057594037927936 % 256, n / 281474976710656 % 256, n / 1099511627776 % 256, n / 4294967296 % 256] ++ be4 n
theorem be4_bytes (n : Int) : Bytes (be4 n) := by
  intro x hx
  simp only [be4, List.mem_cons, List.not_mem_nil, or_false] at hx
  rcases hx with h | h | h | h <;> omega
theorem be8_bytes (n : Int) : Bytes (be8 n) := by
  refine Bytes.append ?_ (be4_bytes n)
  intro x hx
  simp only [List.mem_cons, List.not_mem_nil, or_false] at hx
  rcases hx with h | h | h | h <;> omega
@[simp] theorem be4_length (n : Int) : (be4 n).length = 4 := rfl
@[simp] theorem be8_length (n : Int) : (be8 n).length = 8 := rfl
theorem shrN (n : Int) (j : Nat) (hj : j ≤ 64) : shrI .u64 n (j : Int) = n / 2 ^ j := by
  show n.fdiv (2 ^ (min (j : Int).toNat 64)) = _
  rw [Int.toNat_natCast, Nat.min_eq_left hj, Int.fdiv_eq_ediv_of_nonneg _ (Int.le_of_lt (Int.pow_pos (by omega)))]
theorem put_step (K k : Nat) (n : Int) (m i : Nat) (l : List Int) (hm : m ≤ 8) (hi : i < m) (hl : l.length = m) : code_put.l1 K n m (k + 1) (l, (i : Int)) = code_put.l1 K n m k (l.set (m - 1 - i) (n / 2 ^ (8 * i) % 256), ((i + 1 : Nat) : Int)) := by
  rw [code_put.l1]
  have hlt : (i : Int) < (m : Int) := by omega
  have e1 : IntKind.wrap .i64 (8 * (i : Int)) = ((8 * i : Nat) : Int) := by rw [wrapI (by omega) (by omega)]; omega
  have e2 : IntKind.wrap .i64 (IntKind.wrap .i64 ((m : Int) - 1) - (i : Int)) = ((m - 1 - i : Nat) : Int) := by rw [wrapI (x := (m : Int) - 1) (by omega) (by omega), wrapI (by omega) (by omega)]; omega
  have e3 : IntKind.wrap .i64 ((i : Int) + 1) = ((i + 1 : Nat) : Int) := by rw [wrapI (by omega) (by omega)]; omega
  have e4 : shO ((8 * i : Nat) : Int) = some () := by rw [shO, if_pos (by omega)]
  have hj : m - 1 - i < l.length := by omega
  simp only [condD, if_pos hlt, e1, e2, e3, e4, Option.bind_some, idxN, List.getElem?_eq_getElem hj, shrN n _ (show 8 * i ≤ 64 by omega), wrapU8, Int.toNat_natCast]
theorem put_end (K k : Nat) (n : Int) (m : Nat) (l : List Int) : code_put.l1 K n m (k + 1) (l, (m : Int)) = some l := by
  rw [code_put.l1]
  simp [condD]
theorem put4_f {K : Nat} (n : Int) (hk : 5 ≤ K) : code_put.f K n 4 = some (be4 n) := by
  have h : ∀ k, code_put.l1 K n (4 : Nat) (k + 5) ([0, 0, 0, 0], ((0 : Nat) : Int)) = some (be4 n) := fun k => by
    rw [put_step K _ n 4 0 _ (by omega) (by omega) rfl, put_step K _ n 4 1 _ (by omega) (by omega) rfl, put_step K _ n 4 2 _ (by omega) (by omega) rfl, put_step K _ n 4 3 _ (by omega) (by omega) rfl, put_end]
    simp [be4]
  obtain ⟨k, rfl⟩ : ∃ m, K = m + 5 := ⟨K - 5, by omega⟩
  exact h k
theorem put8_f {K : Nat} (n : Int) (hk : 9 ≤ K) : code_put.f K n 8 = some (be8 n) := by
  have h : ∀ k, code_put.l1 K n (8 : Nat) (k + 9) ([0, 0, 0, 0, 0, 0, 0, 0], ((0 : Nat) : Int)) = some (be8 n) := fun k => by
    rw [put_step K _ n 8 0 _ (by omega) (by omega) rfl, put_step K _ n 8 1 _ (by omega) (by omega) rfl, put_step K _ n 8 2 _ (by omega) (by omega) rfl, put_step K _ n 8 3 _ (by omega) (by omega) rfl,
      put_step K _ n 8 4 _ (by omega) (by omega) rfl, put_step K _ n 8 5 _ (by omega) (by omega) rfl, put_step K _ n 8 6 _ (by omega) (by omega) rfl, put_step K _ n 8 7 _ (by omega) (by omega) rfl, put_end]
    simp [be8, be4]
  obtain ⟨k, rfl⟩ : ∃ m, K = m + 9 := ⟨K - 9, by omega⟩
  exact h k
theorem be4_mod (n : Int) : be4 (n % 18446744073709551616) = be4 n := by simp only [be4, List.cons.injEq, and_true]; refine ⟨by omega, by omega, by omega, by omega⟩
theorem be8_mod (n : Int) : be8 (n % 18446744073709551616) = be8 n := by
  unfold be8
  rw [be4_mod]
  congr 1
  simp only [List.cons.injEq, and_true]
  refine ⟨by omega, by omega, by omega, by omega⟩
theorem num_f {K : Nat} (n : Int) (hk : 9 ≤ K) : code_Num.f K n = some (be8 n) := by
  rw [code_Num.f, put8_f _ hk, Option.bind_some]
  congr 1
  have : IntKind.wrap .u64 n = n % 18446744073709551616 := by
    simp only [IntKind.wrap, IntKind.signed, IntKind.bits]
    simp
  rw [this, be8_mod]
theorem rest_f (K : Nat) {l : List Int} (h : l.length ≤ 140737488351232) : code_rest_f51.f K l = some l := by
  rw [code_rest_f51.f, appN (by simp only [List.length_nil]; omega)]; rfl
/-- The number of some bytes. -/
def val (n : Int) (l : List Int) : Int := l.foldl (fun n x => n * 256 + x) n
theorem val_bd (l : List Int) (hl : Bytes l) : ∀ n : Int, 0 ≤ n → 0 ≤ val n l ∧ val n l < (n + 1) * 256 ^ l.length := by
  induction l with
  | nil => intro n h; simp [val]; omega
  | cons x l ih =>
    intro n h
    have hx := hl x List.mem_cons_self
    have := ih (fun y hy => hl y (List.mem_cons_of_mem _ hy)) (n * 256 + x) (by omega)
    refine ⟨this.1, ?_⟩
    have h2 := this.2
    have h3 : (n * 256 + x + 1) * (256 : Int) ^ l.length ≤ ((n + 1) * 256) * 256 ^ l.length := Int.mul_le_mul_of_nonneg_right (by omega) (Int.le_of_lt (Int.pow_pos (by omega)))
    rw [List.length_cons, Int.pow_succ, Int.mul_comm (256 ^ l.length) 256, ← Int.mul_assoc]
    exact Int.lt_of_lt_of_le h2 h3
theorem val4_bd {l : List Int} (hl : Bytes l) (h : l.length = 4) : 0 ≤ val 0 l ∧ val 0 l < 4294967296 := by
  have := val_bd l hl 0 (by omega)
  rw [h] at this
  simpa using this
theorem val8_bd {l : List Int} (hl : Bytes l) (h : l.length = 8) : 0 ≤ val 0 l ∧ val 0 l < 18446744073709551616 := by
  have := val_bd l hl 0 (by omega)
  rw [h] at this
  simpa using this
theorem val_be4 (n : Int) : val 0 (be4 n) = n % 4294967296 := by simp only [val, be4, List.foldl]; omega
theorem val_be8 (n : Int) : val 0 (be8 n) = n % 18446744073709551616 := by simp only [val, be8, be4, List.foldl, List.cons_append, List.nil_append]; omega
theorem be4_val {l : List Int} (hl : Bytes l) (h : l.length = 4) : be4 (val 0 l) = l := by
  match l, h with
  | [a, b, c, d], _ =>
    have ha := hl a (by simp)
    have hb := hl b (by simp)
    have hc := hl c (by simp)
    have hd := hl d (by simp)
    simp only [val, be4, List.foldl, List.cons.injEq, and_true]
    omega
theorem be8_val {l : List Int} (hl : Bytes l) (h : l.length = 8) : be8 (val 0 l) = l := by
  match l, h with
  | [a, b, c, d, e, f, g, i], _ =>
    have ha := hl a (by simp)
    have hb := hl b (by simp)
    have hc := hl c (by simp)
    have hd := hl d (by simp)
    have he := hl e (by simp)
    have hf := hl f (by simp)
    have hg := hl g (by simp)
    have hi := hl i (by simp)
    simp only [val, be8, be4, List.foldl, List.cons_append, List.nil_append, List.cons.injEq, and_true]
    omega
theorem or8 (n : Nat) (x : Int) (hn : n * 256 < 18446744073709551616) (hx : 0 ≤ x ∧ x ≤ 255) : orI .u64 (shlI .u64 (n : Int) 8) (IntKind.wrap .u64 x) = (n : Int) * 256 + x := by
  have e1 : shlI .u64 (n : Int) 8 = ((n * 256 : Nat) : Int) := by
    show IntKind.wrap .u64 ((n : Int) * 2 ^ (min (8 : Int).toNat 64)) = _
    rw [show (2 : Int) ^ (min (8 : Int).toNat 64) = 256 from rfl, wrapU (by omega) (by omega)]
    omega
  obtain ⟨y, rfl⟩ := Int.eq_ofNat_of_zero_le hx.1
  rw [e1, wrapU (x := (y : Int)) (by omega) (by omega)]
  have e : orI .u64 ((n * 256 : Nat) : Int) (y : Int) = IntKind.u64.wrap (((BitVec.ofInt 64 ((n * 256 : Nat) : Int) ||| BitVec.ofInt 64 (y : Int)).toNat : Nat) : Int) := rfl
  rw [e, BitVec.ofInt_natCast, BitVec.ofInt_natCast, BitVec.toNat_or, BitVec.toNat_ofNat, BitVec.toNat_ofNat, Nat.mod_eq_of_lt hn, Nat.mod_eq_of_lt (by omega)]
  have := Nat.shiftLeft_add_eq_or_of_lt (b := y) (i := 8) (by omega) n
  rw [Nat.shiftLeft_eq] at this
  rw [← this, wrapU (by omega) (by omega)]
  omega
theorem get_loop (K : Nat) (l : List Int) (hl : Bytes l) (hn : l.length ≤ 8) : ∀ (k i : Nat) (n : Int), 0 ≤ n → n < 256 ^ i → i ≤ l.length → l.length < k + i → code_get_f50.l1 K l k (n, (i : Int)) = some (val n (l.drop i)) := by
  intro k
  induction k with
  | zero => intro i n h0 h1 hi hk; omega
  | succ k ih =>
    intro i n h0 h1 hi hk
    rw [code_get_f50.l1]
    by_cases h : i < l.length
    · have hx := hl _ (List.getElem_mem h)
      have hlt : (i : Int) < (l.length : Int) := by omega
      have hb : n < 72057594037927936 := by
        have : (256 : Int) ^ i ≤ 256 ^ 7 := by
          have : ((256 ^ i : Nat) : Int) ≤ ((256 ^ 7 : Nat) : Int) := Int.ofNat_le.2 (Nat.pow_le_pow_right (by omega) (by omega))
          simpa using this
        have e : (256 : Int) ^ 7 = 72057594037927936 := by decide
        omega
      obtain ⟨m, rfl⟩ := Int.eq_ofNat_of_zero_le h0
      simp only [condD, if_pos hlt, idxN, List.getElem?_eq_getElem h, Option.bind_some]
      rw [or8 m _ (by omega) hx, wrapI (by omega) (by omega), List.drop_eq_getElem_cons h]
      refine ih (i + 1) _ (by omega) ?_ h (by omega)
      rw [Int.pow_succ]; omega
    · have hlt : ¬ (i : Int) < (l.length : Int) := by omega
      simp only [condD, if_neg hlt, List.drop_eq_nil_of_le (show l.length ≤ i by omega)]
      rfl
theorem get_f {K : Nat} {l : List Int} (hl : Bytes l) (hn : l.length ≤ 8) (hk : 9 ≤ K) : code_get_f50.f K l = some (val 0 l) := by
  rw [code_get_f50.f]; exact get_loop K l hl hn K 0 0 (by omega) (by simp) (by omega) (by omega)
/-- A payload's frame. -/
theorem takeNum_f {K : Nat} {b : List Int} (hb : Bytes b) (hn : b.length ≤ 140737488351232) (hk : 9 ≤ K) : code_TakeNum_f44.f K b = some (if b.length < 8 then (0, [], 2) else (IntKind.wrap .i64 (val 0 (b.take 8)), b.drop 8, 0)) := by
  unfold code_TakeNum_f44.f
  by_cases h8 : b.length < 8
  · have : (b.length : Int) < 8 := by omega
    simp only [condD, if_pos this, if_pos h8]
  have h8' : ¬ (b.length : Int) < 8 := by omega
  have c1 : cutO b 0 8 = some (b.take 8) := (cutN (xs := b) (lo := 0) (hi := 8) (by omega)).trans (by simp)
  have c2 : cutL b ((0 : Int).toNat) ((8 : Int).toNat) = b.take 8 := by simp [cutL]
  have c3 : cutO b 8 (b.length : Int) = some (b.drop 8) := (cutN (xs := b) (lo := 8) (hi := b.length) (by omega)).trans (by rw [List.take_length])
  have c4 : cutL b ((8 : Int).toNat) (((b.length : Int)).toNat) = b.drop 8 := by simp [cutL]
  simp only [condD, if_neg h8', if_neg h8, c1, c2, c3, c4, Option.bind_some, get_f (hb.take 8) (show (b.take 8).length ≤ 8 by rw [List.length_take]; omega) hk, rest_f K (show (b.drop 8).length ≤ 140737488351232 by rw [List.length_drop]; omega)]
theorem tdivN (a : Int) (b : Nat) (h : 0 ≤ a) : a.tdiv (b : Int) = a / b := Int.tdiv_eq_ediv_of_nonneg h
theorem tmodN (a : Int) (b : Nat) (h : 0 ≤ a) : a.tmod (b : Int) = a % b := Int.tmod_eq_emod_of_nonneg h
def digS : Nat → Int → List Int
  | 0, _ => []
  | m + 1, n => digS m (n / 256) ++ [n % 256]
theorem digS_len : ∀ (m : Nat) (n : Int), (digS m n).length = m
  | 0, _ => rfl
  | m + 1, n => by simp [digS, digS_len m]
theorem digits_r (K : Nat) : ∀ (m k : Nat) (n : Int), m ≤ 8 → m < k → 0 ≤ n → n ≤ 18446744073709551615 → haywainref02_Digits.r K k n (m : Int) = some (digS m n) := by
  intro m
  induction m with
  | zero =>
    intro k n _ hk h0 h1
    obtain ⟨k, rfl⟩ : ∃ j, k = j + 1 := ⟨k - 1, by omega⟩
    rw [haywainref02_Digits.r]
    simp [digS]
  | succ m ih =>
    intro k n hm hk h0 h1
    obtain ⟨k, rfl⟩ : ∃ j, k = j + 1 := ⟨k - 1, by omega⟩
    have t1 := tmodN n 256 h0
    have t2 := tdivN n 256 h0
    have e1 : remO n 256 = some (n % 256) := by rw [remO, if_neg (by omega)]; exact congrArg some t1
    have e2 : divO .u64 n 256 = some (n / 256) := by rw [divO, if_neg (by omega)]; rw [show n.tdiv 256 = n / 256 from t2, wrapU (by omega) (by omega)]
    have h00 : ¬ (((m + 1 : Nat) : Int) = 0) := by omega
    have e3 : IntKind.wrap .i64 (((m + 1 : Nat) : Int) - 1) = (m : Int) := by rw [wrapI (by omega) (by omega)]; omega
    rw [haywainref02_Digits.r]
    simp only [condB, if_neg h00, e1, e2, Option.bind_some, e3, show n.tdiv 256 = n / 256 from t2, show n.tmod 256 = n % 256 from t1]
    rw [wrapU (x := n / 256) (by omega) (by omega), ih k _ (by omega) (by omega) (by omega) (by omega), Option.bind_some, wrapU8, appN (by simp only [digS_len, List.length_cons, List.length_nil]; omega), Option.bind_some]
    simp only [digS, Int.emod_emod_of_dvd n (Int.dvd_refl 256)]
theorem digits4 {K : Nat} {n : Int} (hK : 9 ≤ K) (h0 : 0 ≤ n) (h1 : n ≤ 18446744073709551615) : haywainref02_Digits.f K n 4 = some (be4 n) := by
  have := digits_r K 4 K n (by omega) (by omega) h0 h1
  rw [haywainref02_Digits.f, show (4 : Int) = ((4 : Nat) : Int) from rfl, this]
  simp only [digS, be4, List.nil_append, List.cons_append, Option.some.injEq, List.cons.injEq, and_true]
  and_intros <;> omega
theorem digits8 {K : Nat} {n : Int} (hK : 9 ≤ K) (h0 : 0 ≤ n) (h1 : n ≤ 18446744073709551615) : haywainref02_Digits.f K n 8 = some (be8 n) := by
  have := digits_r K 8 K n (by omega) (by omega) h0 h1
  rw [haywainref02_Digits.f, show (8 : Int) = ((8 : Nat) : Int) from rfl, this]
  simp only [digS, be8, be4, List.nil_append, List.cons_append, Option.some.injEq, List.cons.injEq, and_true]
  and_intros <;> omega
theorem wrapU_mod (n : Int) : IntKind.wrap .u64 n = n % 18446744073709551616 := by
  simp only [IntKind.wrap, IntKind.signed, IntKind.bits]
  simp
theorem rnum_f {K : Nat} (n : Int) (hK : 9 ≤ K) : haywainref02_Num.f K n = some (be8 n) := by
  rw [haywainref02_Num.f, wrapU_mod, digits8 hK (by omega) (by omega), Option.bind_some, be8_mod]
theorem value_loop (K : Nat) (l : List Int) (hl : Bytes l) (hn : l.length ≤ 8) : ∀ (k i : Nat) (n : Int), 0 ≤ n → n < 256 ^ i → i ≤ l.length → l.length < k + i → haywainref02_Value.l1 K l k (n, (i : Int)) = some (val n (l.drop i)) := by
  intro k
  induction k with
  | zero => intro i n h0 h1 hi hk; omega
  | succ k ih =>
    intro i n h0 h1 hi hk
    rw [haywainref02_Value.l1]
    by_cases h : i < l.length
    · have hx := hl _ (List.getElem_mem h)
      have hlt : (i : Int) < (l.length : Int) := by omega
      have hb : n < 72057594037927936 := by
        have : (256 : Int) ^ i ≤ 256 ^ 7 := by
          have : ((256 ^ i : Nat) : Int) ≤ ((256 ^ 7 : Nat) : Int) := Int.ofNat_le.2 (Nat.pow_le_pow_right (by omega) (by omega))
          simpa using this
        have e : (256 : Int) ^ 7 = 72057594037927936 := by decide
        omega
      simp only [condD, if_pos hlt, idxN, List.getElem?_eq_getElem h, Option.bind_some]
      rw [wrapU (x := n * 256) (by omega) (by omega), wrapU (x := l[i]) (by omega) (by omega), wrapU (by omega) (by omega), wrapI (by omega) (by omega), List.drop_eq_getElem_cons h]
      refine ih (i + 1) _ (by omega) ?_ h (by omega)
      rw [Int.pow_succ]; omega
    · have hlt : ¬ (i : Int) < (l.length : Int) := by omega
      simp only [condD, if_neg hlt, List.drop_eq_nil_of_le (show l.length ≤ i by omega)]
      rfl
theorem value_f {K : Nat} {l : List Int} (hl : Bytes l) (hn : l.length ≤ 8) (hk : 9 ≤ K) : haywainref02_Value.f K l = some (val 0 l) := by
  rw [haywainref02_Value.f]; exact value_loop K l hl hn K 0 0 (by omega) (by simp) (by omega) (by omega)
theorem rtakeNum_f {K : Nat} {b : List Int} (hb : Bytes b) (hk : 9 ≤ K) : haywainref02_TakeNum.f K b = some (if b.length < 8 then (0, false) else (IntKind.wrap .i64 (val 0 (b.take 8)), true)) := by
  unfold haywainref02_TakeNum.f
  by_cases h8 : b.length < 8
  · have : (b.length : Int) < 8 := by omega
    simp only [condD, if_pos this, if_pos h8]
  have h8' : ¬ (b.length : Int) < 8 := by omega
  have c1 : cutO b 0 8 = some (b.take 8) := (cutN (xs := b) (lo := 0) (hi := 8) (by omega)).trans (by simp)
  have c2 : cutL b ((0 : Int).toNat) ((8 : Int).toNat) = b.take 8 := by simp [cutL]
  simp only [condD, if_neg h8', if_neg h8, c1, c2, Option.bind_some, value_f (hb.take 8) (show (b.take 8).length ≤ 8 by rw [List.length_take]; omega) hk]
end Go.Proofs.Ytlcbgmaajijbjaa.Pure
