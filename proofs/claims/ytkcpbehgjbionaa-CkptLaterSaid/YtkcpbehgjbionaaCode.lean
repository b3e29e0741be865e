/- Numbers, sums and frames: what the program's functions answer. -/
import Derived.Test.YtkcpbehgjbionaaBase
set_option linter.unusedVariables false
set_option linter.unusedSimpArgs false
namespace Go.Proofs.Ytkcpbehgjbionaa.Pure
open Go Go.RowKit Go.Hw Go.Proofs.Ytkcpbehgjbionaa.G
/-- One bit, one byte, all bytes of the sum. -/
def bs (c : Nat) : Nat := if c % 2 = 1 then c / 2 ^^^ 3988292384 else c / 2
def by8 (c : Nat) : Nat := bs (bs (bs (bs (bs (bs (bs (bs c)))))))
def crc (c : Nat) (l : List Int) : Nat := l.foldl (fun c x => by8 (c ^^^ x.toNat)) c
def sumS (l : List Int) : Int := ((crc 4294967295 l ^^^ 4294967295 : Nat) : Int)
theorem xor_lt {a b : Nat} (h : a < 4294967296) (k : b < 4294967296) : a ^^^ b < 4294967296 := Nat.xor_lt_two_pow (n := 32) h k
theorem bs_lt {c : Nat} (h : c < 4294967296) : bs c < 4294967296 := by
  unfold bs; split
  · exact xor_lt (by omega) (by omega)
  · omega
theorem by8_lt {c : Nat} (h : c < 4294967296) : by8 c < 4294967296 := bs_lt (bs_lt (bs_lt (bs_lt (bs_lt (bs_lt (bs_lt (bs_lt h)))))))
theorem crc_lt (l : List Int) (hl : Bytes l) : ∀ c, c < 4294967296 → crc c l < 4294967296 := by
  induction l with
  | nil => intro c hc; exact hc
  | cons x l ih =>
    intro c hc
    have := hl x List.mem_cons_self
    exact ih (fun y hy => hl y (List.mem_cons_of_mem _ hy)) _ (by8_lt (xor_lt hc (by omega)))
theorem sumS_bd (l : List Int) (hl : Bytes l) : 0 ≤ sumS l ∧ sumS l ≤ 4294967295 := by
  unfold sumS
  have := xor_lt (crc_lt l hl 4294967295 (by omega)) (show 4294967295 < 4294967296 by omega)
  omega
theorem xor32 (a b : Nat) (ha : a < 4294967296) (hb : b < 4294967296) : xorI .u32 (a : Int) (b : Int) = ((a ^^^ b : Nat) : Int) := by
  have h := xor_lt ha hb
  have e : xorI .u32 (a : Int) (b : Int) = IntKind.u32.wrap (((BitVec.ofInt 32 (a : Int) ^^^ BitVec.ofInt 32 (b : Int)).toNat : Nat) : Int) := rfl
  rw [e, BitVec.ofInt_natCast, BitVec.ofInt_natCast, BitVec.toNat_xor, BitVec.toNat_ofNat, BitVec.toNat_ofNat, Nat.mod_eq_of_lt ha, Nat.mod_eq_of_lt hb]
  exact wrapU32 (by omega) (by omega)
theorem and1 (a : Nat) (ha : a < 4294967296) : andI .u32 (a : Int) 1 = ((a % 2 : Nat) : Int) := by
  have e : andI .u32 (a : Int) 1 = IntKind.u32.wrap (((BitVec.ofInt 32 (a : Int) &&& BitVec.ofInt 32 1).toNat : Nat) : Int) := rfl
  rw [e, BitVec.ofInt_natCast, show (1 : Int) = ((1 : Nat) : Int) from rfl, BitVec.ofInt_natCast, BitVec.toNat_and, BitVec.toNat_ofNat, BitVec.toNat_ofNat, Nat.mod_eq_of_lt ha, show 1 % 2 ^ 32 = 1 from rfl, Nat.and_one_is_mod]
  exact wrapU32 (by omega) (by omega)
theorem shr1 (a : Nat) : shrI .u32 (a : Int) 1 = ((a / 2 : Nat) : Int) := by
  show (a : Int).fdiv (2 ^ (min (1 : Int).toNat 32)) = _
  rw [show (2 : Int) ^ (min (1 : Int).toNat 32) = 2 from rfl, Int.fdiv_eq_ediv_of_nonneg _ (by omega)]
  omega
theorem not32 (a : Nat) (ha : a < 4294967296) : notI .u32 (a : Int) = ((a ^^^ 4294967295 : Nat) : Int) := by
  have := xor32 4294967295 a (by omega) ha
  rw [Nat.xor_comm] at this
  exact this
theorem sum_bit (K k c : Nat) (j : Int) (hc : c < 4294967296) (h0 : 0 ≤ j) (h8 : j < 8) : code_Sum.l80 K (k + 1) ((c : Int), j) = code_Sum.l80 K k ((bs c : Nat), j + 1) := by
  rw [code_Sum.l80]
  simp only [condD, if_pos h8, condB, and1 c hc, shr1, wrapI (x := j + 1) (by omega) (by omega)]
  unfold bs
  by_cases h : c % 2 = 1
  · rw [if_pos (by omega), if_pos h, ← xor32 (c / 2) 3988292384 (by omega) (by omega)]; rfl
  · rw [if_neg (by omega), if_neg h]
theorem sum_byte (K k c : Nat) (hc : c < 4294967296) : code_Sum.l80 K (k + 9) ((c : Int), 0) = some ((by8 c : Nat) : Int) := by
  have h1 := bs_lt hc
  have h2 := bs_lt h1
  have h3 := bs_lt h2
  have h4 := bs_lt h3
  have h5 := bs_lt h4
  have h6 := bs_lt h5
  have h7 := bs_lt h6
  rw [sum_bit K _ _ _ hc (by omega) (by omega), sum_bit K _ _ _ h1 (by omega) (by omega), sum_bit K _ _ _ h2 (by omega) (by omega), sum_bit K _ _ _ h3 (by omega) (by omega),
    sum_bit K _ _ _ h4 (by omega) (by omega), sum_bit K _ _ _ h5 (by omega) (by omega), sum_bit K _ _ _ h6 (by omega) (by omega), sum_bit K _ _ _ h7 (by omega) (by omega), code_Sum.l80]
  rfl
theorem xbyte {c : Nat} {x : Int} (hc : c < 4294967296) (hx : 0 ≤ x ∧ x ≤ 255) : xorI .u32 (c : Int) (IntKind.wrap .u32 x) = ((c ^^^ x.toNat : Nat) : Int) := by
  rw [wrapU32 (x := x) (by omega) (by omega), ← xor32 c x.toNat hc (by omega)]
  congr 1
  omega
theorem crc_drop {l : List Int} {i c : Nat} (h : i < l.length) : crc c (l.drop i) = crc (by8 (c ^^^ l[i].toNat)) (l.drop (i + 1)) := by
  rw [List.drop_eq_getElem_cons h]; rfl
theorem sum_loop {K : Nat} (hK : 9 ≤ K) (l : List Int) (hl : Bytes l) (hn : l.length ≤ 140737488351232) : ∀ (k c i : Nat), c < 4294967296 → i ≤ l.length → l.length < k + i →
    code_Sum.l1 K l k ((c : Int), (i : Int)) = some ((crc c (l.drop i) ^^^ 4294967295 : Nat) : Int) := by
  intro k
  induction k with
  | zero => intro c i hc hi hk; omega
  | succ k ih =>
    intro c i hc hi hk
    rw [code_Sum.l1]
    by_cases h : i < l.length
    · have hx := hl _ (List.getElem_mem h)
      obtain ⟨K', rfl⟩ : ∃ m, K = m + 9 := ⟨K - 9, by omega⟩
      have hlt : (i : Int) < (l.length : Int) := by omega
      simp only [condD, if_pos hlt, idxN, List.getElem?_eq_getElem h, Option.bind_some, xbyte hc hx, sum_byte _ _ _ (xor_lt hc (show l[i].toNat < 4294967296 by omega))]
      rw [wrapI (by omega) (by omega), crc_drop h]
      exact ih _ (i + 1) (by8_lt (xor_lt hc (by omega))) h (by omega)
    · have hlt : ¬ (i : Int) < (l.length : Int) := by omega
      simp only [condD, if_neg hlt, not32 c hc, List.drop_eq_nil_of_le (show l.length ≤ i by omega)]
      rfl
theorem sum_f {K : Nat} {l : List Int} (hl : Bytes l) (hn : l.length ≤ 140737488351232) (hK : l.length + 9 ≤ K) : code_Sum.f K l = some (sumS l) := by
  rw [code_Sum.f]; exact sum_loop (by omega) l hl hn K 4294967295 0 (by omega) (by omega) (by omega)
/-- A number's bytes: four, eight. -/
def be4 (n : Int) : List Int := [n / 16777216 % 256, n / 65536 % 256, n / 256 % 256, n % 256]
def be8 (n : Int) : List Int := [n / 72057594037927936 % 256, n / 281474976710656 % 256, n / 1099511627776 % 256, n / 4294967296 % 256] ++ be4 n
theorem be4_bytes (n : Int) : Bytes (be4 n) := by
  intro x hx
  simp only [be4, List.mem_cons, List.not_mem_nil, or_false] at hx
  rcases hx with h | h | h | h <;> omega
theorem be8_bytes (n : Int) : Bytes (be8 n) := by
  refine Bytes.append ?_ (be4_bytes n)
  intro x hx
  simp only [List.mem_cons, List.not_mem_nil, or_false] at hx
  rcases hx with h | h | h | h <;> omega
@[simp] theorem be4_length (n : Int) : (be4 n).length = 4 := rfl
@[simp] theorem be8_length (n : Int) : (be8 n).length = 8 := rfl
theorem shrN (n : Int) (j : Nat) (hj : j ≤ 64) : shrI .u64 n (j : Int) = n / 2 ^ j := by
  show n.fdiv (2 ^ (min (j : Int).toNat 64)) = _
  rw [Int.toNat_natCast, Nat.min_eq_left hj, Int.fdiv_eq_ediv_of_nonneg _ (Int.le_of_lt (Int.pow_pos (by omega)))]
theorem put_step (K k : Nat) (n : Int) (m i : Nat) (l : List Int) (hm : m ≤ 8) (hi : i < m) (hl : l.length = m) : code_put.l1 K n m (k + 1) (l, (i : Int)) = code_put.l1 K n m k (l.set (m - 1 - i) (n / 2 ^ (8 * i) % 256), ((i + 1 : Nat) : Int)) := by
  rw [code_put.l1]
  have hlt : (i : Int) < (m : Int) := by omega
  have e1 : IntKind.wrap .i64 (8 * (i : Int)) = ((8 * i : Nat) : Int) := by rw [wrapI (by omega) (by omega)]; omega
  have e2 : IntKind.wrap .i64 (IntKind.wrap .i64 ((m : Int) - 1) - (i : Int)) = ((m - 1 - i : Nat) : Int) := by rw [wrapI (x := (m : Int) - 1) (by omega) (by omega), wrapI (by omega) (by omega)]; omega
  have e3 : IntKind.wrap .i64 ((i : Int) + 1) = ((i + 1 : Nat) : Int) := by rw [wrapI (by omega) (by omega)]; omega
  have e4 : shO ((8 * i : Nat) : Int) = some () := by rw [shO, if_pos (by omega)]
  have hj : m - 1 - i < l.length := by omega
  simp only [condD, if_pos hlt, e1, e2, e3, e4, Option.bind_some, idxN, List.getElem?_eq_getElem hj, shrN n _ (show 8 * i ≤ 64 by omega), wrapU8, Int.toNat_natCast]
theorem put_end (K k : Nat) (n : Int) (m : Nat) (l : List Int) : code_put.l1 K n m (k + 1) (l, (m : Int)) = some l := by
  rw [code_put.l1]
  simp [condD]
theorem put4_f {K : Nat} (n : Int) (hk : 5 ≤ K) : code_put.f K n 4 = some (be4 n) := by
  have h : ∀ k, code_put.l1 K n (4 : Nat) (k + 5) ([0, 0, 0, 0], ((0 : Nat) : Int)) = some (be4 n) := fun k => by
    rw [put_step K _ n 4 0 _ (by omega) (by omega) rfl, put_step K _ n 4 1 _ (by omega) (by omega) rfl, put_step K _ n 4 2 _ (by omega) (by omega) rfl, put_step K _ n 4 3 _ (by omega) (by omega) rfl, put_end]
    simp [be4]
  obtain ⟨k, rfl⟩ : ∃ m, K = m + 5 := ⟨K - 5, by omega⟩
  exact h k
theorem put8_f {K : Nat} (n : Int) (hk : 9 ≤ K) : code_put.f K n 8 = some (be8 n) := by
  have h : ∀ k, code_put.l1 K n (8 : Nat) (k + 9) ([0, 0, 0, 0, 0, 0, 0, 0], ((0 : Nat) : Int)) = some (be8 n) := fun k => by
    rw [put_step K _ n 8 0 _ (by omega) (by omega) rfl, put_step K _ n 8 1 _ (by omega) (by omega) rfl, put_step K _ n 8 2 _ (by omega) (by omega) rfl, put_step K _ n 8 3 _ (by omega) (by omega) rfl,
      put_step K _ n 8 4 _ (by omega) (by omega) rfl, put_step K _ n 8 5 _ (by omega) (by omega) rfl, put_step K _ n 8 6 _ (by omega) (by omega) rfl, put_step K _ n 8 7 _ (by omega) (by omega) rfl, put_end]
    simp [be8, be4]
  obtain ⟨k, rfl⟩ : ∃ m, K = m + 9 := ⟨K - 9, by omega⟩
  exact h k
theorem be4_mod (n : Int) : be4 (n % 18446744073709551616) = be4 n := by simp only [be4, List.cons.injEq, and_true]; refine ⟨by omega, by omega, by omega, by omega⟩
theorem be8_mod (n : Int) : be8 (n % 18446744073709551616) = be8 n := by
  unfold be8
  rw [be4_mod]
  congr 1
  simp only [List.cons.injEq, and_true]
  refine ⟨by omega, by omega, by omega, by omega⟩
theorem num_f {K : Nat} (n : Int) (hk : 9 ≤ K) : code_Num.f K n = some (be8 n) := by
  rw [code_Num.f, put8_f _ hk, Option.bind_some]
  congr 1
  have : IntKind.wrap .u64 n = n % 18446744073709551616 := by
    simp only [IntKind.wrap, IntKind.signed, IntKind.bits]
    simp
  rw [this, be8_mod]
theorem rest_f (K : Nat) {l : List Int} (h : l.length ≤ 140737488351232) : code_rest.f K l = some l := by
  rw [code_rest.f, appN (by simp only [List.length_nil]; omega)]; rfl
/-- The number of some bytes. -/
def val (n : Int) (l : List Int) : Int := l.foldl (fun n x => n * 256 + x) n
theorem val_bd (l : List Int) (hl : Bytes l) : ∀ n : Int, 0 ≤ n → 0 ≤ val n l ∧ val n l < (n + 1) * 256 ^ l.length := by
  induction l with
  | nil => intro n h; simp [val]; omega
  | cons x l ih =>
    intro n h
    have hx := hl x List.mem_cons_self
    have := ih (fun y hy => hl y (List.mem_cons_of_mem _ hy)) (n * 256 + x) (by omega)
    refine ⟨this.1, ?_⟩
    have h2 := this.2
    have h3 : (n * 256 + x + 1) * (256 : Int) ^ l.length ≤ ((n + 1) * 256) * 256 ^ l.length := Int.mul_le_mul_of_nonneg_right (by omega) (Int.le_of_lt (Int.pow_pos (by omega)))
    rw [List.length_cons, Int.pow_succ, Int.mul_comm (256 ^ l.length) 256, ← Int.mul_assoc]
    exact Int.lt_of_lt_of_le h2 h3
theorem val4_bd {l : List Int} (hl : Bytes l) (h : l.length = 4) : 0 ≤ val 0 l ∧ val 0 l < 4294967296 := by
  have := val_bd l hl 0 (by omega)
  rw [h] at this
  simpa using this
theorem val8_bd {l : List Int} (hl : Bytes l) (h : l.length = 8) : 0 ≤ val 0 l ∧ val 0 l < 18446744073709551616 := by
  have := val_bd l hl 0 (by omega)
  rw [h] at this
  simpa using this
theorem val_be4 (n : Int) : val 0 (be4 n) = n % 4294967296 := by simp only [val, be4, List.foldl]; omega
theorem val_be8 (n : Int) : val 0 (be8 n) = n % 18446744073709551616 := by simp only [val, be8, be4, List.foldl, List.cons_append, List.nil_append]; omega
theorem be4_val {l : List Int} (hl : Bytes l) (h : l.length = 4) : be4 (val 0 l) = l := by
  match l, h with
  | [a, b, c, d], _ =>
    have ha := hl a (by simp)
    have hb := hl b (by simp)
    have hc := hl c (by simp)
    have hd := hl d (by simp)
    simp only [val, be4, List.foldl, List.cons.injEq, and_true]
    omega
theorem be8_val {l : List Int} (hl : Bytes l) (h : l.length = 8) : be8 (val 0 l) = l := by
  match l, h with
  | [a, b, c, d, e, f, g, i], _ =>
    have ha := hl a (by simp)
    have hb := hl b (by simp)
    have hc := hl c (by simp)
    have hd := hl d (by simp)
    have he := hl e (by simp)
    have hf := hl f (by simp)
    have hg := hl g (by simp)
    have hi := hl i (by simp)
    simp only [val, be8, be4, List.foldl, List.cons_append, List.nil_append, List.cons.injEq, and_true]
    omega
theorem or8 (n : Nat) (x : Int) (hn : n * 256 < 18446744073709551616) (hx : 0 ≤ x ∧ x ≤ 255) : orI .u64 (shlI .u64 (n : Int) 8) (IntKind.wrap .u64 x) = (n : Int) * 256 + x := by
  have e1 : shlI .u64 (n : Int) 8 = ((n * 256 : Nat) : Int) := by
    show IntKind.wrap .u64 ((n : Int) * 2 ^ (min (8 : Int).toNat 64)) = _
    rw [show (2 : Int) ^ (min (8 : Int).toNat 64) = 256 from rfl, wrapU (by omega) (by omega)]
    omega
  obtain ⟨y, rfl⟩ := Int.eq_ofNat_of_zero_le hx.1
  rw [e1, wrapU (x := (y : Int)) (by omega) (by omega)]
  have e : orI .u64 ((n * 256 : Nat) : Int) (y : Int) = IntKind.u64.wrap (((BitVec.ofInt 64 ((n * 256 : Nat) : Int) ||| BitVec.ofInt 64 (y : Int)).toNat : Nat) : Int) := rfl
  rw [e, BitVec.ofInt_natCast, BitVec.ofInt_natCast, BitVec.toNat_or, BitVec.toNat_ofNat, BitVec.toNat_ofNat, Nat.mod_eq_of_lt hn, Nat.mod_eq_of_lt (by omega)]
  have := Nat.shiftLeft_add_eq_or_of_lt (b := y) (i := 8) (by omega) n
  rw [Nat.shiftLeft_eq] at this
  rw [← this, wrapU (by omega) (by omega)]
  omega
theorem cget_loop (K : Nat) (l : List Int) (hl : Bytes l) (hn : l.length ≤ 8) : ∀ (k i : Nat) (n : Int), 0 ≤ n → n < 256 ^ i → i ≤ l.length → l.length < k + i → code_get.l1 K l k (n, (i : Int)) = some (val n (l.drop i)) := by
  intro k
  induction k with
  | zero => intro i n h0 h1 hi hk; omega
  | succ k ih =>
    intro i n h0 h1 hi hk
    rw [code_get.l1]
    by_cases h : i < l.length
    · have hx := hl _ (List.getElem_mem h)
      have hlt : (i : Int) < (l.length : Int) := by omega
      have hb : n < 72057594037927936 := by
        have : (256 : Int) ^ i ≤ 256 ^ 7 := by
          have : ((256 ^ i : Nat) : Int) ≤ ((256 ^ 7 : Nat) : Int) := Int.ofNat_le.2 (Nat.pow_le_pow_right (by omega) (by omega))
          simpa using this
        have e : (256 : Int) ^ 7 = 72057594037927936 := by decide
        omega
      obtain ⟨m, rfl⟩ := Int.eq_ofNat_of_zero_le h0
      simp only [condD, if_pos hlt, idxN, List.getElem?_eq_getElem h, Option.bind_some]
      rw [or8 m _ (by omega) hx, wrapI (by omega) (by omega), List.drop_eq_getElem_cons h]
      refine ih (i + 1) _ (by omega) ?_ h (by omega)
      rw [Int.pow_succ]; omega
    · have hlt : ¬ (i : Int) < (l.length : Int) := by omega
      simp only [condD, if_neg hlt, List.drop_eq_nil_of_le (show l.length ≤ i by omega)]
      rfl
theorem cget_f {K : Nat} {l : List Int} (hl : Bytes l) (hn : l.length ≤ 8) (hk : 9 ≤ K) : code_get.f K l = some (val 0 l) := by
  rw [code_get.f]; exact cget_loop K l hl hn K 0 0 (by omega) (by simp) (by omega) (by omega)
/-- A payload's frame. -/
def frameS (l : List Int) : List Int := be4 l.length ++ be4 (sumS (be4 l.length ++ l)) ++ l
theorem frameS_bytes {l : List Int} (h : Bytes l) : Bytes (frameS l) := ((be4_bytes _).append (be4_bytes _)).append h
theorem frameS_length (l : List Int) : (frameS l).length = l.length + 8 := by simp [frameS]; omega
theorem frame_f {K : Nat} {l : List Int} (hl : Bytes l) (hn : l.length ≤ 4000) (hk : 5000 ≤ K) : code_Frame.f K l = some (frameS l, 0) := by
  have hb := Bytes.append (be4_bytes l.length) hl
  have hs := sumS_bd _ hb
  have h1 : ¬ (l.length : Int) > 4000 := by omega
  unfold code_Frame.f
  simp only [condD, if_neg h1]
  rw [wrapU (by omega) (by omega), put4_f _ (by omega), Option.bind_some, rest_f _ (by simp), Option.bind_some, appN (by simp; omega), Option.bind_some, sum_f hb (by simp; omega) (by simp; omega), Option.bind_some, wrapU (by omega) (by omega), put4_f _ (by omega), Option.bind_some, appN (by simp), Option.bind_some, appN (by simp; omega), Option.bind_some]
  rfl
theorem frame_full {K : Nat} {l : List Int} (hn : 4000 < l.length) : code_Frame.f K l = some ([], 3) := by
  have h1 : (l.length : Int) > 4000 := by omega
  unfold code_Frame.f
  simp only [condD, if_pos h1]
/-- What is taken of bytes. -/
def takeS (b : List Int) : List Int × List Int × Int :=
  if b.length < 8 then ([], [], 2) else
  if val 0 (b.take 4) > 4000 ∨ val 0 (b.take 4) > b.length - 8 then ([], [], 2) else
  if sumS (b.take 4 ++ (b.take (8 + (val 0 (b.take 4)).toNat)).drop 8) = val 0 ((b.take 8).drop 4) then ((b.take (8 + (val 0 (b.take 4)).toNat)).drop 8, b.drop (8 + (val 0 (b.take 4)).toNat), 0) else ([], [], 7)
theorem cut04 {b : List Int} (h : 8 ≤ b.length) : cutO b 0 4 = some (b.take 4) := (cutN (xs := b) (lo := 0) (hi := 4) (by omega)).trans (by simp)
theorem cutl04 {b : List Int} : cutL b ((0 : Int).toNat) ((4 : Int).toNat) = b.take 4 := by simp [cutL]
theorem cut48 {b : List Int} (h : 8 ≤ b.length) : cutO b 4 8 = some ((b.take 8).drop 4) := cutN (xs := b) (lo := 4) (hi := 8) (by omega)
theorem cutl48 {b : List Int} : cutL b ((4 : Int).toNat) ((8 : Int).toNat) = (b.take 8).drop 4 := by simp [cutL]
theorem takeFrame_f {K : Nat} {b : List Int} (hb : Bytes b) (hn : b.length ≤ 140737488351232) (hk : 5000 ≤ K) : code_TakeFrame.f K b = some (takeS b) := by
  unfold code_TakeFrame.f takeS
  by_cases h8 : b.length < 8
  · have : (b.length : Int) < 8 := by omega
    simp only [condD, if_pos this, if_pos h8]
  have l4 : (b.take 4).length = 4 := by rw [List.length_take]; omega
  have l44 : ((b.take 8).drop 4).length = 4 := by rw [List.length_drop, List.length_take]; omega
  have v := val4_bd (hb.take 4) l4
  have v2 := val4_bd ((hb.take 8).drop 4) l44
  have h8' : ¬ (b.length : Int) < 8 := by omega
  simp only [condD, if_neg h8', if_neg h8, cut04 (show 8 ≤ b.length by omega), cutl04, cut48 (show 8 ≤ b.length by omega), cutl48, Option.bind_some, cget_f (hb.take 4) (by omega) (show 9 ≤ K by omega), cget_f ((hb.take 8).drop 4) (by omega) (show 9 ≤ K by omega)]
  obtain ⟨N, hN⟩ := Int.eq_ofNat_of_zero_le v.1
  rw [hN] at v ⊢
  by_cases h1 : (N : Int) > 4000
  · rw [if_pos h1, if_pos (.inl h1)]
  rw [if_neg h1, wrapI (x := (b.length : Int) - 8) (by omega) (by omega), wrapU (x := (b.length : Int) - 8) (by omega) (by omega)]
  by_cases h2 : (N : Int) > b.length - 8
  · rw [if_pos h2, if_pos (.inr h2)]
  have e8 : IntKind.wrap .u64 (8 + (N : Int)) = ((8 + N : Nat) : Int) := by rw [wrapU (by omega) (by omega)]; omega
  have bp : Bytes ((b.take (8 + N)).drop 8) := (hb.take _).drop _
  have lp : ((b.take (8 + N)).drop 8).length ≤ 4000 := by rw [List.length_drop, List.length_take]; omega
  have c1 : cutO b 8 ((8 + N : Nat) : Int) = some ((b.take (8 + N)).drop 8) := cutN (xs := b) (lo := 8) (by omega)
  have c2 : cutL b ((8 : Int).toNat) ((((8 + N : Nat) : Int)).toNat) = (b.take (8 + N)).drop 8 := by simp only [cutL, Int.toNat_natCast]; rfl
  have c3 : cutO b ((8 + N : Nat) : Int) (b.length : Int) = some (b.drop (8 + N)) := by rw [cutN (by omega), List.take_length]
  have c4 : cutL b ((((8 + N : Nat) : Int)).toNat) (((b.length : Int)).toNat) = b.drop (8 + N) := by simp only [cutL, Int.toNat_natCast, List.take_length]
  rw [if_neg h2, if_neg (show ¬ ((N : Int) > 4000 ∨ (N : Int) > (b.length : Int) - 8) by omega), e8, c1, c2, c3, c4]
  simp only [Option.bind_some, rest_f K (show (b.take 4).length ≤ 140737488351232 by omega), rest_f K (show ((b.take (8 + N)).drop 8).length ≤ 140737488351232 by omega), rest_f K (show (b.drop (8 + N)).length ≤ 140737488351232 by rw [List.length_drop]; omega), Int.toNat_natCast]
  rw [appN (by omega), Option.bind_some, sum_f ((hb.take 4).append bp) (by rw [List.length_append]; omega) (by rw [List.length_append]; omega), Option.bind_some, wrapU32 (by omega) (by omega)]
  simp only [condN]
  split <;> rfl
theorem takeNum_f {K : Nat} {b : List Int} (hb : Bytes b) (hn : b.length ≤ 140737488351232) (hk : 9 ≤ K) : code_TakeNum.f K b = some (if b.length < 8 then (0, [], 2) else (IntKind.wrap .i64 (val 0 (b.take 8)), b.drop 8, 0)) := by
  unfold code_TakeNum.f
  by_cases h8 : b.length < 8
  · have : (b.length : Int) < 8 := by omega
    simp only [condD, if_pos this, if_pos h8]
  have h8' : ¬ (b.length : Int) < 8 := by omega
  have c1 : cutO b 0 8 = some (b.take 8) := (cutN (xs := b) (lo := 0) (hi := 8) (by omega)).trans (by simp)
  have c2 : cutL b ((0 : Int).toNat) ((8 : Int).toNat) = b.take 8 := by simp [cutL]
  have c3 : cutO b 8 (b.length : Int) = some (b.drop 8) := (cutN (xs := b) (lo := 8) (hi := b.length) (by omega)).trans (by rw [List.take_length])
  have c4 : cutL b ((8 : Int).toNat) (((b.length : Int)).toNat) = b.drop 8 := by simp [cutL]
  simp only [condD, if_neg h8', if_neg h8, c1, c2, c3, c4, Option.bind_some, cget_f (hb.take 8) (show (b.take 8).length ≤ 8 by rw [List.length_take]; omega) hk, rest_f K (show (b.drop 8).length ≤ 140737488351232 by rw [List.length_drop]; omega)]
end Go.Proofs.Ytkcpbehgjbionaa.Pure
