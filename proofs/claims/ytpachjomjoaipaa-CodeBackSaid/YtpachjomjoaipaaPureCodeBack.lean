/- CodeBack answers true at any number, text, payload and any bytes behind; no condition beside the row's own. -/
import Derived.Test.YtpachjomjoaipaaWSized
import Derived.Lib.Bytes
import Derived.Test.YtpachjomjoaipaaPCodeBackx3
namespace Go.Proofs.Ytpachjomjoaipaa.PrintWords
/-- The print's word, under the name by which the printed row calls it. -/
abbrev sized_ints := @Go.Proofs.YtpachjomjoaipaaW.PrintWords.sized_ints
end Go.Proofs.Ytpachjomjoaipaa.PrintWords
namespace Go.Proofs.Ytpachjomjoaipaa.Pure
open Go.RowKit Go.Proofs.Ytpachjomjoaipaa.PCodeBack Go.Proofs.YtpachjomjoaipaaW.PrintWords Go.Proofs.YtpachjomjoaipaaW.PrintLast
set_option linter.unusedVariables false
set_option linter.unusedSimpArgs false
theorem w64 {x : Int} (h0 : -9223372036854775808 ≤ x) (h1 : x ≤ 9223372036854775807) : wrap64 x = x := by unfold wrap64; omega
theorem bd64 {n : Int} (h : (Lit.int .i64 n).wf = true) : -9223372036854775808 ≤ n ∧ n ≤ 9223372036854775807 := by
  simp [Lit.wf, IntKind.min, IntKind.max, IntKind.bits, IntKind.signed] at h; omega
theorem bd8 {n : Int} (h : (Lit.int .u8 n).wf = true) : 0 ≤ n ∧ n ≤ 255 := by
  simp [Lit.wf, IntKind.min, IntKind.max, IntKind.bits, IntKind.signed] at h; omega
theorem wu64 {x : Int} (h0 : 0 ≤ x) (h1 : x ≤ 18446744073709551615) : IntKind.u64.wrap x = x := by
  rw [IntKind.wrap_u64]; omega
/-- Bytes. -/
def Bytes (l : List Int) : Prop := ∀ x ∈ l, 0 ≤ x ∧ x ≤ 255
theorem Bytes.of_wf {l : List Int} (h : ∀ x ∈ l, (Lit.int .u8 x).wf = true) : Bytes l := fun x hx => bd8 (h x hx)
theorem Bytes.append {l m : List Int} (h : Bytes l) (k : Bytes m) : Bytes (l ++ m) := fun x hx => (List.mem_append.1 hx).elim (h x) (k x)
theorem Bytes.take {l : List Int} (h : Bytes l) (n : Nat) : Bytes (l.take n) := fun x hx => h x (List.mem_of_mem_take hx)
theorem Bytes.drop {l : List Int} (h : Bytes l) (n : Nat) : Bytes (l.drop n) := fun x hx => h x (List.mem_of_mem_drop hx)
theorem rd_drop {l : List Int} {i : Nat} (h : i < l.length) : l.drop i = rd l (i : Int) :: l.drop (i + 1) := by
  rw [List.drop_eq_getElem_cons h]; congr 1
  unfold rd; rw [Int.toNat_natCast, List.getD_eq_getElem?_getD, List.getElem?_eq_getElem h]; rfl
theorem rd_mem {l : List Int} {i : Nat} (h : i < l.length) : rd l (i : Int) ∈ l := by
  unfold rd; rw [Int.toNat_natCast, List.getD_eq_getElem?_getD, List.getElem?_eq_getElem h]; exact List.getElem_mem h
/-- One bit, one byte, all bytes of the sum. -/
def bs (c : Nat) : Nat := if c % 2 = 1 then c / 2 ^^^ 3988292384 else c / 2
def by8 (c : Nat) : Nat := bs (bs (bs (bs (bs (bs (bs (bs c)))))))
def crc (c : Nat) (l : List Int) : Nat := l.foldl (fun c x => by8 (c ^^^ x.toNat)) c
def sumS (l : List Int) : Int := ((crc 4294967295 l ^^^ 4294967295 : Nat) : Int)
theorem bs_lt {c : Nat} (h : c < 4294967296) : bs c < 4294967296 := by
  unfold bs; split
  · exact Nat.xor_lt_two_pow (n := 32) (by omega) (by omega)
  · omega
theorem by8_lt {c : Nat} (h : c < 4294967296) : by8 c < 4294967296 := bs_lt (bs_lt (bs_lt (bs_lt (bs_lt (bs_lt (bs_lt (bs_lt h)))))))
theorem xor_lt {a b : Nat} (h : a < 4294967296) (k : b < 4294967296) : a ^^^ b < 4294967296 := Nat.xor_lt_two_pow (n := 32) h k
theorem crc_lt (l : List Int) (hl : Bytes l) : ∀ c, c < 4294967296 → crc c l < 4294967296 := by
  induction l with
  | nil => intro c hc; exact hc
  | cons x l ih =>
    intro c hc
    have := hl x (List.mem_cons_self ..)
    exact ih (fun y hy => hl y (List.mem_cons_of_mem _ hy)) _ (by8_lt (xor_lt hc (by omega)))
theorem sumS_bd (l : List Int) (hl : Bytes l) : 0 ≤ sumS l ∧ sumS l ≤ 4294967295 := by
  unfold sumS
  have := xor_lt (crc_lt l hl 4294967295 (by omega)) (show 4294967295 < 4294967296 by omega)
  omega
theorem bits_xor (a b : Nat) (ha : a < 4294967296) (hb : b < 4294967296) : Go.bits .xor .u32 (a : Int) (b : Int) = ((a ^^^ b : Nat) : Int) := by
  have h := xor_lt ha hb
  have e : Go.bits .xor .u32 (a : Int) (b : Int) = IntKind.u32.wrap (((BitVec.ofInt 32 (a : Int) ^^^ BitVec.ofInt 32 (b : Int)).toNat : Nat) : Int) := rfl
  rw [e, BitVec.ofInt_natCast, BitVec.ofInt_natCast, BitVec.toNat_xor, BitVec.toNat_ofNat, BitVec.toNat_ofNat, Nat.mod_eq_of_lt ha, Nat.mod_eq_of_lt hb, IntKind.wrap_u32]
  omega
theorem bits_and1 (a : Nat) (ha : a < 4294967296) : Go.bits .and .u32 (a : Int) 1 = ((a % 2 : Nat) : Int) := by
  have e : Go.bits .and .u32 (a : Int) 1 = IntKind.u32.wrap (((BitVec.ofInt 32 (a : Int) &&& BitVec.ofInt 32 1).toNat : Nat) : Int) := rfl
  rw [e, BitVec.ofInt_natCast, show (1 : Int) = ((1 : Nat) : Int) from rfl, BitVec.ofInt_natCast, BitVec.toNat_and, BitVec.toNat_ofNat, BitVec.toNat_ofNat, Nat.mod_eq_of_lt ha, IntKind.wrap_u32]
  rw [show 1 % 2 ^ 32 = 1 from rfl, Nat.and_one_is_mod]
  omega
theorem sum_l1 (l : List Int) (n i : Int) (k c : Nat) (j : Int) (hc : c < 4294967296) (h0 : 0 ≤ j) (h8 : j < 8) :
    code_Sum.l1 (k + 1) (c : Int) l n i j = code_Sum.l1 k (bs c : Nat) l n i (j + 1) := by
  rw [code_Sum.l1, if_pos h8, bits_and1 c hc, w64 (by omega) (by omega)]
  unfold bs
  by_cases h : c % 2 = 1
  · rw [if_pos (by omega), if_pos h, ← bits_xor (c / 2) 3988292384 (by omega) (by omega)]; rfl
  · rw [if_neg (by omega), if_neg h]; rfl
theorem sum_byte (l : List Int) (n i : Int) (k c : Nat) (hc : c < 4294967296) :
    code_Sum.l1 (k + 9) (c : Int) l n i 0 = code_Sum.l0 k (by8 c : Nat) l n (wrap64 (i + 1)) := by
  have h1 := bs_lt hc
  have h2 := bs_lt h1
  have h3 := bs_lt h2
  have h4 := bs_lt h3
  have h5 := bs_lt h4
  have h6 := bs_lt h5
  have h7 := bs_lt h6
  rw [sum_l1 l n i _ _ _ hc (by omega) (by omega), sum_l1 l n i _ _ _ h1 (by omega) (by omega), sum_l1 l n i _ _ _ h2 (by omega) (by omega), sum_l1 l n i _ _ _ h3 (by omega) (by omega),
    sum_l1 l n i _ _ _ h4 (by omega) (by omega), sum_l1 l n i _ _ _ h5 (by omega) (by omega), sum_l1 l n i _ _ _ h6 (by omega) (by omega), sum_l1 l n i _ _ _ h7 (by omega) (by omega)]
  rw [code_Sum.l1, if_neg (by omega)]; rfl
theorem sum_l0 (l : List Int) (hl : Bytes l) (hn : l.length ≤ 140737488351232) (d : Nat) : ∀ (k c i : Nat), c < 4294967296 → i ≤ l.length → l.length - i = d → 10 * d + 1 ≤ k →
    code_Sum.l0 k (c : Int) l (l.length : Int) (i : Int) = some ((crc c (l.drop i) ^^^ 4294967295 : Nat) : Int) := by
  induction d with
  | zero =>
    intro k c i hc hi hd hk
    obtain ⟨k, rfl⟩ : ∃ m, k = m + 1 := ⟨k - 1, by omega⟩
    obtain rfl : i = l.length := by omega
    have e := bits_xor 4294967295 c (by omega) hc
    rw [show ((4294967295 : Nat) : Int) = 4294967295 from rfl, Nat.xor_comm] at e
    rw [code_Sum.l0, if_neg (by omega), List.drop_length, e]
    rfl
  | succ d ih =>
    intro k c i hc hi hd hk
    obtain ⟨k, rfl⟩ : ∃ m, k = m + 10 := ⟨k - 10, by omega⟩
    have hlt : i < l.length := by omega
    have hx := hl _ (rd_mem hlt)
    have e : rd l (i : Int) % 4294967296 = ((rd l (i : Int)).toNat : Int) := by omega
    rw [code_Sum.l0, if_pos (by omega), if_pos (by omega), if_pos (by omega), e, bits_xor c _ hc (by omega), sum_byte _ _ _ _ _ (xor_lt hc (by omega)), w64 (by omega) (by omega), rd_drop hlt]
    exact ih k _ (i + 1) (by8_lt (xor_lt hc (by omega))) (by omega) (by omega) (by omega)
theorem sum_is (l : List Int) (k : Nat) (hl : Bytes l) (hn : l.length ≤ 140737488351232) (hk : 10 * l.length + 1 ≤ k) : code_Sum.f k l = some (sumS l) := by
  rw [code_Sum.f]; exact sum_l0 l hl hn l.length k 4294967295 0 (by omega) (by omega) (by omega) hk
/-- A number's bytes: four, eight. -/
def be4 (n : Int) : List Int := [n / 16777216 % 256, n / 65536 % 256, n / 256 % 256, n % 256]
def be8 (n : Int) : List Int := [n / 72057594037927936 % 256, n / 281474976710656 % 256, n / 1099511627776 % 256, n / 4294967296 % 256] ++ be4 n
theorem be4_bytes (n : Int) : Bytes (be4 n) := by
  intro x hx
  simp only [be4, List.mem_cons, List.not_mem_nil, or_false] at hx
  rcases hx with h | h | h | h <;> omega
theorem be8_bytes (n : Int) : Bytes (be8 n) := by
  refine Bytes.append ?_ (be4_bytes n)
  intro x hx
  simp only [List.mem_cons, List.not_mem_nil, or_false] at hx
  rcases hx with h | h | h | h <;> omega
theorem put4_is (n : Int) (k : Nat) (hk : 5 ≤ k) : code_put.f k n 4 = some (be4 n) := by
  obtain ⟨k, rfl⟩ : ∃ m, k = m + 5 := ⟨k - 5, by omega⟩
  simp [code_put.f, code_put.l0, wrap64, shr, be4, List.replicate, IntKind.bits]
theorem put8_is (n : Int) (k : Nat) (hk : 9 ≤ k) : code_put.f k n 8 = some (be8 n) := by
  obtain ⟨k, rfl⟩ : ∃ m, k = m + 9 := ⟨k - 9, by omega⟩
  simp [code_put.f, code_put.l0, wrap64, shr, be8, be4, List.replicate, IntKind.bits]
theorem rest_is (l : List Int) (h : l.length ≤ 140737488351232) : code_rest.f l = some l := by
  rw [code_rest.f, Option.bind_some, if_pos (by simp; omega)]; rfl
/-- The number of some bytes. -/
def val (n : Int) (l : List Int) : Int := l.foldl (fun n x => n * 256 + x) n
theorem val_bd (l : List Int) (hl : Bytes l) : ∀ n : Int, 0 ≤ n → 0 ≤ val n l ∧ val n l < (n + 1) * 256 ^ l.length := by
  induction l with
  | nil => intro n h; simp [val]; omega
  | cons x l ih =>
    intro n h
    have hx := hl x (List.mem_cons_self ..)
    have := ih (fun y hy => hl y (List.mem_cons_of_mem _ hy)) (n * 256 + x) (by omega)
    refine ⟨this.1, ?_⟩
    have h2 := this.2
    have h3 : (n * 256 + x + 1) * (256 : Int) ^ l.length ≤ ((n + 1) * 256) * 256 ^ l.length := Int.mul_le_mul_of_nonneg_right (by omega) (Int.le_of_lt (Int.pow_pos (by omega)))
    rw [List.length_cons, Int.pow_succ, Int.mul_comm (256 ^ l.length) 256, ← Int.mul_assoc]
    exact Int.lt_of_lt_of_le h2 h3
theorem bits_or (n x : Nat) (hn : n * 256 < 18446744073709551616) (hx : x < 256) : Go.bits .or .u64 ((n * 256 : Nat) : Int) (x : Int) = ((n * 256 + x : Nat) : Int) := by
  have e : Go.bits .or .u64 ((n * 256 : Nat) : Int) (x : Int) = IntKind.u64.wrap (((BitVec.ofInt 64 ((n * 256 : Nat) : Int) ||| BitVec.ofInt 64 (x : Int)).toNat : Nat) : Int) := rfl
  rw [e, BitVec.ofInt_natCast, BitVec.ofInt_natCast, BitVec.toNat_or, BitVec.toNat_ofNat, BitVec.toNat_ofNat, Nat.mod_eq_of_lt hn, Nat.mod_eq_of_lt (by omega), IntKind.wrap_u64]
  have := Nat.shiftLeft_add_eq_or_of_lt (b := x) (i := 8) hx n
  rw [Nat.shiftLeft_eq] at this
  rw [← this]; omega
theorem get_l0 (l : List Int) (hl : Bytes l) (hn : l.length ≤ 8) (d : Nat) : ∀ (k i : Nat) (n : Int), 0 ≤ n → n < 256 ^ i → i ≤ l.length → l.length - i = d → d + 1 ≤ k →
    code_get.l0 k n l (l.length : Int) (i : Int) = some (val n (l.drop i)) := by
  induction d with
  | zero =>
    intro k i n h0 h1 hi hd hk
    obtain ⟨k, rfl⟩ : ∃ m, k = m + 1 := ⟨k - 1, by omega⟩
    obtain rfl : i = l.length := by omega
    rw [code_get.l0, if_neg (by omega), List.drop_length]; rfl
  | succ d ih =>
    intro k i n h0 h1 hi hd hk
    obtain ⟨k, rfl⟩ : ∃ m, k = m + 1 := ⟨k - 1, by omega⟩
    have hlt : i < l.length := by omega
    have hx := hl _ (rd_mem hlt)
    have hb : n < 72057594037927936 := by
      have : (256 : Int) ^ i ≤ 256 ^ 7 := by
        have : ((256 ^ i : Nat) : Int) ≤ ((256 ^ 7 : Nat) : Int) := Int.ofNat_le.2 (Nat.pow_le_pow_right (by omega) (by omega))
        simpa using this
      have e : (256 : Int) ^ 7 = 72057594037927936 := by decide
      omega
    obtain ⟨m, rfl⟩ := Int.eq_ofNat_of_zero_le h0
    rw [code_get.l0, if_pos (by omega), if_pos (by omega), if_pos (by omega), wu64 (x := (m : Int) * 256) (by omega) (by omega), wu64 (x := rd l (i : Int)) (by omega) (by omega), w64 (by omega) (by omega), rd_drop hlt]
    have e := bits_or m (rd l (i : Int)).toNat (by omega) (by omega)
    rw [show ((rd l (i : Int)).toNat : Int) = rd l (i : Int) by omega, show ((m * 256 : Nat) : Int) = (m : Int) * 256 by omega, show ((m * 256 + (rd l (i : Int)).toNat : Nat) : Int) = (m : Int) * 256 + rd l (i : Int) by omega] at e
    rw [e]
    refine ih k (i + 1) _ (by omega) ?_ (by omega) (by omega) (by omega)
    rw [Int.pow_succ]; omega
theorem get_is (l : List Int) (k : Nat) (hl : Bytes l) (hn : l.length ≤ 8) (hk : 9 ≤ k) : code_get.f k l = some (val 0 l) := by
  rw [code_get.f]; exact get_l0 l hl hn l.length k 0 0 (by omega) (by simp) (by omega) (by omega) (by omega)
/-- A payload's frame. -/
def frameS (l : List Int) : List Int := be4 l.length ++ be4 (sumS (be4 l.length ++ l)) ++ l
theorem frame_is (l : List Int) (k : Nat) (hl : Bytes l) (hn : l.length ≤ 4000) (hk : 50000 ≤ k) : code_Frame.f k l = some (frameS l, 0) := by
  have b4 : ∀ n, (be4 n).length = 4 := fun _ => rfl
  have hb := Bytes.append (be4_bytes l.length) hl
  have hs := sumS_bd _ hb
  rw [code_Frame.f, if_neg (by omega), wu64 (by omega) (by omega), put4_is _ _ (by omega), Option.bind_some, rest_is _ (by rw [b4]; omega), Option.bind_some, if_pos (by rw [b4]; omega),
    sum_is _ _ hb (by rw [List.length_append, b4]; omega) (by rw [List.length_append, b4]; omega), Option.bind_some, wu64 (by omega) (by omega), put4_is _ _ (by omega), Option.bind_some, if_pos (by rw [b4, b4]; omega), Option.bind_some, if_pos (by rw [List.length_append, b4, b4]; omega)]
  rfl
/-- What is taken of bytes. -/
def takeS (b : List Int) : List Int × List Int × Int :=
  if b.length < 8 then ([], [], 2) else
  if val 0 (b.take 4) > 4000 ∨ val 0 (b.take 4) > b.length - 8 then ([], [], 2) else
  if sumS (b.take 4 ++ (b.take (8 + val 0 (b.take 4)).toNat).drop 8) = val 0 ((b.take 8).drop 4) then ((b.take (8 + val 0 (b.take 4)).toNat).drop 8, b.drop (8 + val 0 (b.take 4)).toNat, 0) else ([], [], 7)
theorem takeframe_is (b : List Int) (k : Nat) (hb : Bytes b) (hn : b.length ≤ 140737488351232) (hk : 50000 ≤ k) : code_TakeFrame.f k b = some (takeS b) := by
  rw [code_TakeFrame.f, takeS]
  by_cases h8 : b.length < 8
  · rw [if_pos (by omega), if_pos h8]
  have l4 : (b.take 4).length = 4 := by rw [List.length_take]; omega
  have l44 : ((b.take 8).drop 4).length = 4 := by rw [List.length_drop, List.length_take]; omega
  have v := val_bd (b.take 4) (hb.take 4) 0 (by omega)
  have v2 := val_bd ((b.take 8).drop 4) ((hb.take 8).drop 4) 0 (by omega)
  rw [l4] at v
  rw [l44] at v2
  have e256 : (0 + 1 : Int) * 256 ^ 4 = 4294967296 := by decide
  rw [e256] at v v2
  rw [if_neg (by omega), if_neg h8, if_pos (by omega), get_is _ _ (hb.take 4) (by omega) (by omega), Option.bind_some]
  obtain ⟨k, rfl⟩ : ∃ m, k = m + 1 := ⟨k - 1, by omega⟩
  generalize hN : val 0 (b.take 4) = N at *
  by_cases h1 : N > 4000
  · rw [if_pos h1, if_pos (.inl h1), code_TakeFrame.j0, if_pos rfl]
  rw [if_neg h1, code_TakeFrame.j0, w64 (x := (b.length : Int) - 8) (by omega) (by omega), wu64 (x := (b.length : Int) - 8) (by omega) (by omega)]
  by_cases h2 : N > b.length - 8
  · rw [if_pos (decide_eq_true h2), if_pos (.inr h2)]
  rw [if_neg (by rw [decide_eq_false h2]; decide), if_neg (show ¬ (N > 4000 ∨ N > (b.length : Int) - 8) by omega), wu64 (x := 8 + N) (by omega) (by omega), if_pos (by omega), if_pos (by omega)]
  have lp : ((b.take (8 + N).toNat).drop 8).length ≤ 4000 := by rw [List.length_drop, List.length_take]; omega
  have bp : Bytes ((b.take (8 + N).toNat).drop 8) := (hb.take _).drop _
  rw [rest_is _ (by omega), Option.bind_some, if_pos (by omega), rest_is _ (by omega), Option.bind_some, if_pos (by omega), sum_is _ _ ((hb.take 4).append bp) (by rw [List.length_append]; omega) (by rw [List.length_append]; omega), Option.bind_some, if_pos (by omega), if_pos (by omega), get_is _ _ ((hb.take 8).drop 4) (by omega) (by omega), Option.bind_some]
  rw [show val 0 ((b.take 8).drop 4) % 4294967296 = val 0 ((b.take 8).drop 4) by omega]
  by_cases h3 : sumS (b.take 4 ++ (b.take (8 + N).toNat).drop 8) = val 0 ((b.take 8).drop 4)
  · rw [if_pos h3, if_pos h3, if_pos (by omega), rest_is _ (by rw [List.length_drop]; omega)]; rfl
  · rw [if_neg h3, if_neg h3]
theorem strn (l m : List Int) : (strOfNums l).toList = (strOfNums m).toList ↔ l.map (fun n => UInt8.ofNat n.toNat) = m.map (fun n => UInt8.ofNat n.toNat) := by
  simp [strOfNums, ByteArray.toList_eq]
/-- A number's encoding; a text's. -/
def numS (n : Int) : List Int := be8 (n % 18446744073709551616)
theorem numS_bytes (n : Int) : Bytes (numS n) := be8_bytes _
theorem numS_len (n : Int) : (numS n).length = 8 := rfl
theorem num_is (n : Int) (k : Nat) (hk : 9 ≤ k) : code_Num.f k n = some (numS n) := by
  rw [code_Num.f, put8_is _ _ hk, IntKind.wrap_u64]; rfl
theorem text_is (s : ByteArray) (k : Nat) (hk : 9 ≤ k) (hs : s.size ≤ 140737488351232) : code_Text.f k s = some (numS s.size ++ bytesOf s) := by
  rw [code_Text.f, num_is _ _ hk, Option.bind_some, if_pos (by rw [numS_len]; omega)]
/-- A number that is taken. -/
def takenumS (b : List Int) : Int × List Int × Int := if b.length < 8 then (0, [], 2) else (wrap64 (val 0 (b.take 8)), b.drop 8, 0)
theorem takenum_is (b : List Int) (k : Nat) (hb : Bytes b) (hn : b.length ≤ 140737488351232) (hk : 9 ≤ k) : code_TakeNum.f k b = some (takenumS b) := by
  rw [code_TakeNum.f, takenumS]
  by_cases h : b.length < 8
  · rw [if_pos (by omega), if_pos h]
  · rw [if_neg (by omega), if_neg h, if_pos (by omega), get_is _ _ (hb.take 8) (by rw [List.length_take]; omega) hk, Option.bind_some, rest_is _ (by rw [List.length_drop]; omega)]; rfl
theorem knows_is (k : Nat) (hk : 60000 ≤ k) : haywainlaw02_knows.f k = some true := by
  have b0 : Bytes ([] : List Int) := fun x h => by simp at h
  have e0 : frameS [] = [0, 0, 0, 0, 33, 68, 223, 28] := by decide +kernel
  have b1 : Bytes [0, 0, 0, 0, 33, 68, 223, 28, 7] := by
    intro x hx; simp at hx; omega
  have e1 : takeS [0, 0, 0, 0, 33, 68, 223, 28, 7] = ([], [7], 0) := by decide +kernel
  have e2 : takenumS (numS (-5)) = (-5, [], 0) := by
    have : numS (-5) = [255, 255, 255, 255, 255, 255, 255, 251] := by decide +kernel
    rw [this, takenumS, if_neg (by decide)]
    have v : val 0 (List.take 8 [255, 255, 255, 255, 255, 255, 255, 251]) = 18446744073709551611 := by decide +kernel
    rw [v]
    have w : wrap64 18446744073709551611 = -5 := by unfold wrap64; decide
    rw [w]; rfl
  have b3 : Bytes [49, 50, 51, 52, 53, 54, 55, 56, 57] := by
    intro x hx; simp at hx; omega
  have e3 : sumS [49, 50, 51, 52, 53, 54, 55, 56, 57] = 3421780262 := by decide +kernel
  have s0 : (strOfNums [0, 0, 0, 0, 33, 68, 223, 28]).toList = ([0, 0, 0, 0, 33, 68, 223, 28] : List UInt8) := by rw [Lib.strOfNums_toList]; decide +kernel
  have s1 : (strOfNums [7]).toList = ([7] : List UInt8) := by rw [Lib.strOfNums_toList]; decide +kernel
  have s2 : (strOfNums (numS 2 ++ bytesOf ⟨#[97, 98]⟩)).toList = ([0, 0, 0, 0, 0, 0, 0, 2, 97, 98] : List UInt8) := by rw [Lib.strOfNums_toList]; decide +kernel
  rw [haywainlaw02_knows.f, frame_is [] k b0 (by simp) (by omega), e0]
  simp only [Option.bind_some, List.nil_append, List.length_nil, List.cons_append]
  rw [if_pos (by simp), if_pos (by simp), takeframe_is _ k b1 (by simp) (by omega), e1]
  simp only [Option.bind_some]
  rw [num_is _ k (by omega)]
  simp only [Option.bind_some]
  rw [takenum_is _ k (numS_bytes _) (by rw [numS_len]; omega) (by omega), e2]
  simp only [Option.bind_some]
  rw [sum_is _ k b3 (by simp) (by simp; omega), e3]
  simp only [Option.bind_some]
  rw [text_is _ k (by omega) (by decide)]
  simp only [Option.bind_some]
  rw [s0, s1]
  simp only [if_true, List.length_nil, Int.natCast_zero]
  have : ((⟨#[97, 98]⟩ : ByteArray).size : Int) = 2 := rfl
  rw [this, s2]
  rfl
theorem val_append (a b : List Int) (n : Int) : val n (a ++ b) = val (val n a) b := by simp [val]
theorem val4' (n a b c d : Int) : val n [a, b, c, d] = (((n * 256 + a) * 256 + b) * 256 + c) * 256 + d := by simp [val]
theorem val_be8 (n : Int) (h0 : 0 ≤ n) (h1 : n < 18446744073709551616) : val 0 (be8 n) = n := by
  rw [be8, val_append, val4', be4, val4']; omega
theorem take_num (n : Int) (hn : -9223372036854775808 ≤ n ∧ n ≤ 9223372036854775807) (m : List Int) : takenumS (numS n ++ m) = (n, m, 0) := by
  have l8 : (numS n).length = 8 := rfl
  rw [takenumS, if_neg (by rw [List.length_append, l8]; omega), List.take_append_of_le_length (by rw [l8]; omega), List.take_of_length_le (by rw [l8]; omega), List.drop_left' l8, numS, val_be8 _ (by omega) (by omega)]
  have : wrap64 (n % 18446744073709551616) = n := by unfold wrap64; omega
  rw [this]
theorem be4_val (n : Int) (h0 : 0 ≤ n) (h1 : n < 4294967296) : val 0 (be4 n) = n := by rw [be4, val4']; omega
theorem take_frame (p : List Int) (hp : Bytes p) (hn : p.length ≤ 4000) (m : List Int) : takeS (frameS p ++ m) = (p, m, 0) := by
  have lA : (be4 p.length).length = 4 := rfl
  have sb := sumS_bd _ (Bytes.append (be4_bytes p.length) hp)
  obtain ⟨s, hs⟩ : ∃ s, s = sumS (be4 p.length ++ p) := ⟨_, rfl⟩
  rw [← hs] at sb
  have lB : (be4 s).length = 4 := rfl
  have e : frameS p ++ m = be4 p.length ++ (be4 s ++ (p ++ m)) := by rw [frameS, hs]; simp
  have t4 : (frameS p ++ m).take 4 = be4 p.length := by rw [e]; exact List.take_left' lA
  have t8 : ((frameS p ++ m).take 8).drop 4 = be4 s := by
    rw [List.drop_take, e, List.drop_left' lA]; exact List.take_left' lB
  have d8 : (frameS p ++ m).drop 8 = p ++ m := by
    rw [e, ← List.append_assoc]; exact List.drop_left' (by rw [List.length_append, lA, lB])
  have tl : (frameS p ++ m).length = 8 + p.length + m.length := by rw [e]; simp [lA, lB]; omega
  have vN := be4_val (p.length : Int) (by omega) (by omega)
  have tp : ((frameS p ++ m).take (8 + (p.length : Int)).toNat).drop 8 = p := by
    rw [List.drop_take, d8]; exact List.take_left' (by omega)
  have dp : (frameS p ++ m).drop (8 + (p.length : Int)).toNat = m := by
    rw [show (8 + (p.length : Int)).toNat = 8 + p.length by omega, ← List.drop_drop, d8]; exact List.drop_left' rfl
  rw [takeS, if_neg (by omega), t4, vN, if_neg (by omega), tp, t8, be4_val s sb.1 (by omega), if_pos hs.symm, dp]
theorem strOf_bytesOf (s : ByteArray) : (strOfNums (bytesOf s)).toList = s.toList := by
  rw [Lib.strOfNums_toList, Lib.toList_data, Lib.bytesOf, bytesOf, List.map_map]
  exact (List.map_congr_left (fun b _ => by simp)).trans (List.map_id _)
theorem CodeBack : haywainlaw02_CodeBack.Pure := by
  intro n s p m hn hs _ hp hwp _ hm hwm
  have hbp := Bytes.of_wf hwp
  have hbm := Bytes.of_wf hwm
  have hn := bd64 hn
  obtain ⟨K, hK⟩ : ∃ K : Nat, K = 60000 := ⟨_, rfl⟩
  refine ⟨K + 1, ?_⟩
  have out : haywainlaw02_CodeBack.j0 (K + 1) n s p m true = some true := by
    rw [haywainlaw02_CodeBack.j0, if_pos rfl, knows_is _ (by omega)]; rfl
  rw [haywainlaw02_CodeBack.f]
  by_cases h1 : (s.size : Int) > 10000
  · rw [if_pos h1]; exact out
  by_cases h2 : (p.length : Int) > 4000
  · rw [if_neg h1, if_pos h2]; exact out
  rw [if_neg h1, if_neg h2, haywainlaw02_great.f, Option.bind_some]
  by_cases h3 : (m.length : Int) > 10000
  · rw [decide_eq_true h3]; exact out
  rw [decide_eq_false h3, haywainlaw02_CodeBack.j0, if_neg (by decide), num_is n _ (by omega), Option.bind_some, if_pos (by rw [numS_len]; omega)]
  rw [takenum_is _ _ ((numS_bytes n).append hbm) (by rw [List.length_append, numS_len]; omega) (by omega), take_num n hn m, Option.bind_some, text_is s _ (by omega) hs, Option.bind_some]
  have lb := bytesOf_length s
  have bb : Bytes (bytesOf s) := by
    intro x hx
    rw [bytesOf, List.mem_map] at hx
    obtain ⟨b, _, rfl⟩ := hx
    have := b.toNat_lt
    omega
  rw [if_pos (by rw [List.length_append, numS_len, lb]; omega)]
  have et : code_TakeText.f K (numS s.size ++ bytesOf s ++ m) = some (strOfNums (bytesOf s), m, 0) := by
    rw [code_TakeText.f, takenum_is _ _ (((numS_bytes _).append bb).append hbm) (by rw [List.length_append, List.length_append, numS_len, lb]; omega) (by omega), List.append_assoc, take_num _ (by omega) _, Option.bind_some]
    simp only [if_true]
    rw [if_neg (by omega), if_neg (by rw [List.length_append, lb]; omega), if_pos (by omega), if_pos (by rw [List.length_append, lb]; omega)]
    rw [Int.toNat_natCast, List.take_left' lb, List.drop_left' lb]
  rw [et, Option.bind_some, Option.bind_some, if_pos (by simp; omega), List.nil_append, frame_is p _ hbp (by omega) (by omega), Option.bind_some]
  have lf : (frameS p).length = 8 + p.length := by simp [frameS, be4]; omega
  have bf : Bytes (frameS p ++ m) := (Bytes.append (Bytes.append (be4_bytes _) (be4_bytes _)) hbp).append hbm
  simp only []
  rw [if_pos (by rw [lf]; omega), takeframe_is _ _ bf (by rw [List.length_append, lf]; omega) (by omega), take_frame p hbp (by omega) m, Option.bind_some, strOf_bytesOf, knows_is _ (by omega)]
  simp
end Go.Proofs.Ytpachjomjoaipaa.Pure
