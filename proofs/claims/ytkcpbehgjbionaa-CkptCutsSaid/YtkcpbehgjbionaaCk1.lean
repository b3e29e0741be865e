/- Checkpoints, in plain Lean: names of files, and the list. -/
import Derived.Test.YtkcpbehgjbionaaCodeP
import Derived.Test.YtkcpbehgjbionaaDiskP
set_option linter.unusedVariables false
set_option linter.unusedSimpArgs false
namespace Go.Proofs.Ytkcpbehgjbionaa.Pure
open Go Go.RowKit Go.Hw Go.Proofs.Ytkcpbehgjbionaa.G
/-! Names. -/
def dgs : Nat → Nat → List Int
  | 0, _ => []
  | f + 1, n => if n < 10 then [48 + (n : Int)] else dgs f (n / 10) ++ [48 + ((n % 10 : Nat) : Int)]
theorem dgs_len : ∀ f n, (dgs f n).length ≤ f
  | 0, _ => by simp [dgs]
  | f + 1, n => by
    rw [dgs]
    split
    · simp
    · have := dgs_len f (n / 10)
      simp only [List.length_append, List.length_singleton]; omega
theorem dgs_bytes : ∀ f n, Bytes (dgs f n)
  | 0, _ => Bytes.nil
  | f + 1, n => by
    rw [dgs]
    split
    · intro x hx; rw [List.mem_singleton.1 hx]; omega
    · exact (dgs_bytes f _).append (fun x hx => by rw [List.mem_singleton.1 hx]; omega)
def undg (l : List Int) : Int := l.foldl (fun a x => a * 10 + (x - 48)) 0
theorem undg_dgs : ∀ f n : Nat, n < 10 ^ f → undg (dgs f n) = n
  | 0, n, h => by
    have : n = 0 := by simpa using h
    subst this; rfl
  | f + 1, n, h => by
    rw [dgs]
    by_cases c : n < 10
    · rw [if_pos c]; simp only [undg, List.foldl]; omega
    · rw [if_neg c]
      have h2 : n / 10 < 10 ^ f := by rw [Nat.pow_succ] at h; omega
      have := undg_dgs f (n / 10) h2
      unfold undg at this ⊢
      rw [List.foldl_append, this]
      simp only [List.foldl]; omega
theorem strOf_append (a b : List Int) : strOfNums a ++ strOfNums b = strOfNums (a ++ b) := by
  apply toList_inj
  rw [ByteArray.toList_eq, ByteArray.toList_eq]
  simp [strOfNums]
theorem strOf_size (a : List Int) : (strOfNums a).size = a.length := by rw [← toList_size, strOf_toList, List.length_map]
theorem catN {a b : ByteArray} (h : a.size + b.size ≤ 1000) : catO a b = some () := by rw [catO, if_pos (by omega)]
theorem digits_r0 (K : Nat) : ∀ (f k n : Nat), f ≤ 20 → n ≤ 1099511627776 → n < 10 ^ (f + 1) → f < k → ckpt_digits.r K k (n : Int) = some (strOfNums (dgs (f + 1) n)) := by
  intro f
  induction f with
  | zero =>
    intro k n _ hm hn hk
    obtain ⟨k, rfl⟩ : ∃ j, k = j + 1 := ⟨k - 1, by omega⟩
    have c : (n : Int) < 10 := by simp at hn; omega
    have c' : n < 10 := by omega
    rw [ckpt_digits.r, condD, if_pos c, wrapI (by omega) (by omega), wrapU8, dgs, if_pos c']
    rw [show (48 + (n : Int)) % 256 = 48 + (n : Int) by omega]
  | succ f ih =>
    intro k n hf hm hn hk
    obtain ⟨k, rfl⟩ : ∃ j, k = j + 1 := ⟨k - 1, by omega⟩
    rw [ckpt_digits.r, condD, dgs]
    by_cases c' : n < 10
    · have c : (n : Int) < 10 := by omega
      rw [if_pos c, if_pos c', wrapI (by omega) (by omega), wrapU8, show (48 + (n : Int)) % 256 = 48 + (n : Int) by omega]
    · have c : ¬ (n : Int) < 10 := by omega
      have t1 : (n : Int).tdiv 10 = ((n / 10 : Nat) : Int) := tdivN (n : Int) 10 (by omega)
      have t2 : (n : Int).tmod 10 = ((n % 10 : Nat) : Int) := tmodN (n : Int) 10 (by omega)
      have e1 : divO .i64 (n : Int) 10 = some ((n / 10 : Nat) : Int) := by rw [divO, if_neg (by omega), t1, wrapI (by omega) (by omega)]
      have e2 : remO (n : Int) 10 = some ((n % 10 : Nat) : Int) := by rw [remO, if_neg (by omega), t2]
      have h2 : n / 10 < 10 ^ (f + 1) := by rw [Nat.pow_succ] at hn; omega
      have hl := dgs_len (f + 1) (n / 10)
      rw [if_neg c, if_neg c', e1, Option.bind_some, t1, wrapI (by omega) (by omega), ih k _ (by omega) (by omega) h2 (by omega), Option.bind_some, e2, Option.bind_some, t2, wrapI (by omega) (by omega), wrapU8, show (48 + ((n % 10 : Nat) : Int)) % 256 = 48 + ((n % 10 : Nat) : Int) by omega]
      rw [catN (by rw [strOf_size, strOf_size]; simp only [List.length_singleton]; omega), Option.bind_some, strOf_append]
abbrev Fr (n : Int) : Prop := 1 ≤ n ∧ n ≤ 1099511627776
theorem fair_f (K : Nat) (n : Int) : ckpt_fair.f K n = some (decide (Fr n)) := by
  unfold ckpt_fair.f Fr
  by_cases a : n ≥ 1
  · have : 1 ≤ n := a
    simp [this]
  · have : ¬ 1 ≤ n := a
    simp [this]
def fn (n : Nat) : ByteArray := strOfNums (99 :: dgs 13 n)
def fileB (n : Int) : ByteArray := if Fr n then fn n.toNat else ⟨#[]⟩
abbrev mN : ByteArray := ⟨#[109]⟩
theorem file_f {K : Nat} (hK : 30000 ≤ K) (n : Int) : ckpt_File.f K n = some (fileB n) := by
  rw [ckpt_File.f, fair_f, Option.bind_some, fileB]
  by_cases h : Fr n
  · obtain ⟨j, rfl⟩ := Int.eq_ofNat_of_zero_le (show 0 ≤ n by have := h.1; omega)
    have hj : j ≤ 1099511627776 := by have := h.2; omega
    have hd : ckpt_digits.r K K (j : Int) = some (strOfNums (dgs 13 j)) := digits_r0 K 12 K j (by omega) hj (Nat.lt_of_le_of_lt hj (by decide)) (by omega)
    have hl := dgs_len 13 j
    rw [decide_eq_true h, if_pos h, ckpt_digits.f, hd]
    simp only [Bool.not_true, cond_false, Option.bind_some, Int.toNat_natCast]
    have e : (⟨#[99]⟩ : ByteArray) = strOfNums [99] := rfl
    rw [catN (by rw [strOf_size]; show 1 + _ ≤ _; omega), Option.bind_some, e, strOf_append]
    rfl
  · rw [decide_eq_false h, if_neg h]
    rfl
theorem fn_toList (n : Nat) : (fn n).toList = 99 :: (dgs 13 n).map (fun x => UInt8.ofNat x.toNat) := by
  rw [fn, strOf_toList]; rfl
theorem mN_toList : mN.toList = [109] := by rw [ByteArray.toList_eq]
theorem fn_ne_m (n : Nat) : (fn n).toList ≠ mN.toList := by
  rw [fn_toList, mN_toList]
  intro h
  have := (List.cons.inj h).1
  exact absurd this (by decide)
theorem fn_bl_m (n : Nat) : bl (fn n).toList mN.toList := by
  rw [fn_toList, mN_toList, bl_cons]
  exact .inl (by decide)
theorem fn_inj {n k : Nat} (hn : n ≤ 1099511627776) (hk : k ≤ 1099511627776) (h : (fn n).toList = (fn k).toList) : n = k := by
  rw [fn, fn, strOf_toList, strOf_toList] at h
  have h99 : Bytes [99] := fun x hx => by rw [List.mem_singleton.1 hx]; omega
  have := map_inj (h99.append (dgs_bytes 13 n)) (h99.append (dgs_bytes 13 k)) h
  have e : dgs 13 n = dgs 13 k := (List.cons.inj this).2
  have := congrArg undg e
  rw [undg_dgs 13 n (Nat.lt_of_le_of_lt hn (by decide)), undg_dgs 13 k (Nat.lt_of_le_of_lt hk (by decide))] at this
  omega
theorem fn_Nm (n : Nat) : Nm (fn n) := by
  have := dgs_len 13 n
  unfold Nm
  rw [fn, strOf_size]
  simp only [List.length_cons]
  omega
theorem mN_Nm : Nm mN := by decide
theorem fileB_of {n : Nat} (h1 : 1 ≤ n) (h2 : n ≤ 1099511627776) : fileB (n : Int) = fn n := by
  rw [fileB, if_pos ⟨by omega, by omega⟩, Int.toNat_natCast]
/-! The list. -/
abbrev vn (p : List Int) : Int := IntKind.wrap .i64 (val 0 p)
def rdL (all : Int) : Nat → Int → List Int → Int × Int × Int × Bool
  | 0, _, _ => (0, 0, 0, false)
  | k + 1, last, b =>
    if (takeS b).2.2 ≠ 0 then (last, all - b.length, all, (takeS b).2.2 == 2) else
    if (takeS b).1.length ≠ 8 then (0, 0, 0, false) else
    if Fr (vn (takeS b).1) ∧ last < vn (takeS b).1 then rdL all k (vn (takeS b).1) (takeS b).2.1 else (0, 0, 0, false)
theorem take_rest {b : List Int} (hb : Bytes b) (h : (takeS b).2.2 = 0) : Bytes (takeS b).1 ∧ Bytes (takeS b).2.1 ∧ (takeS b).2.1.length + 8 ≤ b.length ∧ (takeS b).1.length ≤ 4000 := by
  obtain ⟨N, _, h1, h2, e, _⟩ := takeS_zero hb h
  rw [e]
  refine ⟨(hb.take _).drop _, hb.drop _, ?_, ?_⟩
  · simp only [List.length_drop]; omega
  · simp only [List.length_drop, List.length_take]; omega
theorem rdL_fuel {all : Int} : ∀ (k k' : Nat) (last : Int) (b : List Int), Bytes b → b.length < k → b.length < k' → rdL all k last b = rdL all k' last b := by
  intro k
  induction k with
  | zero => intro k' last b _ h; omega
  | succ k ih =>
    intro k' last b hb h h'
    obtain ⟨k', rfl⟩ : ∃ j, k' = j + 1 := ⟨k' - 1, by omega⟩
    rw [rdL, rdL]
    by_cases c : (takeS b).2.2 = 0
    · obtain ⟨_, hr, hl, _⟩ := take_rest hb c
      have := ih k' (vn (takeS b).1) (takeS b).2.1 hr (by omega) (by omega)
      rw [this]
    · rw [if_pos c, if_pos c]
theorem read_loop {K : Nat} (hK : 30000 ≤ K) (x1 : List Int × Int) (hx : x1.1.length ≤ 100000) : ∀ (k : Nat) (last : Int) (b : List Int), Bytes b → b.length ≤ x1.1.length → b.length < k → ckpt_read.l2 K x1 k (last, b) = some (rdL x1.1.length (b.length + 1) last b) := by
  intro k
  induction k with
  | zero => intro last b _ _ h; omega
  | succ k ih =>
    intro last b hb hle hk
    rw [ckpt_read.l2, takeFrame_f hb (by omega) (by omega), rdL]
    simp only [Option.bind_some, condN, condD]
    by_cases c : (takeS b).2.2 = 0
    · obtain ⟨hp, hr, hl, hp4⟩ := take_rest hb c
      have hnc : ¬ (takeS b).2.2 ≠ 0 := fun h => h c
      rw [if_pos c, if_neg hnc, takeNum_f hp (by omega) (by omega)]
      simp only [Option.bind_some]
      by_cases c8 : (takeS b).1.length < 8
      · have hne : (takeS b).1.length ≠ 8 := by omega
        rw [if_pos c8, if_pos hne]
        rfl
      · rw [if_neg c8]
        simp only [if_true]
        by_cases c9 : (takeS b).1.length = 8
        · have hne : ¬ (takeS b).1.length ≠ 8 := by omega
          have hz : ¬ ((((takeS b).1.drop 8).length : Int) > 0) := by rw [List.length_drop]; omega
          have ht : (takeS b).1.take 8 = (takeS b).1 := List.take_of_length_le (by omega)
          rw [if_neg hne, if_neg hz, ht, fair_f, Option.bind_some]
          by_cases cf : Fr (vn (takeS b).1)
          · rw [decide_eq_true cf]
            simp only [Bool.not_true, cond_false]
            by_cases cl : last < vn (takeS b).1
            · have cl' : ¬ (vn (takeS b).1 ≤ last) := by omega
              rw [if_neg cl', if_pos ⟨cf, cl⟩, ih _ _ hr (by omega) (by omega)]
              rw [rdL_fuel _ b.length _ _ hr (by omega) (by omega)]
            · have cl' : (vn (takeS b).1 ≤ last) := by omega
              have hno : ¬ (Fr (vn (takeS b).1) ∧ last < vn (takeS b).1) := fun h => cl h.2
              rw [if_pos cl', if_neg hno]
          · have hno : ¬ (Fr (vn (takeS b).1) ∧ last < vn (takeS b).1) := fun h => cf h.1
            rw [decide_eq_false cf, if_neg hno]
            rfl
        · have hz : ((((takeS b).1.drop 8).length : Int) > 0) := by rw [List.length_drop]; omega
          rw [if_pos c9, if_pos hz]
    · rw [if_neg c, if_pos c, wrapI (by omega) (by omega)]
def BD (l : List S70) : Prop := ∀ x ∈ l, Bytes x.f1
def getB (l : List S70) (n : ByteArray) : List Int := (getS l n).1
theorem getB_bytes {l : List S70} (h : BD l) (n : ByteArray) : Bytes (getB l n) := by
  unfold getB getS
  cases hm : mi n.toList l with
  | nil => exact Bytes.nil
  | cons x r => exact h x (mi_mem (n := n.toList) (by rw [hm]; exact List.mem_cons_self))
theorem getB_len {l : List S70} (h : RD l) (n : ByteArray) : (getB l n).length ≤ 20000 := by
  unfold getB getS
  cases hm : mi n.toList l with
  | nil => simp
  | cons x r => exact (mi_ok h hm).2.2.1
def rdD (l : List S70) : Int × Int × Int × Bool := rdL (getB l mN).length ((getB l mN).length + 1) 0 (getB l mN)
theorem rdL_nil : rdL 0 1 0 [] = (0, 0, 0, true) := by simp [rdL, takeS]
theorem BD_own {l : List S70} (h : BD l) : BD (own l) := by
  unfold own
  split
  · exact h
  · intro x hx; cases hx
theorem read_f {K : Nat} (hK : 30000 ≤ K) {l : List S70} (hl : l.length ≤ 1000) (hb : BD l) : ckpt_read.f K ⟨l⟩ = some (rdD (own l)) := by
  have hbo := getB_bytes (BD_own hb) mN
  have hlo := getB_len (own_RD l) mN
  rw [ckpt_read.f, get_f hl (by omega), Option.bind_some, condN]
  have hg : getS (own l) mN = (getB (own l) mN, (getS (own l) mN).2) := rfl
  by_cases c : (getS (own l) mN).2 = 0
  · rw [if_pos c, hg]
    exact read_loop hK _ (by show (getB (own l) mN).length ≤ 100000; omega) K 0 _ hbo (Nat.le_refl _) (show (getB (own l) mN).length < K by omega)
  · rw [if_neg c]
    have : getB (own l) mN = [] := by
      unfold getB
      unfold getS at c ⊢
      cases hm : mi mN.toList (own l) with
      | nil => rfl
      | cons x r => rw [hm] at c; exact absurd rfl c
    unfold rdD
    rw [this]
    exact congrArg some rdL_nil.symm
theorem rdL_fair {all : Int} : ∀ (k : Nat) (last : Int) (b : List Int), 0 ≤ last → last ≤ 1099511627776 → 0 ≤ (rdL all k last b).1 ∧ (rdL all k last b).1 ≤ 1099511627776 := by
  intro k
  induction k with
  | zero => intro last b _ _; exact ⟨by simp [rdL], by simp [rdL]⟩
  | succ k ih =>
    intro last b h0 h1
    rw [rdL]
    split
    · exact ⟨h0, h1⟩
    · split
      · exact ⟨by simp, by simp⟩
      · split
        · rename_i h
          exact ih _ _ (by have := h.1.1; omega) h.1.2
        · exact ⟨by simp, by simp⟩
theorem rdD_fair (l : List S70) : 0 ≤ (rdD l).1 ∧ (rdD l).1 ≤ 1099511627776 := rdL_fair _ _ _ (by omega) (by omega)
/-! The last checkpoint. -/
def lastS (l : List S70) : Int × List Int × Int :=
  if (rdD l).2.2.2 = false then (0, [], 2) else if (rdD l).1 = 0 then (0, [], 4) else
  if (takeS (getB l (fileB (rdD l).1))).2.2 ≠ 0 ∨ (takeS (getB l (fileB (rdD l).1))).2.1 ≠ [] then (0, [], 2) else ((rdD l).1, (takeS (getB l (fileB (rdD l).1))).1, 0)
theorem takeS_nil : takeS [] = ([], [], 2) := by simp [takeS]
theorem condB' {α : Type} {b : Bool} {x y : α} : cond (!b) x y = if b = false then x else y := by cases b <;> rfl
theorem last_f {K : Nat} (hK : 30000 ≤ K) {l : List S70} (hl : l.length ≤ 1000) (hb : BD l) : ckpt_Last.f K ⟨l⟩ = some (lastS (own l)) := by
  have hR := own_RD l
  have hbo := BD_own hb
  rw [ckpt_Last.f, read_f hK hl hb, Option.bind_some, condB', lastS]
  by_cases c1 : (rdD (own l)).2.2.2 = false
  · rw [if_pos c1, if_pos c1]
  rw [if_neg c1, if_neg c1, condB]
  by_cases c2 : (rdD (own l)).1 = 0
  · rw [if_pos c2, if_pos c2]
  rw [if_neg c2, if_neg c2, file_f hK, Option.bind_some, get_f hl (by omega), Option.bind_some, condN]
  have hg : (getS (own l) (fileB (rdD (own l)).1)).1 = getB (own l) (fileB (rdD (own l)).1) := rfl
  rw [hg]
  have hbg := getB_bytes hbo (fileB (rdD (own l)).1)
  have hlg := getB_len hR (fileB (rdD (own l)).1)
  by_cases c3 : (getS (own l) (fileB (rdD (own l)).1)).2 = 0
  · rw [if_pos c3, takeFrame_f hbg (by omega) (by omega), Option.bind_some, condN, condD]
    generalize takeS (getB (own l) (fileB (rdD (own l)).1)) = t
    obtain ⟨t1, t2, t3⟩ := t
    simp only
    by_cases c4 : t3 = 0
    · by_cases c5 : t2 = []
      · subst c5
        have h5 : ¬ ((([] : List Int).length : Int) > 0) := by simp
        have h6 : ¬ (t3 ≠ 0 ∨ ([] : List Int) ≠ []) := by simp [c4]
        rw [if_pos c4, if_neg h5, if_neg h6]
      · have h5 : ((t2.length : Int) > 0) := by have := List.length_pos_iff.2 c5; omega
        have h6 : (t3 ≠ 0 ∨ t2 ≠ []) := .inr c5
        rw [if_pos c4, if_pos h5, if_pos h6]
    · have h6 : (t3 ≠ 0 ∨ t2 ≠ []) := .inl c4
      rw [if_neg c4, if_pos h6]
  · rw [if_neg c3]
    have : getB (own l) (fileB (rdD (own l)).1) = [] := by
      unfold getB
      unfold getS at c3 ⊢
      cases hm : mi (fileB (rdD (own l)).1).toList (own l) with
      | nil => rfl
      | cons x r => rw [hm] at c3; exact absurd rfl c3
    rw [this, takeS_nil, if_pos (.inl (by decide))]
end Go.Proofs.Ytkcpbehgjbionaa.Pure
