/- Checkpoints, in plain Lean: the document's side. -/
import Derived.Test.YtkcpbehgjbionaaCk2
import Derived.Test.YtkcpbehgjbionaaCodeR
import Derived.Test.YtkcpbehgjbionaaDiskT
set_option linter.unusedVariables false
set_option linter.unusedSimpArgs false
namespace Go.Proofs.Ytkcpbehgjbionaa.Pure
open Go Go.RowKit Go.Hw Go.Proofs.Ytkcpbehgjbionaa.G
theorem rdigits_loop (K : Nat) : ∀ (f k n : Nat) (t : List Int), f ≤ 20 → n ≤ 1099511627776 → n < 10 ^ (f + 1) → f < k → t.length + f ≤ 100 → haywainref03_Digits.l1 K k ((n : Int), strOfNums t) = some (strOfNums (dgs (f + 1) n ++ t)) := by
  intro f
  induction f with
  | zero =>
    intro k n t _ hm hn hk ht
    obtain ⟨k, rfl⟩ : ∃ j, k = j + 1 := ⟨k - 1, by omega⟩
    have c' : n < 10 := by simpa using hn
    have t1 : (n : Int).tdiv 10 = ((n / 10 : Nat) : Int) := tdivN (n : Int) 10 (by omega)
    have t2 : (n : Int).tmod 10 = ((n % 10 : Nat) : Int) := tmodN (n : Int) 10 (by omega)
    have e1 : divO .i64 (n : Int) 10 = some ((n / 10 : Nat) : Int) := by rw [divO, if_neg (by omega), t1, wrapI (by omega) (by omega)]
    have e2 : remO (n : Int) 10 = some ((n % 10 : Nat) : Int) := by rw [remO, if_neg (by omega), t2]
    rw [haywainref03_Digits.l1]
    simp only [e2, Option.bind_some, t2, t1]
    rw [wrapI (by omega) (by omega), wrapU8, show (48 + ((n % 10 : Nat) : Int)) % 256 = 48 + (n : Int) by omega, catN (by rw [strOf_size, strOf_size]; simp only [List.length_singleton]; omega), Option.bind_some, e1, Option.bind_some, wrapI (by omega) (by omega), condB, if_pos (by omega), strOf_append, dgs, if_pos c']
  | succ f ih =>
    intro k n t hf hm hn hk ht
    obtain ⟨k, rfl⟩ : ∃ j, k = j + 1 := ⟨k - 1, by omega⟩
    have t1 : (n : Int).tdiv 10 = ((n / 10 : Nat) : Int) := tdivN (n : Int) 10 (by omega)
    have t2 : (n : Int).tmod 10 = ((n % 10 : Nat) : Int) := tmodN (n : Int) 10 (by omega)
    have e1 : divO .i64 (n : Int) 10 = some ((n / 10 : Nat) : Int) := by rw [divO, if_neg (by omega), t1, wrapI (by omega) (by omega)]
    have e2 : remO (n : Int) 10 = some ((n % 10 : Nat) : Int) := by rw [remO, if_neg (by omega), t2]
    rw [haywainref03_Digits.l1]
    simp only [e2, Option.bind_some, t2, t1]
    rw [wrapI (by omega) (by omega), wrapU8, show (48 + ((n % 10 : Nat) : Int)) % 256 = 48 + ((n % 10 : Nat) : Int) by omega, catN (by rw [strOf_size, strOf_size]; simp only [List.length_singleton]; omega), Option.bind_some, e1, Option.bind_some, wrapI (by omega) (by omega), condB, strOf_append, dgs]
    by_cases c' : n < 10
    · have c : ((n / 10 : Nat) : Int) = 0 := by omega
      rw [if_pos c, if_pos c', show ((n % 10 : Nat) : Int) = (n : Int) by omega]
    · have c : ¬ ((n / 10 : Nat) : Int) = 0 := by omega
      have h2 : n / 10 < 10 ^ (f + 1) := by rw [Nat.pow_succ] at hn; omega
      rw [if_neg c, if_neg c', ih k _ _ (by omega) (by omega) h2 (by omega) (by simp only [List.length_append, List.length_singleton]; omega), List.append_assoc]
theorem rfile_f {K : Nat} (hK : 30000 ≤ K) (n : Int) : haywainref14_File.f K n = some (fileB n) := by
  rw [haywainref14_File.f, condD, condD, fileB]
  by_cases h : Fr n
  · have h1 : ¬ n < 1 := by have := h.1; omega
    have h2 : ¬ n > 1099511627776 := by have := h.2; omega
    rw [if_neg h1, if_neg h2, if_pos h]
    obtain ⟨j, rfl⟩ := Int.eq_ofNat_of_zero_le (show 0 ≤ n by omega)
    have hj : j ≤ 1099511627776 := by omega
    have hd : haywainref03_Digits.f K (j : Int) = some (strOfNums (dgs 13 j)) := by
      have := rdigits_loop K 12 K j [] (by omega) hj (Nat.lt_of_le_of_lt hj (by decide)) (by omega) (by simp)
      rw [List.append_nil] at this
      exact this
    have hl := dgs_len 13 j
    have e : (⟨#[99]⟩ : ByteArray) = strOfNums [99] := rfl
    rw [hd, Option.bind_some, Int.toNat_natCast, catN (by rw [strOf_size]; show 1 + _ ≤ _; omega), Option.bind_some, e, strOf_append]
    rfl
  · rw [if_neg h]
    by_cases h1 : n < 1
    · rw [if_pos h1]
    · have h2 : n > 1099511627776 := by
        have := fun k => h ⟨by omega, k⟩
        omega
      rw [if_neg h1, if_pos h2]
def lastI (l : List Int) : Int := l.getLast?.getD 0
theorem lastI_snoc (l : List Int) (x : Int) : lastI (l ++ [x]) = x := by simp [lastI]
theorem lastI_idx {l : List Int} (h : 0 < l.length) (hl : l.length ≤ 1000000) : idxO l (IntKind.wrap .i64 ((l.length : Int) - 1)) = some (lastI l) := by
  rw [wrapI (by omega) (by omega), show (l.length : Int) - 1 = ((l.length - 1 : Nat) : Int) by omega, idxN, lastI, List.getLast?_eq_getElem?]
  rw [List.getElem?_eq_getElem (show l.length - 1 < l.length by omega)]
  rfl
theorem rlast_f {K : Nat} {L : S79} (hl : L.f0.length ≤ 1000000) : haywainref14_last.f K L = some (lastI L.f0) := by
  rw [haywainref14_last.f, condB]
  by_cases h : L.f0.length = 0
  · have : L.f0 = [] := List.eq_nil_of_length_eq_zero h
    rw [if_pos (by omega), this]
    rfl
  · rw [if_neg (by omega), lastI_idx (by omega) hl]
    rfl
def LR (L : S79) (r : Int × Int × Int × Bool) : Prop := L.f0.length ≤ 100000 ∧ L.f3 = r.2.2.2 ∧ (r.2.2.2 = true → lastI L.f0 = r.1 ∧ L.f1 = r.2.1 ∧ L.f2 = decide (r.2.1 < r.2.2.1))
theorem rlist_loop {K : Nat} (hK : 30000 ≤ K) (b0 : List Int) (hb0 : Bytes b0) (hlen : b0.length ≤ 20000) : ∀ (k wh : Nat) (nums : List Int), wh ≤ b0.length → b0.length < k + wh → nums.length ≤ wh →
    ∃ L, haywainref14_List.l1 K b0 k (nums, (wh : Int)) = some L ∧ LR L (rdL b0.length ((b0.drop wh).length + 1) (lastI nums) (b0.drop wh)) := by
  intro k
  induction k with
  | zero => intro wh nums h1 h2; omega
  | succ k ih =>
    intro wh nums h1 h2 h3
    rw [haywainref14_List.l1]
    have hb : Bytes (b0.drop wh) := hb0.drop wh
    have hdl : (b0.drop wh).length = b0.length - wh := List.length_drop
    by_cases hi : wh < b0.length
    · have hlt : ((wh : Int) < (b0.length : Int)) := by omega
      have c1 : cutO b0 (wh : Int) (b0.length : Int) = some (b0.drop wh) := by rw [cutN (by omega), List.take_length]
      have c2 : cutL b0 ((wh : Int).toNat) ((b0.length : Int).toNat) = b0.drop wh := by simp only [cutL, Int.toNat_natCast, List.take_length]
      simp only [condD, if_pos hlt, c1, c2, Option.bind_some, rtakeFrame_f hb (show (b0.drop wh).length ≤ 100000 by omega) hK, condN, condB]
      rw [rdL]
      by_cases c : (takeS (b0.drop wh)).2.2 = 0
      · obtain ⟨hp, hr, hl, hp4⟩ := take_rest hb c
        obtain ⟨N, hv, hN1, hN2, eN, _⟩ := takeS_zero hb c
        have hnc : ¬ (takeS (b0.drop wh)).2.2 ≠ 0 := fun h => h c
        have bad : ∀ t, LR ⟨nums, (wh : Int), t, false⟩ (0, 0, 0, false) := fun t => ⟨by show nums.length ≤ 100000; omega, rfl, fun h => by cases h⟩
        rw [if_pos c, if_neg hnc, if_pos c, rtakeNum_f hp (by omega)]
        simp only [Option.bind_some]
        by_cases c8 : (takeS (b0.drop wh)).1.length < 8
        · have hne : (takeS (b0.drop wh)).1.length ≠ 8 := by omega
          rw [if_pos c8, if_pos hne]
          exact ⟨_, rfl, bad false⟩
        · rw [if_neg c8]
          simp only [Bool.not_true, cond_false]
          by_cases c9 : (takeS (b0.drop wh)).1.length = 8
          · have hne : ¬ (takeS (b0.drop wh)).1.length ≠ 8 := by omega
            have h8i : (((takeS (b0.drop wh)).1.length : Int) = 8) := by omega
            have ht : (takeS (b0.drop wh)).1.take 8 = (takeS (b0.drop wh)).1 := List.take_of_length_le (by omega)
            rw [if_pos h8i, if_neg hne, ht]
            show ∃ L, (if vn (takeS (b0.drop wh)).1 < 1 then _ else _) = some L ∧ _
            by_cases cf1 : vn (takeS (b0.drop wh)).1 < 1
            · have hno : ¬ (Fr (vn (takeS (b0.drop wh)).1) ∧ lastI nums < vn (takeS (b0.drop wh)).1) := fun h => by have := h.1.1; omega
              rw [if_pos cf1, if_neg hno]
              exact ⟨_, rfl, bad false⟩
            rw [if_neg cf1]
            by_cases cf2 : vn (takeS (b0.drop wh)).1 > 1099511627776
            · have hno : ¬ (Fr (vn (takeS (b0.drop wh)).1) ∧ lastI nums < vn (takeS (b0.drop wh)).1) := fun h => by have := h.1.2; omega
              rw [if_pos cf2, if_neg hno]
              exact ⟨_, rfl, bad false⟩
            rw [if_neg cf2]
            have hFr : Fr (vn (takeS (b0.drop wh)).1) := ⟨by omega, by omega⟩
            have hw : IntKind.wrap .i64 ((wh : Int) + (8 + val 0 ((b0.drop wh).take 4))) = ((wh + (8 + N) : Nat) : Int) := by rw [hv, wrapI (by omega) (by omega)]; omega
            have go : lastI nums < vn (takeS (b0.drop wh)).1 → ∃ L, ((appO 8 nums [vn (takeS (b0.drop wh)).1]).bind fun y13_4 => haywainref14_List.l1 K b0 k (nums ++ [vn (takeS (b0.drop wh)).1], IntKind.wrap .i64 ((wh : Int) + (8 + val 0 ((b0.drop wh).take 4))))) = some L ∧ LR L (rdL b0.length (b0.drop wh).length (vn (takeS (b0.drop wh)).1) (takeS (b0.drop wh)).2.1) := by
              intro hlast
              have hl2 : wh + (8 + N) ≤ b0.length := by omega
              obtain ⟨L, e, hL⟩ := ih (wh + (8 + N)) (nums ++ [vn (takeS (b0.drop wh)).1]) hl2 (by omega) (by rw [List.length_append, List.length_singleton]; omega)
              have hd : b0.drop (wh + (8 + N)) = (takeS (b0.drop wh)).2.1 := by rw [eN, List.drop_drop]
              rw [lastI_snoc, hd] at hL
              refine ⟨L, ?_, ?_⟩
              · rw [appN (by simp only [List.length_cons, List.length_nil]; omega), Option.bind_some, hw]
                exact e
              · rw [rdL_fuel _ ((takeS (b0.drop wh)).2.1.length + 1) _ _ hr (by omega) (by omega)]
                exact hL
            by_cases cn : (nums.length : Int) > 0
            · rw [if_pos cn, lastI_idx (by omega) (by omega)]
              simp only [Option.bind_some]
              by_cases cl : lastI nums ≥ vn (takeS (b0.drop wh)).1
              · have hno : ¬ (Fr (vn (takeS (b0.drop wh)).1) ∧ lastI nums < vn (takeS (b0.drop wh)).1) := fun h => by have := h.2; omega
                rw [if_pos cl, if_neg hno]
                exact ⟨_, rfl, bad false⟩
              · rw [if_neg cl, if_pos ⟨hFr, by omega⟩]
                exact go (by omega)
            · have hnil : nums = [] := List.eq_nil_of_length_eq_zero (by omega)
              have hz : lastI nums = 0 := by rw [hnil]; rfl
              rw [if_neg cn, if_pos ⟨hFr, by omega⟩]
              exact go (by omega)
          · have hne : (takeS (b0.drop wh)).1.length ≠ 8 := c9
            have h8i : ¬ (((takeS (b0.drop wh)).1.length : Int) = 8) := by omega
            rw [if_neg h8i, if_pos hne]
            exact ⟨_, rfl, bad false⟩
      · rw [if_neg c, if_pos c]
        refine ⟨_, rfl, by show nums.length ≤ 100000; omega, rfl, fun _ => ⟨rfl, ?_, ?_⟩⟩
        · show (wh : Int) = (b0.length : Int) - ((b0.drop wh).length : Int)
          omega
        · show true = decide ((b0.length : Int) - ((b0.drop wh).length : Int) < (b0.length : Int))
          rw [decide_eq_true (by omega)]
    · have hlt : ¬ ((wh : Int) < (b0.length : Int)) := by omega
      have hd : b0.drop wh = [] := List.drop_eq_nil_of_le (by omega)
      simp only [condD, if_neg hlt]
      rw [hd, rdL, takeS_nil, if_pos (by decide)]
      refine ⟨_, rfl, by show nums.length ≤ 100000; omega, rfl, fun _ => ⟨rfl, ?_, ?_⟩⟩
      · show (wh : Int) = (b0.length : Int) - ((0 : Nat) : Int)
        omega
      · show false = decide ((b0.length : Int) - ((0 : Nat) : Int) < (b0.length : Int))
        rw [decide_eq_false (by omega)]
theorem rgetB (l : List S70) (n : ByteArray) : (mi n.toList l).head?.elim [] (·.f1) = getB l n := by
  unfold getB getS
  cases mi n.toList l <;> rfl
theorem rlist_f {K : Nat} (hK : 30000 ≤ K) {l : List S70} (hl : l.length ≤ 1000) (hb : BD l) : ∃ L, haywainref14_List.f K (A l) = some L ∧ LR L (rdD (own l)) := by
  have hlo := (own_RD l).len
  have hbg := getB_bytes (BD_own hb) mN
  have hlg := getB_len (own_RD l) mN
  rw [haywainref14_List.f, rgood_f hl (by omega), Option.bind_some, rget_f (show (own l).length ≤ 1000 by omega) (by omega), Option.bind_some, rgetB]
  have := rlist_loop hK (getB (own l) mN) hbg hlg K 0 [] (by omega) (by omega) (by simp)
  rw [List.drop_zero] at this
  exact this
theorem rLast_f {K : Nat} (hK : 30000 ≤ K) {l : List S70} (hl : l.length ≤ 1000) (hb : BD l) : haywainref14_Last.f K (A l) = some (lastS (own l)) := by
  have hR := own_RD l
  have hlo := hR.len
  have hbo := BD_own hb
  obtain ⟨L, e, hL0, hL1, hL2⟩ := rlist_f hK (show (own l).length ≤ 1000 by omega) hbo
  rw [own_own] at hL1 hL2
  rw [haywainref14_Last.f, rgood_f hl (by omega), Option.bind_some, e, Option.bind_some, condB', lastS, hL1]
  by_cases c1 : (rdD (own l)).2.2.2 = false
  · rw [if_pos c1, if_pos c1]
  obtain ⟨q1, q2, q3⟩ := hL2 (by simpa using c1)
  rw [if_neg c1, if_neg c1, rlast_f (by omega), Option.bind_some, condB, q1]
  by_cases c2 : (rdD (own l)).1 = 0
  · rw [if_pos c2, if_pos c2]
  rw [if_neg c2, if_neg c2, rfile_f hK, Option.bind_some, rget_f (show (own l).length ≤ 1000 by omega) (by omega), Option.bind_some, rgetB]
  have hbg := getB_bytes hbo (fileB (rdD (own l)).1)
  have hlg := getB_len hR (fileB (rdD (own l)).1)
  generalize getB (own l) (fileB (rdD (own l)).1) = b at *
  rw [rtakeFrame_f hbg (by omega) hK, Option.bind_some, condN, condN]
  simp only
  by_cases c4 : (takeS b).2.2 = 0
  · obtain ⟨N, hv, hN1, hN2, eN, _⟩ := takeS_zero hbg c4
    rw [if_pos c4, if_pos c4, hv]
    by_cases c5 : b.drop (8 + N) = []
    · have h6 : ¬ ((takeS b).2.2 ≠ 0 ∨ (takeS b).2.1 ≠ []) := by rw [eN]; simp [c5]
      have h7 : (8 + (N : Int)) = (b.length : Int) := by
        have := congrArg List.length c5
        rw [List.length_drop, List.length_nil] at this
        omega
      rw [if_pos h7, if_neg h6]
    · have h6 : ((takeS b).2.2 ≠ 0 ∨ (takeS b).2.1 ≠ []) := by rw [eN]; exact .inr c5
      have h7 : ¬ (8 + (N : Int)) = (b.length : Int) := fun h => c5 (List.drop_eq_nil_of_le (by omega))
      rw [if_neg h7, if_pos h6]
  · rw [if_neg c4, if_pos (.inl c4)]
/-! Changes. -/
def asC (c : S48) : S91 := ⟨c.f0, c.f1, c.f2⟩
theorem asC_loop (K : Nat) (cs : List S48) (hl : cs.length ≤ 1000) : ∀ (k i : Nat) (acc : List S91), i ≤ cs.length → cs.length < k + i → acc.length ≤ i → haywainlaw14_as.l1 K cs k (acc, (i : Int)) = some (acc ++ (cs.drop i).map asC) := by
  intro k
  induction k with
  | zero => intro i acc h1 h2; omega
  | succ k ih =>
    intro i acc h1 h2 h3
    rw [haywainlaw14_as.l1]
    by_cases hi : i < cs.length
    · have hx : cs[i]? = some cs[i] := List.getElem?_eq_getElem hi
      have hlt : ((i : Int) < (cs.length : Int)) := by omega
      simp only [condD, if_pos hlt, idxN, hx, Option.bind_some, step1 (show i < 1000000000 by omega)]
      rw [appN (by simp only [List.length_cons, List.length_nil]; omega), Option.bind_some, ih (i + 1) _ hi (by omega) (by simp only [List.length_append, List.length_cons, List.length_nil]; omega), List.drop_eq_getElem_cons hi, List.map_cons]
      simp only [List.append_assoc, List.singleton_append]
      rfl
    · have hlt : ¬ ((i : Int) < (cs.length : Int)) := by omega
      simp only [condD, if_neg hlt, List.drop_eq_nil_of_le (show cs.length ≤ i by omega), List.map_nil, List.append_nil]
theorem asC_f {K : Nat} (hK : 30000 ≤ K) {cs : List S48} (hl : cs.length ≤ 1000) : haywainlaw14_as.f K cs = some (cs.map asC) := by
  have := asC_loop K cs hl K 0 [] (by omega) (by omega) (by simp)
  rw [List.drop_zero, List.nil_append] at this
  exact this
theorem sameC_loop (K : Nat) (cs : List S91) (hl : cs.length ≤ 1000) : ∀ (k i : Nat), i ≤ cs.length → cs.length < k + i → haywainref14_SameChanges.l2 K cs cs k (i : Int) = some true := by
  intro k
  induction k with
  | zero => intro i h1 h2; omega
  | succ k ih =>
    intro i h1 h2
    rw [haywainref14_SameChanges.l2]
    by_cases hi : i < cs.length
    · have hx : cs[i]? = some cs[i] := List.getElem?_eq_getElem hi
      have hlt : ((i : Int) < (cs.length : Int)) := by omega
      simp only [condD, if_pos hlt, idxN, hx, Option.bind_some, step1 (show i < 1000000000 by omega), ih (i + 1) hi (by omega), condN, if_true, beq_self_eq_true, Bool.not_true, cond_false]
    · have hlt : ¬ ((i : Int) < (cs.length : Int)) := by omega
      simp only [condD, if_neg hlt]
theorem sameC_f {K : Nat} (hK : 30000 ≤ K) {cs : List S91} (hl : cs.length ≤ 1000) : haywainref14_SameChanges.f K cs cs = some true := by
  rw [haywainref14_SameChanges.f, condN, if_pos rfl]
  exact sameC_loop K cs hl K 0 (by omega) (by omega)
theorem rgone_loop {K : Nat} (l : List S70) (n : ByteArray) (hl : l.length ≤ 1000) (ho : ∀ x ∈ l, 1 ≤ x.f0.size) : ∀ (k i : Nat) (acc : List S91), i ≤ l.length → l.length < k + i → acc.length ≤ 10 + i →
    haywainref14_Save.l9 K n (A l) k (acc, (i : Int)) = some (acc ++ (gone n (l.drop i)).map asC, 0) := by
  intro k
  induction k with
  | zero => intro i acc h1 h2; omega
  | succ k ih =>
    intro i acc h1 h2 h3
    rw [haywainref14_Save.l9]
    by_cases hi : i < l.length
    · have hx : idxO (A l) (i : Int) = some (asF l[i]) := by rw [idxA, List.getElem?_eq_getElem hi]; rfl
      have hlt : ((i : Int) < ((A l).length : Int)) := by rw [lenA]; omega
      obtain ⟨b, e1, e2⟩ := sidx0 (ho _ (List.getElem_mem hi))
      have e1' : sidxO (asF l[i]).f0 0 = some b := e1
      simp only [condD, if_pos hlt, hx, Option.bind_some, step1 (show i < 1000000000 by omega), e1', condB]
      rw [appN (by simp only [List.length_cons, List.length_nil]; omega), Option.bind_some, List.drop_eq_getElem_cons hi]
      have en : (asF l[i]).f0 = l[i].f0 := rfl
      by_cases h99 : b = 99
      · have hC := e2.1 h99
        rw [if_pos h99, en]
        cases hc : (l[i].f0.toList == n.toList) with
        | true =>
          have f2 : gone n (l[i] :: l.drop (i + 1)) = gone n (l.drop (i + 1)) := by
            unfold gone; rw [List.filter_cons_of_neg (by simp [key, hc])]
          rw [f2]
          simp only [Bool.not_true, cond_false]
          exact ih (i + 1) _ hi (by omega) (by omega)
        | false =>
          have f2 : gone n (l[i] :: l.drop (i + 1)) = dropC l[i] :: gone n (l.drop (i + 1)) := by
            unfold gone; rw [List.filter_cons_of_pos (p := fun x : S70 => !(key x == n.toList) && isC x.f0) (by simp [key, hc, hC])]; rfl
          rw [f2]
          simp only [Bool.not_false, cond_true]
          rw [ih (i + 1) _ hi (by omega) (by simp only [List.length_append, List.length_cons, List.length_nil]; omega), List.map_cons, List.append_assoc]
          rfl
      · have hC : isC l[i].f0 = false := by
          cases hh : isC l[i].f0 with
          | false => rfl
          | true => exact absurd (e2.2 hh) h99
        have f2 : gone n (l[i] :: l.drop (i + 1)) = gone n (l.drop (i + 1)) := by
          unfold gone; rw [List.filter_cons_of_neg (by simp [hC])]
        rw [if_neg h99, f2]
        exact ih (i + 1) _ hi (by omega) (by omega)
    · have hlt : ¬ ((i : Int) < ((A l).length : Int)) := by rw [lenA]; omega
      simp only [condD, if_neg hlt, List.drop_eq_nil_of_le (show l.length ≤ i by omega)]
      simp [gone]
theorem rsave_f {K : Nat} (hK : 30000 ≤ K) {l : List S70} (hl : l.length ≤ 1000) (hb : BD l) (num : Int) {p : List Int} (hp : Bytes p) : haywainref14_Save.f K (A l) num p = some ((saveS (own l) num p).1.map asC, (saveS (own l) num p).2) := by
  have hR := own_RD l
  have hlo := hR.len
  have hbo := BD_own hb
  obtain ⟨L, e, hL0, hL1, hL2⟩ := rlist_f hK (show (own l).length ≤ 1000 by omega) hbo
  rw [own_own] at hL1 hL2
  rw [haywainref14_Save.f, rgood_f hl (by omega), Option.bind_some, condD, condD, saveS]
  by_cases c1 : Fr num
  · have h1 : ¬ num < 1 := by have := c1.1; omega
    have h2 : ¬ num > 1099511627776 := by have := c1.2; omega
    have c1' : ¬ ¬ Fr num := fun h => h c1
    rw [if_neg h1, if_neg h2, if_neg c1', condD]
    by_cases c2 : 4000 < p.length
    · have c2' : (p.length : Int) > 4000 := by omega
      rw [if_pos c2', if_pos c2]
      rfl
    · have c2' : ¬ (p.length : Int) > 4000 := by omega
      rw [if_neg c2', if_neg c2, e, Option.bind_some, condB', hL1]
      by_cases c3 : (rdD (own l)).2.2.2 = false
      · rw [if_pos c3, if_pos c3]
        rfl
      obtain ⟨q1, q2, q3⟩ := hL2 (by simpa using c3)
      rw [if_neg c3, if_neg c3, q3, condD]
      by_cases c4 : (rdD (own l)).2.1 < (rdD (own l)).2.2.1
      · rw [if_pos c4, if_pos (.inl c4)]
        rfl
      · rw [if_neg c4, rlast_f (by omega), Option.bind_some, condD, q1]
        by_cases c5 : num ≤ (rdD (own l)).1
        · rw [if_pos c5, if_pos (.inr c5)]
          rfl
        · have c6 : ¬ ((rdD (own l)).2.1 < (rdD (own l)).2.2.1 ∨ num ≤ (rdD (own l)).1) := by omega
          have n2 := gone_len (fileB num) (own l)
          have ho : ∀ x ∈ own l, 1 ≤ x.f0.size := fun x hx => (hR.ok x hx).1.1
          rw [if_neg c5, if_neg c6, rfile_f hK, Option.bind_some, has_f (show (own l).length ≤ 1000 by omega) (by omega), Option.bind_some]
          have hout : (cond (mi (fileB num).toList (own l)).head?.isSome ((appO 48 ([] : List S91) [⟨1, fileB num, []⟩]).bind fun y14_4 => some (([] : List S91) ++ [⟨1, fileB num, []⟩])) (some ([] : List S91)) : Option (List S91)) = some ((nameOut (fileB num) (own l)).map asC) := by
            rw [appN (by simp), Option.bind_some]
            rcases (parts hR.srt (fileB num).toList).2 with hm | ⟨x, hm, hk⟩
            · have : nameOut (fileB num) (own l) = [] := congrArg (List.map dropC) hm
              rw [hm, this]
              rfl
            · have : nameOut (fileB num) (own l) = [dropC x] := congrArg (List.map dropC) hm
              have hx0 : x.f0 = fileB num := toList_inj hk
              rw [hm, this]
              simp [asC, dropC, hx0]
          rw [hout, Option.bind_some]
          have n1 := nameOut_len (fileB num) (own l)
          have n1' : ((nameOut (fileB num) (own l)).map asC).length ≤ 1 := by
            rw [List.length_map]
            rcases (parts hR.srt (fileB num).toList).2 with hm | ⟨x, hm, hk⟩
            · have : nameOut (fileB num) (own l) = [] := congrArg (List.map dropC) hm
              rw [this]; simp
            · have : nameOut (fileB num) (own l) = [dropC x] := congrArg (List.map dropC) hm
              rw [this]; simp
          rw [rframe_f hp (by omega) hK, Option.bind_some]
          rw [appN (by simp only [List.length_cons, List.length_nil]; omega), Option.bind_some, appN (by simp only [List.length_append, List.length_cons, List.length_nil]; omega), Option.bind_some, rnum_f _ (by omega), Option.bind_some, rframe_f (be8_bytes _) (by simp [be8, be4]) hK, Option.bind_some]
          rw [appN (by simp only [List.length_append, List.length_cons, List.length_nil]; omega), Option.bind_some, appN (by simp only [List.length_append, List.length_cons, List.length_nil]; omega), Option.bind_some]
          have hgo := rgone_loop (K := K) (own l) (fileB num) (by omega) ho K 0 ((nameOut (fileB num) (own l)).map asC ++ [⟨2, fileB num, frameS p⟩] ++ [⟨3, fileB num, []⟩] ++ [⟨2, mN, markB num⟩] ++ [⟨3, mN, []⟩]) (by omega) (by omega) (by simp only [List.length_append, List.length_cons, List.length_nil]; omega)
          rw [List.drop_zero] at hgo
          refine hgo.trans ?_
          simp only [chg, core, List.map_append, List.map_cons, List.map_nil, asC, List.append_assoc, List.cons_append, List.nil_append]
  · rw [if_pos c1]
    by_cases h1 : num < 1
    · rw [if_pos h1]
      rfl
    · have h2 : num > 1099511627776 := by
        have := fun k => c1 ⟨by omega, k⟩
        omega
      rw [if_neg h1, if_pos h2]
      rfl
end Go.Proofs.Ytkcpbehgjbionaa.Pure
