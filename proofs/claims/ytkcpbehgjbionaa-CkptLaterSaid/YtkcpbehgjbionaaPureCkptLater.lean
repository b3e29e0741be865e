/- The plain law of CkptLater. -/
import Derived.Test.YtkcpbehgjbionaaCk6p
import Derived.Test.YtkcpbehgjbionaaLCkptLater
set_option linter.unusedVariables false
set_option linter.unusedSimpArgs false
namespace Go.Proofs.Ytkcpbehgjbionaa.Pure
open Go Go.RowKit Go.Hw Go.Proofs.Ytkcpbehgjbionaa.G
theorem last_loop {K : Nat} (pl : List (List Int)) : ∀ (k i n : Nat) (p : List Int), i ≤ 10 → 10 < k + i → haywainlaw14_CkptLater.l88 K pl k (p, (i : Int)) = some (kg ((pl.take 10).drop i) n p).2 := by
  intro k
  induction k with
  | zero => intro i n p h1 h2; omega
  | succ k ih =>
    intro i n p h1 h2
    rw [haywainlaw14_CkptLater.l88]
    by_cases hi : i < pl.length
    · have hlt : ((i : Int) < (pl.length : Int)) := by omega
      by_cases h10 : i < 10
      · have hlt10 : ((i : Int) < 10) := by omega
        have hx : pl[i]? = some pl[i] := List.getElem?_eq_getElem hi
        have hti : i < (pl.take 10).length := by rw [List.length_take]; omega
        have hd : (pl.take 10).drop i = pl[i] :: (pl.take 10).drop (i + 1) := by
          rw [List.drop_eq_getElem_cons hti, List.getElem_take]
        simp only [condD, if_pos hlt, if_pos hlt10, idxN, hx, Option.bind_some, step1 (show i < 1000000000 by omega)]
        rw [hd, kg]
        by_cases c : 500 < pl[i].length
        · have c' : ¬ (pl[i].length : Int) ≤ 500 := by omega
          rw [if_pos c, if_neg c']
          exact ih (i + 1) n p (by omega) (by omega)
        · have c' : (pl[i].length : Int) ≤ 500 := by omega
          rw [if_neg c, if_pos c']
          exact ih (i + 1) (n + 1) pl[i] (by omega) (by omega)
      · have hlt10 : ¬ ((i : Int) < 10) := by omega
        have hd : (pl.take 10).drop i = [] := List.drop_eq_nil_of_le (by rw [List.length_take]; omega)
        simp only [condD, if_pos hlt, if_neg hlt10, hd, kg]
    · have hlt : ¬ ((i : Int) < (pl.length : Int)) := by omega
      have hd : (pl.take 10).drop i = [] := List.drop_eq_nil_of_le (by rw [List.length_take]; omega)
      simp only [condD, if_neg hlt, hd, kg]
abbrev torn : List Int := [0, 0, 0, 8, 1, 2, 3, 4, 5, 6, 7, 8, 9, 10, 11]
theorem torn_take {r : Nat} (h : r ≤ 14) : takeS (torn.take r) = ([], [], 2) := by
  obtain rfl | rfl | rfl | rfl | rfl | rfl | rfl | rfl | rfl | rfl | rfl | rfl | rfl | rfl | rfl : r = 0 ∨ r = 1 ∨ r = 2 ∨ r = 3 ∨ r = 4 ∨ r = 5 ∨ r = 6 ∨ r = 7 ∨ r = 8 ∨ r = 9 ∨ r = 10 ∨ r = 11 ∨ r = 12 ∨ r = 13 ∨ r = 14 := by omega
  all_goals simp [takeS, val]
theorem torn_bytes (r : Nat) : Bytes (torn.take r) := by
  have : Bytes torn := by
    intro v hv
    simp only [torn, List.mem_cons, List.not_mem_nil, or_false] at hv
    rcases hv with rfl | rfl | rfl | rfl | rfl | rfl | rfl | rfl | rfl | rfl | rfl | rfl | rfl | rfl | rfl <;> exact ⟨by decide, by decide⟩
  exact this.take r
theorem save_ok {y : List S70} {ns : List Nat} (hg : Gd y ns) {num : Nat} (hlt : lastN 0 ns < num) (hnum : num ≤ 1099511627776) {q : List Int} (hql : q.length ≤ 4000) : saveS y (num : Int) q = (chg y (num : Int) q, 0) := by
  unfold saveS
  rw [hg.rdD]
  have h1 : ¬ ¬ Fr (num : Int) := fun h => h ⟨by omega, by omega⟩
  rw [if_neg h1, if_neg (by omega), if_neg (by simp), if_neg (by simp only; omega)]
theorem CkptLater : haywainlaw14_CkptLater.Pure := by
  intro pl num tn hpl hnw htw
  obtain ⟨t1, t2⟩ := bd8 htw
  obtain ⟨K, hK, hkn⟩ := knows_f
  refine ⟨K, ?_⟩
  obtain ⟨n, p, hkg, hkept, hn, hp, hpl5⟩ := kept_f hK (Bytes2 hpl.2)
  obtain ⟨hg, hnp, hlen, hsf⟩ := stL_Gd (show n ≤ 1000 by omega) hp (show p.length ≤ 4000 by omega)
  have hlast : ckpt_Last.f K ⟨stL n p⟩ = some (if n = 0 then (0, [], 4) else ((n : Int), p, 0)) := by
    rw [last_f hK (by omega) hg.bd, own_of hg.rd, stL_last (by omega) hp (by omega)]
  rw [haywainlaw14_CkptLater.f, hkept, hkn]
  simp only [Option.bind_some, Bool.not_true, cond_false, hlast, condB]
  by_cases c0 : n = 0
  · subst c0
    simp [stL]
  have c0' : ¬ ((n : Int) = 0) := by omega
  rw [if_neg c0', if_neg c0]
  have hl88 : haywainlaw14_CkptLater.l88 K pl K ([], 0) = some p := by
    have := last_loop (K := K) pl K 0 0 [] (by omega) (by omega)
    rw [List.drop_zero, hkg] at this
    exact this
  obtain ⟨k1, k2, k3⟩ := stL_look (p := p) (show 1 ≤ n by omega)
  have hnames : disk_Names.f K ⟨stL n p⟩ = some [fn n, mN] := by
    rw [names_f (by omega) (by omega), own_of hg.rd]
    unfold stL
    rw [if_neg c0]
    rfl
  have hl2 : (([fn n, mN] : List ByteArray).length : Int) = 2 := rfl
  have hrd := hg.rdD
  rw [nsn_last] at hrd
  -- the first asking
  obtain ⟨cs, f, hsv, hfc⟩ : ∃ cs f, ckpt_Save.f K ⟨stL n p⟩ num [] = some (cs, f) ∧ f = (if ¬ Fr num then 1 else if num ≤ (n : Int) then 6 else 0) := by
    refine ⟨(saveS (own (stL n p)) num []).1, (saveS (own (stL n p)) num []).2, save_f hK (by omega) hg.bd num Bytes.nil, ?_⟩
    rw [own_of hg.rd]
    unfold saveS
    rw [hrd]
    by_cases cf : Fr num
    · have cf' : ¬ ¬ Fr num := fun h => h cf
      rw [if_neg cf', if_neg cf', if_neg (by simp), if_neg (by simp)]
      by_cases cn : num ≤ (n : Int)
      · rw [if_pos (.inr cn), if_pos cn]
      · rw [if_neg (by simp only; omega), if_neg cn]
    · rw [if_pos cf, if_pos cf]
  have hcond : (cond (decide (num ≥ 1)) (cond (decide (num ≤ (n : Int))) (cond (f != 6) (some (true)) (cond (decide (num > (n : Int))) (cond (decide (num ≤ 1099511627776)) (cond (f != 0) (some (true)) (cond (decide (num < 1)) (some ((f != 1))) (cond (decide (num > 1099511627776)) (some ((f != 1))) (some (false))))) (cond (decide (num < 1)) (some ((f != 1))) (cond (decide (num > 1099511627776)) (some ((f != 1))) (some (false))))) (cond (decide (num < 1)) (some ((f != 1))) (cond (decide (num > 1099511627776)) (some ((f != 1))) (some (false)))))) (cond (decide (num > (n : Int))) (cond (decide (num ≤ 1099511627776)) (cond (f != 0) (some (true)) (cond (decide (num < 1)) (some ((f != 1))) (cond (decide (num > 1099511627776)) (some ((f != 1))) (some (false))))) (cond (decide (num < 1)) (some ((f != 1))) (cond (decide (num > 1099511627776)) (some ((f != 1))) (some (false))))) (cond (decide (num < 1)) (some ((f != 1))) (cond (decide (num > 1099511627776)) (some ((f != 1))) (some (false)))))) (cond (decide (num > (n : Int))) (cond (decide (num ≤ 1099511627776)) (cond (f != 0) (some (true)) (cond (decide (num < 1)) (some ((f != 1))) (cond (decide (num > 1099511627776)) (some ((f != 1))) (some (false))))) (cond (decide (num < 1)) (some ((f != 1))) (cond (decide (num > 1099511627776)) (some ((f != 1))) (some (false))))) (cond (decide (num < 1)) (some ((f != 1))) (cond (decide (num > 1099511627776)) (some ((f != 1))) (some (false))))) : Option Bool) = some false := by
    by_cases a1 : num < 1
    · have a2 : ¬ num ≥ 1 := by omega
      have a3 : ¬ num > (n : Int) := by omega
      have e : f = 1 := by rw [hfc, if_pos (fun h => by have := h.1; omega)]
      simp only [e, condD, if_neg a2, if_neg a3, if_pos a1]
      rfl
    · have a2 : num ≥ 1 := by omega
      by_cases a4 : num > 1099511627776
      · have a3 : num > (n : Int) := by omega
        have a5 : ¬ num ≤ (n : Int) := by omega
        have a6 : ¬ num ≤ 1099511627776 := by omega
        have e : f = 1 := by rw [hfc, if_pos (fun h => by have := h.2; omega)]
        simp only [e, condD, if_pos a2, if_neg a5, if_pos a3, if_neg a6, if_neg a1, if_pos a4]
        rfl
      · have a6 : num ≤ 1099511627776 := by omega
        have hF : ¬ ¬ Fr num := fun h => h ⟨a2, a6⟩
        by_cases a5 : num ≤ (n : Int)
        · have a3 : ¬ num > (n : Int) := by omega
          have e : f = 6 := by rw [hfc, if_neg hF, if_pos a5]
          simp only [e, condD, condN, if_true, if_pos a2, if_pos a5, if_neg a3, if_neg a1, if_neg a4]
        · have a3 : num > (n : Int) := by omega
          have e : f = 0 := by rw [hfc, if_neg hF, if_neg a5]
          simp only [e, condD, condN, if_true, if_pos a2, if_neg a5, if_pos a3, if_pos a6, if_neg a1, if_neg a4]
  -- the torn list
  obtain ⟨r, hr, hr2⟩ : ∃ r : Nat, tn.tmod 15 = (r : Int) ∧ r ≤ 14 := by
    refine ⟨(tn.tmod 15).toNat, ?_, ?_⟩
    · have := Int.tmod_eq_emod_of_nonneg (b := 15) t1; omega
    · have := Int.tmod_eq_emod_of_nonneg (b := 15) t1; omega
  have r1 : remO tn 15 = some (r : Int) := by rw [remO, if_neg (by omega), hr]
  have w1 : IntKind.wrap .i64 (r : Int) = (r : Int) := wrapI (by omega) (by omega)
  have w2 : IntKind.wrap .i64 ((n : Int) + 1) = ((n + 1 : Nat) : Int) := by rw [wrapI (by omega) (by omega)]; omega
  have ct1 : cutO torn 0 (r : Int) = some (torn.take r) := (cutN (xs := torn) (lo := 0) (hi := r) (by show 0 ≤ r ∧ r ≤ 15; omega)).trans (by simp)
  have ct2 : cutL torn ((0 : Int).toNat) (((r : Int)).toNat) = torn.take r := by simp only [cutL, Int.toNat_natCast]; rfl
  have htl : (torn.take r).length = r := by rw [List.length_take]; show min r 15 = r; omega
  have hWl := W_len (nsn n)
  rw [nsn_len] at hWl
  obtain ⟨e3, r3⟩ := doC_old (b := torn.take r) hg.rd mN_Nm k2 (by show (W (nsn n)).length + _ ≤ _; omega)
  rw [doC_two, own_of hg.rd] at e3
  have hput : disk_Put.f K ⟨stL n p⟩ mN (torn.take r) = some (⟨repl (stL n p) mN ⟨mN, W (nsn n) ++ torn.take r, ((W (nsn n)).length : Int)⟩⟩, 0) := by
    rw [put_f (by omega) (by omega) (by omega), own_of hg.rd, e3]
    rfl
  have hL := Lk.of hg.rd hg.bd (n := mN) (x := ⟨mN, W (nsn n) ++ torn.take r, ((W (nsn n)).length : Int)⟩) rfl r3 ((W_bytes _).append (torn_bytes r))
  generalize repl (stL n p) mN ⟨mN, W (nsn n) ++ torn.take r, ((W (nsn n)).length : Int)⟩ = x at hput hL r3
  have hxl := hL.rd.len
  have hgm : getB x mN = W (nsn n) ++ torn.take r := getB_some hL.at_
  have hgn : getB x (fn n) = frameS p := by rw [getB_some ((hL.off _ (fn_ne_m n)).trans k1)]; rfl
  have hup := nsn_up n (by omega)
  have hxrd : rdD x = ((n : Int), ((W (nsn n)).length : Int), ((W (nsn n)).length : Int) + r, true) := by
    unfold rdD
    rw [hgm]
    refine (rd_frames (torn_bytes r) (by rw [torn_take hr2]) (nsn n) 0 _ hup (by omega)).trans ?_
    rw [List.length_append, htl, nsn_last]
    simp only [Prod.mk.injEq, true_and, and_true]
    omega
  have hn1 : Fr ((n + 1 : Nat) : Int) := ⟨by omega, by omega⟩
  obtain ⟨cs2, hsv2⟩ : ∃ cs2, ckpt_Save.f K ⟨x⟩ ((n + 1 : Nat) : Int) [] = some (cs2, if r = 0 then 0 else 6) := by
    have : ∃ cs2, saveS x ((n + 1 : Nat) : Int) [] = (cs2, if r = 0 then 0 else 6) := by
      unfold saveS
      rw [hxrd, if_neg (fun h => h hn1), if_neg (by simp), if_neg (by simp)]
      by_cases cr : r = 0
      · rw [if_pos cr, if_neg (by simp only; omega)]
        exact ⟨_, rfl⟩
      · rw [if_neg cr, if_pos (by simp only; omega)]
        exact ⟨_, rfl⟩
    obtain ⟨cs2, h⟩ := this
    exact ⟨cs2, by rw [save_f hK (by omega) hL.bd _ Bytes.nil, own_of hL.rd, h]⟩
  obtain ⟨y, hop, hgy⟩ : ∃ y, openS x = (y, 0) ∧ Gd y (nsn n) := by
    by_cases cr : r = 0
    · have hgx : Gd x (nsn n) := ⟨hL.rd, hL.bd, hup, by rw [hgm, cr]; simp⟩
      exact ⟨x, openS_whole hgx, hgx⟩
    · have hcut : cutS x mN ((W (nsn n)).length : Int) = (repl x mN ⟨mN, W (nsn n), ((W (nsn n)).length : Int)⟩, 0) := by
        unfold cutS
        rw [(look_some hL.rd hL.at_).1]
        simp only
        rw [if_neg (by rw [List.length_append]; omega), Int.toNat_natCast, List.take_left]
      have hop : openS x = (repl x mN ⟨mN, W (nsn n), ((W (nsn n)).length : Int)⟩, 0) := by
        unfold openS
        rw [own_of hL.rd, hxrd]
        simp only
        rw [if_neg (by decide), if_neg (by omega), hcut]
      have hRy := RD_cut hL.rd mN ((W (nsn n)).length : Int)
      rw [hcut] at hRy
      exact ⟨_, hop, hRy, BD_repl hL.bd (W_bytes _), hup, getB_some (look_repl hL.rd (n := mN) (x := ⟨mN, W (nsn n), ((W (nsn n)).length : Int)⟩) rfl)⟩
  have hyl := hgy.rd.len
  have hopen : ckpt_Open.f K ⟨x⟩ = some (⟨y⟩, 0) := by rw [open_f hK (by omega) hL.bd, hop]
  have hsv3 : ckpt_Save.f K ⟨y⟩ ((n + 1 : Nat) : Int) [] = some (chg y ((n + 1 : Nat) : Int) [], 0) := by
    rw [save_f hK (by omega) hgy.bd _ Bytes.nil, own_of hgy.rd, save_ok hgy (by rw [nsn_last]; omega) (by omega) (by simp)]
  have hlx : ckpt_Last.f K ⟨x⟩ = some ((n : Int), p, 0) := by
    have tf := take_frame hp Bytes.nil (show p.length ≤ 4000 by omega)
    rw [List.append_nil] at tf
    rw [last_f hK (by omega) hL.bd, own_of hL.rd]
    unfold lastS
    rw [hxrd]
    simp only
    rw [fileB_of (by omega) (by omega), hgn, tf, if_neg (by decide), if_neg c0']
    simp
  simp only [hl88, Option.bind_some, bne_self_eq_false, cond_false, cond_true, beq_self_eq_true, Bool.not_true, hnames, hl2, hsv, hcond, r1, hr, w1, w2, ct1, ct2, hput, hsv2, hopen, hsv3, hlx]
  by_cases cr : r = 0
  · have : ¬ ((r : Int) > 0) := by omega
    rw [if_pos cr, decide_eq_false this]
    rfl
  · have : ((r : Int) > 0) := by omega
    rw [if_neg cr, decide_eq_true this]
    rfl
end Go.Proofs.Ytkcpbehgjbionaa.Pure
