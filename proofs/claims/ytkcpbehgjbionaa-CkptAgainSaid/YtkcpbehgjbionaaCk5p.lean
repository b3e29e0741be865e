/- Checkpoints, in plain Lean: some are kept whole; then one is begun, and the power goes. -/
import Derived.Test.YtkcpbehgjbionaaCk4p
set_option linter.unusedVariables false
set_option linter.unusedSimpArgs false
namespace Go.Proofs.Ytkcpbehgjbionaa.Pure
open Go Go.RowKit Go.Hw Go.Proofs.Ytkcpbehgjbionaa.G
theorem chg_pay {l : List S70} {num : Int} {p : List Int} (hp : p.length ≤ 4000) : ∀ c ∈ chg l num p, c.f2.length ≤ 1000000000 := by
  intro c hc
  have hfl := frameS_le hp
  have hml := markB_len num
  simp only [chg, List.mem_append] at hc
  rcases hc with (hc | hc) | hc
  · obtain ⟨x, _, rfl⟩ := List.mem_map.1 hc
    show ([] : List Int).length ≤ _
    simp
  · simp only [core, List.mem_cons, List.not_mem_nil, or_false] at hc
    rcases hc with rfl | rfl | rfl | rfl
    · show (frameS p).length ≤ _; omega
    · show ([] : List Int).length ≤ _; simp
    · show (markB num).length ≤ _; omega
    · show ([] : List Int).length ≤ _; simp
  · obtain ⟨x, _, rfl⟩ := List.mem_map.1 hc
    show ([] : List Int).length ≤ _
    simp
theorem do_all {K : Nat} (hK : 30000 ≤ K) {l : List S70} (hl : l.length ≤ 1000) {cs : List S48} (hcs : cs.length ≤ 1000) (hp : ∀ c ∈ cs, c.f2.length ≤ 1000000000) (ha : AllOk l cs) : ckpt_Do.f K ⟨l⟩ cs (cs.length : Int) = some (⟨stepsF l cs⟩, (cs.length : Int)) := by
  obtain ⟨j, h1, h2, h3, _⟩ := doR_steps (fuel := (cs.length : Int)) cs 0 l ha
  obtain rfl := h3 (by omega)
  rw [do_f hK hl hcs hp, h2, List.take_length, Nat.zero_add]
def kg : List (List Int) → Nat → List Int → Nat × List Int
  | [], n, p => (n, p)
  | q :: r, n, p => if 500 < q.length then kg r n p else kg r (n + 1) q
theorem kg_ok : ∀ (l : List (List Int)) (n : Nat) (p : List Int), (∀ q ∈ l, Bytes q) → Bytes p → p.length ≤ 500 → Bytes (kg l n p).2 ∧ (kg l n p).2.length ≤ 500 ∧ (kg l n p).1 ≤ n + l.length
  | [], n, p, _, h1, h2 => ⟨h1, h2, by simp [kg]⟩
  | q :: r, n, p, h, h1, h2 => by
    rw [kg]
    split
    · obtain ⟨a, b, c⟩ := kg_ok r n p (fun x hx => h x (List.mem_cons_of_mem _ hx)) h1 h2
      exact ⟨a, b, by rw [List.length_cons]; omega⟩
    · obtain ⟨a, b, c⟩ := kg_ok r (n + 1) q (fun x hx => h x (List.mem_cons_of_mem _ hx)) (h q List.mem_cons_self) (by omega)
      exact ⟨a, b, by rw [List.length_cons]; omega⟩
theorem chg_le {n : Nat} (hn : n ≤ 490) {p q : List Int} (hp : Bytes p) (hl : p.length ≤ 4000) (hq : Bytes q) (hql : q.length ≤ 4000) : (chg (stL n p) ((n : Int) + 1) q).length ≤ 100 := by
  obtain ⟨hg, _, _, _⟩ := stL_Gd (show n ≤ 1000 by omega) hp hl
  have := chg_len (stL n p) ((n : Int) + 1) q
  rw [own_of hg.rd, (stL_next (by omega) hp hl hq hql hn).1] at this
  exact this
theorem kept_loop {K : Nat} (hK : 30000 ≤ K) (pl : List (List Int)) (hpl : ∀ q ∈ pl, Bytes q) : ∀ (k i n : Nat) (p : List Int), i ≤ 10 → 10 < k + i → n ≤ i → Bytes p → p.length ≤ 500 →
    haywainlaw14_kept.l1 K pl k ((n : Int), (i : Int), stL n p) = some (⟨stL (kg ((pl.take 10).drop i) n p).1 (kg ((pl.take 10).drop i) n p).2⟩, ((kg ((pl.take 10).drop i) n p).1 : Int), true) := by
  intro k
  induction k with
  | zero => intro i n p h1 h2; omega
  | succ k ih =>
    intro i n p h1 h2 h3 hp hpl5
    rw [haywainlaw14_kept.l1]
    by_cases hi : i < pl.length
    · have hlt : ((i : Int) < (pl.length : Int)) := by omega
      by_cases h10 : i < 10
      · have hlt10 : ((i : Int) < 10) := by omega
        have hx : pl[i]? = some pl[i] := List.getElem?_eq_getElem hi
        have hti : i < (pl.take 10).length := by rw [List.length_take]; omega
        have hd : (pl.take 10).drop i = pl[i] :: (pl.take 10).drop (i + 1) := by
          rw [List.drop_eq_getElem_cons hti, List.getElem_take]
        have hqb := hpl _ (List.getElem_mem hi)
        simp only [condD, if_pos hlt, if_pos hlt10, idxN, hx, Option.bind_some, step1 (show i < 1000000000 by omega), step1 (show n < 1000000000 by omega)]
        rw [hd, kg]
        by_cases c : 500 < pl[i].length
        · have c' : (pl[i].length : Int) > 500 := by omega
          rw [if_pos c, if_pos c']
          exact ih (i + 1) n p (by omega) (by omega) (by omega) hp hpl5
        · have c' : ¬ (pl[i].length : Int) > 500 := by omega
          obtain ⟨hg, _, hlen, _⟩ := stL_Gd (show n ≤ 1000 by omega) hp (show p.length ≤ 4000 by omega)
          obtain ⟨s1, s2, s3⟩ := stL_next (show n ≤ 900 by omega) hp (show p.length ≤ 4000 by omega) hqb (show pl[i].length ≤ 4000 by omega) (by omega)
          have hcl := chg_le (show n ≤ 490 by omega) hp (show p.length ≤ 4000 by omega) hqb (show pl[i].length ≤ 4000 by omega)
          have hpay := chg_pay (l := stL n p) (num := (n : Int) + 1) (show pl[i].length ≤ 4000 by omega)
          rw [if_neg c, if_neg c', appN (by simp only [List.length_nil]; omega), Option.bind_some, List.nil_append]
          have hw : ((n + 1 : Nat) : Int) = (n : Int) + 1 := by omega
          rw [hw, save_f hK (by omega) hg.bd _ hqb, own_of hg.rd, s1]
          simp only [Option.bind_some, condN, if_true]
          rw [do_all hK (by omega) (by omega) hpay s2, s3, Option.bind_some]
          simp only [if_true]
          rw [← hw]
          exact ih (i + 1) (n + 1) pl[i] (by omega) (by omega) (by omega) hqb (by omega)
      · have hlt10 : ¬ ((i : Int) < 10) := by omega
        have hd : (pl.take 10).drop i = [] := List.drop_eq_nil_of_le (by rw [List.length_take]; omega)
        simp only [condD, if_pos hlt, if_neg hlt10, hd, kg]
    · have hlt : ¬ ((i : Int) < (pl.length : Int)) := by omega
      have hd : (pl.take 10).drop i = [] := List.drop_eq_nil_of_le (by rw [List.length_take]; omega)
      simp only [condD, if_neg hlt, hd, kg]
theorem kept_f {K : Nat} (hK : 30000 ≤ K) {pl : List (List Int)} (hpl : ∀ q ∈ pl, Bytes q) : ∃ n p, kg (pl.take 10) 0 [] = (n, p) ∧ haywainlaw14_kept.f K pl = some (⟨stL n p⟩, (n : Int), true) ∧ n ≤ 10 ∧ Bytes p ∧ p.length ≤ 500 := by
  have := kept_loop hK pl hpl K 0 0 [] (by omega) (by omega) (by omega) Bytes.nil (by simp)
  rw [List.drop_zero] at this
  obtain ⟨a, b, c⟩ := kg_ok (pl.take 10) 0 [] (fun q hq => hpl q (List.mem_of_mem_take hq)) Bytes.nil (by simp)
  have hl : (pl.take 10).length ≤ 10 := by rw [List.length_take]; omega
  exact ⟨_, _, rfl, this, by omega, a, b⟩
theorem NP_crash {l : List S70} (h : NP l) (keep : List Int) : NP (crashS l keep) := by
  intro m hm
  exact h m (fun e => hm (look_crash_none keep e))
theorem Lk.gd {l l' : List S70} {num : Nat} {x : S70} (h : Lk l l' (fn num) x) {ns : List Nat} (hg : Gd l ns) : Gd l' ns :=
  ⟨h.rd, h.bd, hg.up, by rw [getB_look, h.off mN (fn_ne_m num).symm, ← getB_look, hg.m]⟩
/-- What is left, and opened, behind a crash. -/
structure Left (n : Nat) (p q : List Int) (j : Nat) (x y : List S70) (keep : List Int) : Prop where
  rx : RD x
  bx : BD x
  op : openS (crashS x keep) = (y, 0)
  np : NP y
  len : y.length ≤ 10
  ns : (Gd y (nsn n) ∧ (1 ≤ n → getB y (fn n) = frameS p) ∧ j ≤ 3) ∨ (Gd y (nsn (n + 1)) ∧ getB y (fn (n + 1)) = frameS q ∧ 3 ≤ j)
theorem cuts {n : Nat} (hn : n ≤ 10) {p q : List Int} (hp : Bytes p) (hl : p.length ≤ 500) (hq : Bytes q) (hql : q.length ≤ 500) {j : Nat} (hj : j ≤ (chg (stL n p) ((n : Int) + 1) q).length) (keep : List Int) :
    ∃ y, Left n p q j (stepsF (stL n p) ((chg (stL n p) ((n : Int) + 1) q).take j)) y keep := by
  obtain ⟨hg, hnp, hlen, hsf⟩ := stL_Gd (show n ≤ 1000 by omega) hp (show p.length ≤ 4000 by omega)
  have hnf : n + 1 ≤ 1099511627776 := by omega
  have hfb : fileB ((n : Int) + 1) = fn (n + 1) := fileB_of (n := n + 1) (by omega) hnf
  have hne : (fn n).toList ≠ (fn (n + 1)).toList := fun e => by have := fn_inj (by omega) hnf e; omega
  have hno : look (stL n p) (fn (n + 1)) = none := by
    by_cases c : n = 0
    · subst c; rfl
    · exact (stL_look (p := p) (show 1 ≤ n by omega)).2.2 _ hne.symm (fn_ne_m _)
  have hold : 1 ≤ n → look (stL n p) (fn n) = some (fileC n p) := fun h => (stL_look (p := p) h).1
  obtain ⟨d1, d2, d3, d4, s, e1, e2, e3, e4, k1, k2, k3, k4, m1, m2⟩ := core_steps (num := n + 1) (q := q) hg (by omega) (by rw [nsn_len]; omega) hq (by omega) hno
  have hs : s = ((W (nsn n)).length : Int) := by
    cases e : look (stL n p) mN with
    | none => obtain ⟨a, b⟩ := m2 e; rw [a, b]; rfl
    | some m =>
      have h1 := hsf m e
      have h2 := m1 m e
      have h3 : m.f1 = W (nsn n) := by rw [← hg.m, getB_some e]
      rw [h2, h1, h3]
  have hcs : chg (stL n p) ((n : Int) + 1) q = core (fn (n + 1)) (frameS q) (markB ((n + 1 : Nat) : Int)) ++ gone (fn (n + 1)) (stL n p) := by
    have : nameOut (fn (n + 1)) (stL n p) = [] := congrArg (List.map dropC) (look_none.1 hno)
    unfold chg
    rw [hfb, this, List.nil_append]
    rfl
  have hgl : (gone (fn (n + 1)) (stL n p)).length ≤ 1 := by
    unfold gone
    rw [List.length_map]
    by_cases c : n = 0
    · subst c; simp [stL]
    · unfold stL
      rw [if_neg c, List.filter_cons]
      have h0 : [fileM (nsn n)].filter (fun x => !(key x == (fn (n + 1)).toList) && isC x.f0) = [] := by
        rw [List.filter_cons_of_neg (by show ¬ _; simp only [fileM, mN_isC, Bool.and_false]; decide), List.filter_nil]
      rw [h0]
      split <;> simp
  rw [hcs, List.length_append] at hj
  have h4 : (core (fn (n + 1)) (frameS q) (markB ((n + 1 : Nat) : Int))).length = 4 := rfl
  have n1 : ∀ k : Nat, (fn k).toList ≠ mN.toList := fn_ne_m
  have c1 := k1.np hnp (.inr (fn_isC _))
  have c2 := k2.np c1 (.inr (fn_isC _))
  have c3 := k3.np c2 (.inl rfl)
  have c4 := k4.np c3 (.inl rfl)
  have l1 := k1.len
  have l2 := k2.len
  have l3 := k3.len
  have l4 := k4.len
  have q1 : 1 ≤ n → look d1 (fn n) = some (fileC n p) := fun h => by rw [k1.off _ hne]; exact hold h
  have q2 : 1 ≤ n → look d2 (fn n) = some (fileC n p) := fun h => by rw [k2.off _ hne]; exact q1 h
  have q3 : 1 ≤ n → look d3 (fn n) = some (fileC n p) := fun h => by rw [k3.off _ (n1 n)]; exact q2 h
  have f3 : look d3 (fn (n + 1)) = some (fileC (n + 1) q) := by rw [k3.off _ (n1 _), k2.at_]; rfl
  have f4 : look d4 (fn (n + 1)) = some (fileC (n + 1) q) := by rw [k4.off _ (n1 _)]; exact f3
  have sf1 : ∀ m, look d1 mN = some m → Sf m := fun m e => hsf m (by rw [← e, k1.off _ (n1 _).symm])
  have sf2 : ∀ m, look d2 mN = some m → Sf m := fun m e => sf1 m (by rw [← e, k2.off _ (n1 _).symm])
  have g1 : Gd d1 (nsn n) := k1.gd hg
  have g2 : Gd d2 (nsn n) := k2.gd g1
  have g4 : Gd d4 (nsn (n + 1)) := ⟨k4.rd, k4.bd, nsn_up _ (by omega), by rw [getB_some k4.at_, nsn_succ, W_append, W_one]⟩
  have sf4 : ∀ m, look d4 mN = some m → Sf m := fun m e => by
    rw [k4.at_] at e
    rw [← Option.some.inj e]
    rfl
  have oldcase : ∀ {x : List S70}, Gd x (nsn n) → NP x → x.length ≤ 10 → (∀ m, look x mN = some m → Sf m) → (1 ≤ n → look x (fn n) = some (fileC n p)) → j ≤ 3 → ∃ y, Left n p q j x y keep := fun {x} a b c d e f => by
    have hc := co1 a d keep
    exact ⟨_, a.rd, a.bd, openS_whole hc, NP_crash b keep, by rw [crash_len]; exact c, .inl ⟨hc, fun h => by rw [getB_some (look_crash_sf a.rd keep (e h) (sfC n p))]; rfl, f⟩⟩
  have newcase : ∀ {x : List S70}, Gd x (nsn (n + 1)) → NP x → x.length ≤ 10 → (∀ m, look x mN = some m → Sf m) → look x (fn (n + 1)) = some (fileC (n + 1) q) → 3 ≤ j → ∃ y, Left n p q j x y keep := fun {x} a b c d e f => by
    have hc := co1 a d keep
    exact ⟨_, a.rd, a.bd, openS_whole hc, NP_crash b keep, by rw [crash_len]; exact c, .inr ⟨hc, by rw [getB_some (look_crash_sf a.rd keep e (sfC (n + 1) q))]; rfl, f⟩⟩
  rcases Nat.lt_or_ge j 5 with hj5 | hj5
  · have ht : (chg (stL n p) ((n : Int) + 1) q).take j = (core (fn (n + 1)) (frameS q) (markB ((n + 1 : Nat) : Int))).take j := by
      rw [hcs, List.take_append_of_le_length (by omega)]
    rw [ht]
    obtain rfl | rfl | rfl | rfl | rfl : j = 0 ∨ j = 1 ∨ j = 2 ∨ j = 3 ∨ j = 4 := by omega
    · exact oldcase (x := stL n p) hg hnp (by omega) hsf hold (by omega)
    · have : stepsF (stL n p) ((core (fn (n + 1)) (frameS q) (markB ((n + 1 : Nat) : Int))).take 1) = d1 := by
        show (doC (stL n p) ⟨2, fn (n + 1), frameS q⟩).1 = d1
        rw [e1]
      rw [this]
      exact oldcase g1 c1 (by omega) sf1 q1 (by omega)
    · have : stepsF (stL n p) ((core (fn (n + 1)) (frameS q) (markB ((n + 1 : Nat) : Int))).take 2) = d2 := by
        show (doC (doC (stL n p) ⟨2, fn (n + 1), frameS q⟩).1 ⟨3, fn (n + 1), []⟩).1 = d2
        rw [e1, e2]
      rw [this]
      exact oldcase g2 c2 (by omega) sf2 q2 (by omega)
    · have : stepsF (stL n p) ((core (fn (n + 1)) (frameS q) (markB ((n + 1 : Nat) : Int))).take 3) = d3 := by
        show (doC (doC (doC (stL n p) ⟨2, fn (n + 1), frameS q⟩).1 ⟨3, fn (n + 1), []⟩).1 ⟨2, mN, markB ((n + 1 : Nat) : Int)⟩).1 = d3
        rw [e1, e2, e3]
      rw [this]
      obtain ⟨y, y1, y2, y3, y4, _⟩ := co2 k3.rd k3.bd (nsn_up n (by omega)) (by rw [nsn_last]; omega) hnf k3.at_ rfl hs keep
      have hlk : ∀ m : ByteArray, m.toList ≠ mN.toList → look y m = look (crashS d3 keep) m := y3
      have hnpy : NP y := fun m hm => by
        by_cases c : m.toList = mN.toList
        · exact .inl (toList_inj c)
        · rw [y3 m c] at hm; exact NP_crash c3 keep m hm
      refine ⟨y, k3.rd, k3.bd, y1, hnpy, by rw [y4, crash_len]; omega, ?_⟩
      rcases y2 with h | h
      · refine .inl ⟨h, fun h1 => ?_, by omega⟩
        rw [getB_some ((y3 _ (n1 n)).trans (look_crash_sf k3.rd keep (q3 h1) (sfC n p)))]
        rfl
      · rw [← nsn_succ] at h
        refine .inr ⟨h, ?_, by omega⟩
        rw [getB_some ((y3 _ (n1 _)).trans (look_crash_sf k3.rd keep f3 (sfC (n + 1) q)))]
        rfl
    · have : stepsF (stL n p) ((core (fn (n + 1)) (frameS q) (markB ((n + 1 : Nat) : Int))).take 4) = d4 := by
        show (doC (doC (doC (doC (stL n p) ⟨2, fn (n + 1), frameS q⟩).1 ⟨3, fn (n + 1), []⟩).1 ⟨2, mN, markB ((n + 1 : Nat) : Int)⟩).1 ⟨3, mN, []⟩).1 = d4
        rw [e1, e2, e3, e4]
      rw [this]
      exact newcase g4 c4 (by omega) sf4 f4 (by omega)
  · have ht : (chg (stL n p) ((n : Int) + 1) q).take j = chg (stL n p) ((n : Int) + 1) q := List.take_of_length_le (by rw [hcs, List.length_append]; omega)
    obtain ⟨_, _, s3⟩ := stL_next (show n ≤ 900 by omega) hp (show p.length ≤ 4000 by omega) hq (show q.length ≤ 4000 by omega) (by omega)
    obtain ⟨hg', hnp', hlen', hsf'⟩ := stL_Gd (show n + 1 ≤ 1000 by omega) hq (show q.length ≤ 4000 by omega)
    rw [ht, s3]
    exact newcase hg' hnp' (by omega) hsf' (stL_look (p := q) (show 1 ≤ n + 1 by omega)).1 (by omega)
/-- The last checkpoint of what is left. -/
theorem Left.last {n : Nat} {p q : List Int} {j : Nat} {x y : List S70} {keep : List Int} (h : Left n p q j x y keep) (hp : Bytes p) (hl : p.length ≤ 500) (hq : Bytes q) (hql : q.length ≤ 500) :
    (lastS y = (if n = 0 then (0, [], 4) else ((n : Int), p, 0)) ∧ Gd y (nsn n) ∧ j ≤ 3) ∨ (lastS y = ((n : Int) + 1, q, 0) ∧ Gd y (nsn (n + 1)) ∧ 3 ≤ j) := by
  rcases h.ns with ⟨g, a, b⟩ | ⟨g, a, b⟩
  · refine .inl ⟨?_, g, b⟩
    by_cases c : n = 0
    · subst c
      rw [if_pos rfl]
      exact g.last_none
    · rw [if_neg c]
      have := g.last_some (p := p) (by intro e; have := congrArg List.length e; rw [nsn_len] at this; simp at this; omega) hp (by omega) (by rw [nsn_last]; exact a (by omega))
      rw [nsn_last] at this
      exact this
  · refine .inr ⟨?_, g, b⟩
    have := g.last_some (p := q) (by intro e; have := congrArg List.length e; rw [nsn_len] at this; simp at this) hq (by omega) (by rw [nsn_last]; exact a)
    rw [nsn_last] at this
    exact this
end Go.Proofs.Ytkcpbehgjbionaa.Pure
