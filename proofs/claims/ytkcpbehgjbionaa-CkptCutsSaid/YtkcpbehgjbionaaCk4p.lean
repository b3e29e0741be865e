/- Checkpoints, in plain Lean: one is kept whole. -/
import Derived.Test.YtkcpbehgjbionaaCk3p
set_option linter.unusedVariables false
set_option linter.unusedSimpArgs false
namespace Go.Proofs.Ytkcpbehgjbionaa.Pure
open Go Go.RowKit Go.Hw Go.Proofs.Ytkcpbehgjbionaa.G
/-- l' is l but for the file n, which is x. -/
structure Lk (l l' : List S70) (n : ByteArray) (x : S70) : Prop where
  rd : RD l'
  bd : BD l'
  at_ : look l' n = some x
  off : ∀ m : ByteArray, m.toList ≠ n.toList → look l' m = look l m
  len : l'.length ≤ l.length + 1
theorem Lk.of {l : List S70} (h : RD l) (hb : BD l) {n : ByteArray} {x : S70} (hx : x.f0 = n) (hr : RD (repl l n x)) (hxb : Bytes x.f1) : Lk l (repl l n x) n x :=
  ⟨hr, BD_repl hb hxb, look_repl h hx, fun m hm => look_repl' h hx hm, by
    cases e : look l n with
    | none => rw [len_new h e]; omega
    | some y => rw [len_old h e]; omega⟩
def NP (l : List S70) : Prop := ∀ m : ByteArray, look l m ≠ none → m = mN ∨ isC m = true
theorem Lk.np {l l' : List S70} {n : ByteArray} {x : S70} (h : Lk l l' n x) (hl : NP l) (hn : n = mN ∨ isC n = true) : NP l' := by
  intro m hm
  by_cases e : m.toList = n.toList
  · rw [toList_inj e]; exact hn
  · rw [h.off m e] at hm; exact hl m hm
theorem fn_isC (n : Nat) : isC (fn n) = true := by
  unfold isC
  rw [fn_toList]
  rfl
theorem mN_isC : isC mN = false := by
  unfold isC
  rw [mN_toList]
  rfl
theorem frameS_le {q : List Int} (h : q.length ≤ 4000) : (frameS q).length ≤ 4008 := by rw [frameS_length]; omega
/-- The four changes in the middle. -/
theorem core_steps {y : List S70} {ns : List Nat} (hg : Gd y ns) (hlen : y.length ≤ 20) (hns : ns.length ≤ 500) {num : Nat} {q : List Int} (hq : Bytes q) (hql : q.length ≤ 4000) (hno : look y (fn num) = none) :
    ∃ d1 d2 d3 d4 s, doC y ⟨2, fn num, frameS q⟩ = (d1, 0) ∧ doC d1 ⟨3, fn num, []⟩ = (d2, 0) ∧ doC d2 ⟨2, mN, markB (num : Int)⟩ = (d3, 0) ∧ doC d3 ⟨3, mN, []⟩ = (d4, 0) ∧
      Lk y d1 (fn num) ⟨fn num, frameS q, 0⟩ ∧ Lk d1 d2 (fn num) ⟨fn num, frameS q, (frameS q).length⟩ ∧ Lk d2 d3 mN ⟨mN, W ns ++ markB (num : Int), s⟩ ∧ Lk d3 d4 mN ⟨mN, W ns ++ markB (num : Int), (W ns ++ markB (num : Int)).length⟩ ∧
      (∀ m, look y mN = some m → s = m.f2) ∧ (look y mN = none → s = 0 ∧ W ns = []) := by
  have hfq := frameS_bytes hq
  have hfl := frameS_le hql
  have hmb := markB_bytes (num : Int)
  have hml := markB_len (num : Int)
  have hWl := W_len ns
  have hWb := W_bytes ns
  obtain ⟨e1, r1⟩ := doC_new hg.rd (fn_Nm num) hno (by omega) (show (frameS q).length ≤ 20000 by omega)
  have k1 := Lk.of hg.rd hg.bd (n := fn num) (x := ⟨fn num, frameS q, 0⟩) rfl r1 hfq
  obtain ⟨e2, r2⟩ := doC_sync (b := []) k1.rd k1.at_
  have k2 := Lk.of k1.rd k1.bd (n := fn num) (x := ⟨fn num, frameS q, (frameS q).length⟩) rfl r2 hfq
  have hmo : look (repl (repl y (fn num) ⟨fn num, frameS q, 0⟩) (fn num) ⟨fn num, frameS q, (frameS q).length⟩) mN = look y mN := by
    rw [k2.off mN (fn_ne_m num).symm, k1.off mN (fn_ne_m num).symm]
  have hl1 := k1.len
  have hl2 := k2.len
  cases hm : look y mN with
  | none =>
    have hW : W ns = [] := by rw [← hg.m, getB_none hm]
    obtain ⟨e3, r3⟩ := doC_new k2.rd mN_Nm (hmo.trans hm) (by omega) (show (markB (num : Int)).length ≤ 20000 by omega)
    have k3 := Lk.of k2.rd k2.bd (n := mN) (x := ⟨mN, markB (num : Int), 0⟩) rfl r3 hmb
    obtain ⟨e4, r4⟩ := doC_sync (b := []) k3.rd k3.at_
    have k4 := Lk.of k3.rd k3.bd (n := mN) (x := ⟨mN, markB (num : Int), (markB (num : Int)).length⟩) rfl r4 hmb
    refine ⟨_, _, _, _, 0, e1, e2, e3, e4, k1, k2, ?_, ?_, fun m h => (by cases h), fun _ => ⟨rfl, hW⟩⟩
    · rw [hW]; exact k3
    · rw [hW]; exact k4
  | some m =>
    have hW : m.f1 = W ns := by rw [← hg.m, getB_some hm]
    obtain ⟨e3, r3⟩ := doC_old (b := markB (num : Int)) k2.rd mN_Nm (hmo.trans hm) (by rw [hW]; omega)
    rw [hW] at e3 r3
    have k3 := Lk.of k2.rd k2.bd (n := mN) (x := ⟨mN, W ns ++ markB (num : Int), m.f2⟩) rfl r3 (hWb.append hmb)
    obtain ⟨e4, r4⟩ := doC_sync (b := []) k3.rd k3.at_
    have k4 := Lk.of k3.rd k3.bd (n := mN) (x := ⟨mN, W ns ++ markB (num : Int), (W ns ++ markB (num : Int)).length⟩) rfl r4 (hWb.append hmb)
    exact ⟨_, _, _, _, m.f2, e1, e2, e3, e4, k1, k2, k3, k4, fun m' h => by rw [Option.some.inj h], fun h => by cases h⟩
/-- Files are dropped one by one. -/
theorem drops : ∀ (g : List S70) (l : List S70), RD l → BD l → g.Pairwise (fun a b => key a ≠ key b) → (∀ x ∈ g, look l x.f0 = some x) →
    AllOk l (g.map dropC) ∧ RD (stepsF l (g.map dropC)) ∧ BD (stepsF l (g.map dropC)) ∧ (∀ m : ByteArray, (∀ x ∈ g, key x ≠ m.toList) → look (stepsF l (g.map dropC)) m = look l m) ∧ ∀ x ∈ g, look (stepsF l (g.map dropC)) x.f0 = none
  | [], l, h, hb, _, _ => ⟨trivial, h, hb, fun _ _ => rfl, fun x hx => by cases hx⟩
  | a :: g, l, h, hb, hp, hx => by
    obtain ⟨hp1, hp2⟩ := List.pairwise_cons.1 hp
    have ha := hx a List.mem_cons_self
    have hd : doC l (dropC a) = (dropL l a.f0, 0) := doC_drop h ha
    have hr := RD_dropL h a.f0
    have hb' : BD (dropL l a.f0) := by
      intro y hy
      rcases List.mem_append.1 hy with hy | hy
      · exact hb y (lo_mem hy)
      · exact hb y (hi_mem hy)
    obtain ⟨q1, q2, q3, q4, q5⟩ := drops g (dropL l a.f0) hr hb' hp2 (fun x hxg => by
      rw [look_drop' h (fun e => hp1 x hxg e.symm)]
      exact hx x (List.mem_cons_of_mem _ hxg))
    have es : stepsF l ((a :: g).map dropC) = stepsF (dropL l a.f0) (g.map dropC) := by
      show stepsF (doC l (dropC a)).1 (g.map dropC) = _
      rw [hd]
    rw [es]
    refine ⟨⟨by rw [hd], by rw [hd]; exact q1⟩, q2, q3, fun m hm => ?_, fun x hxg => ?_⟩
    · rw [q4 m (fun x hxg => hm x (List.mem_cons_of_mem _ hxg)), look_drop' h (fun e => hm a List.mem_cons_self e.symm)]
    · rcases List.mem_cons.1 hxg with rfl | hxg
      · rw [q4 x.f0 (fun y hy e => hp1 y hy e.symm), look_drop]
      · exact q5 x hxg
theorem two_list {z : List S70} (h : RD z) {n : Nat} {a b : S70} (ha : look z (fn n) = some a) (hb : look z mN = some b) (ho : ∀ x ∈ z, x.f0 = fn n ∨ x.f0 = mN) : z = [a, b] := by
  have hbl := fn_bl_m n
  have e := (parts h.srt (fn n).toList).1
  have hmi := (look_some h ha).1
  have hmb := (look_some h hb).1
  have hlo : lo (fn n).toList z = [] := List.filter_eq_nil_iff.2 (fun x hx => by
    rcases ho x hx with e | e
    · have : key x = (fn n).toList := congrArg _ e
      rw [this]
      exact bl_irrefl _
    · have : key x = mN.toList := congrArg _ e
      rw [this]
      exact bl_asymm hbl)
  have hhi : hi (fn n).toList z = mi mN.toList z := List.filter_congr (fun x hx => by
    rcases ho x hx with e | e
    · have : key x = (fn n).toList := congrArg _ e
      rw [this]
      have h1 : Op.bytesLess (fn n).toList (fn n).toList = false := ff (bl_irrefl _)
      rw [h1]
      symm
      simpa using fn_ne_m n
    · have : key x = mN.toList := congrArg _ e
      rw [this]
      have h1 : Op.bytesLess (fn n).toList mN.toList = true := hbl
      rw [h1]
      symm
      simp)
  rw [hlo, hmi, hhi, hmb] at e
  exact e
def fileC (n : Nat) (q : List Int) : S70 := ⟨fn n, frameS q, (frameS q).length⟩
def fileM (ns : List Nat) : S70 := ⟨mN, W ns, (W ns).length⟩
theorem sfC (n : Nat) (q : List Int) : Sf (fileC n q) := rfl
theorem sfM (ns : List Nat) : Sf (fileM ns) := rfl
/-- A checkpoint is kept whole. -/
theorem full {y : List S70} {ns : List Nat} (hg : Gd y ns) (hnp : NP y) (hlen : y.length ≤ 20) (hns : ns.length ≤ 500) {num : Nat} (hlt : lastN 0 ns < num) (hnum : num ≤ 1099511627776) {q : List Int} (hq : Bytes q) (hql : q.length ≤ 4000) :
    saveS y (num : Int) q = (chg y (num : Int) q, 0) ∧ AllOk y (chg y (num : Int) q) ∧ stepsF y (chg y (num : Int) q) = [fileC num q, fileM (ns ++ [num])] := by
  have hfb : fileB (num : Int) = fn num := fileB_of (by omega) hnum
  have hsave : saveS y (num : Int) q = (chg y (num : Int) q, 0) := by
    unfold saveS
    rw [hg.rdD]
    have h1 : ¬ ¬ Fr (num : Int) := fun h => h ⟨by omega, by omega⟩
    rw [if_neg h1, if_neg (by omega), if_neg (by simp), if_neg (by simp only; omega)]
  -- the old file of this name goes
  have hout : AllOk y (nameOut (fn num) y) ∧ Gd (stepsF y (nameOut (fn num) y)) ns ∧ look (stepsF y (nameOut (fn num) y)) (fn num) = none ∧ (∀ m : ByteArray, m.toList ≠ (fn num).toList → look (stepsF y (nameOut (fn num) y)) m = look y m) ∧ (stepsF y (nameOut (fn num) y)).length ≤ y.length := by
    cases e : look y (fn num) with
    | none =>
      have : nameOut (fn num) y = [] := congrArg (List.map dropC) (look_none.1 e)
      rw [this]
      exact ⟨trivial, hg, e, fun _ _ => rfl, Nat.le_refl _⟩
    | some x =>
      obtain ⟨hm, hx0, hx1, _⟩ := look_some hg.rd e
      have : nameOut (fn num) y = [dropC x] := congrArg (List.map dropC) hm
      have hd : doC y (dropC x) = (dropL y (fn num), 0) := by
        have := doC_drop (b := []) hg.rd e
        rw [← hx0] at this ⊢
        exact this
      have es : stepsF y [dropC x] = dropL y (fn num) := by
        show (doC y (dropC x)).1 = _
        rw [hd]
      rw [this, es]
      refine ⟨⟨by rw [hd], trivial⟩, ⟨RD_dropL hg.rd _, fun w hw => ?_, hg.up, ?_⟩, look_drop _ _, fun m hm => look_drop' hg.rd hm, len_drop hg.rd _⟩
      · rcases List.mem_append.1 hw with hw | hw
        · exact hg.bd w (lo_mem hw)
        · exact hg.bd w (hi_mem hw)
      · rw [getB_look, look_drop' hg.rd (fn_ne_m num).symm, ← getB_look, hg.m]
  obtain ⟨o1, o2, o3, o4, o5⟩ := hout
  obtain ⟨d1, d2, d3, d4, s, e1, e2, e3, e4, k1, k2, k3, k4, _, _⟩ := core_steps (num := num) (q := q) o2 (by omega) hns hq hql o3
  have hcore : AllOk (stepsF y (nameOut (fn num) y)) (core (fn num) (frameS q) (markB (num : Int))) ∧ stepsF (stepsF y (nameOut (fn num) y)) (core (fn num) (frameS q) (markB (num : Int))) = d4 := by
    constructor
    · refine ⟨by rw [e1], ?_⟩
      rw [e1]
      refine ⟨by rw [e2], ?_⟩
      rw [e2]
      refine ⟨by rw [e3], ?_⟩
      rw [e3]
      exact ⟨by rw [e4], trivial⟩
    · show (doC (doC (doC (doC _ ⟨2, fn num, frameS q⟩).1 ⟨3, fn num, []⟩).1 ⟨2, mN, markB (num : Int)⟩).1 ⟨3, mN, []⟩).1 = d4
      rw [e1, e2, e3, e4]
  -- what is looked up there
  have l4m : look d4 mN = some (fileM (ns ++ [num])) := by
    rw [k4.at_]
    unfold fileM
    rw [W_append, W_one]
  have l4n : look d4 (fn num) = some (fileC num q) := by
    rw [k4.off _ (fn_ne_m num), k3.off _ (fn_ne_m num), k2.at_]
    rfl
  have l4o : ∀ m : ByteArray, m.toList ≠ (fn num).toList → m.toList ≠ mN.toList → look d4 m = look y m := fun m h1 h2 => by
    rw [k4.off _ h2, k3.off _ h2, k2.off _ h1, k1.off _ h1, o4 m h1]
  -- the others go
  let g := y.filter (fun x => !(key x == (fn num).toList) && isC x.f0)
  have hgm : ∀ x ∈ g, x ∈ y ∧ key x ≠ (fn num).toList ∧ isC x.f0 = true := fun x hx => by
    obtain ⟨h1, h2⟩ := List.mem_filter.1 hx
    simp only [Bool.and_eq_true, Bool.not_eq_true', beq_eq_false_iff_ne] at h2
    exact ⟨h1, h2.1, h2.2⟩
  have notm : ∀ {x : S70}, isC x.f0 = true → key x ≠ mN.toList := fun {x} hc e => by
    have : x.f0 = mN := toList_inj e
    rw [this, mN_isC] at hc
    cases hc
  obtain ⟨q1, q2, q3, q4, q5⟩ := drops g d4 k4.rd k4.bd ((hg.rd.srt.sublist List.filter_sublist).imp (fun {a b} h => bl_ne h)) (fun x hx => by
    obtain ⟨h1, h2, h3⟩ := hgm x hx
    rw [l4o x.f0 h2 (notm h3)]
    exact look_of_mem hg.rd h1)
  have zn : look (stepsF d4 (g.map dropC)) (fn num) = some (fileC num q) := by rw [q4 _ (fun x hx => (hgm x hx).2.1), l4n]
  have zm : look (stepsF d4 (g.map dropC)) mN = some (fileM (ns ++ [num])) := by rw [q4 _ (fun x hx => notm (hgm x hx).2.2), l4m]
  have zo : ∀ x ∈ stepsF d4 (g.map dropC), x.f0 = fn num ∨ x.f0 = mN := by
    intro x hx
    have hl := look_of_mem q2 hx
    by_cases c1 : key x = (fn num).toList
    · exact .inl (toList_inj c1)
    by_cases c2 : key x = mN.toList
    · exact .inr (toList_inj c2)
    exfalso
    by_cases c3 : ∃ w ∈ g, key w = key x
    · obtain ⟨w, hw, e⟩ := c3
      have := q5 w hw
      rw [toList_inj e, hl] at this
      cases this
    · have h1 := q4 x.f0 (fun w hw e => c3 ⟨w, hw, e⟩)
      rw [hl, l4o x.f0 c1 c2] at h1
      have hxy := (look_some hg.rd h1.symm).2.2.1
      rcases hnp x.f0 (by rw [← h1]; simp) with h2 | h2
      · exact c2 (congrArg _ h2)
      · exact c3 ⟨x, List.mem_filter.2 ⟨hxy, by simp [c1, h2]⟩, rfl⟩
  refine ⟨hsave, ?_, ?_⟩
  · unfold chg
    rw [hfb, AllOk_append, AllOk_append, stepsF_append]
    refine ⟨⟨o1, hcore.1⟩, ?_⟩
    rw [hcore.2]
    exact q1
  · unfold chg
    rw [hfb, stepsF_append, stepsF_append, hcore.2]
    exact two_list q2 zn zm zo
/-! Checkpoints that were kept whole. -/
abbrev nsn (n : Nat) : List Nat := List.range' 1 n
theorem nsn_succ (n : Nat) : nsn (n + 1) = nsn n ++ [n + 1] := by
  rw [nsn, List.range'_1_concat, Nat.add_comm 1 n]
theorem nsn_last (n : Nat) : lastN 0 (nsn n) = n := by
  cases n with
  | zero => rfl
  | succ n => rw [nsn_succ, lastN_snoc]
theorem nsn_up : ∀ n : Nat, n ≤ 1000 → Up 0 (nsn n)
  | 0, _ => trivial
  | n + 1, h => by
    rw [nsn_succ]
    exact Up_snoc (nsn_up n (by omega)) (by rw [nsn_last]; omega) (by omega)
theorem nsn_len (n : Nat) : (nsn n).length = n := List.length_range'
def stL (n : Nat) (p : List Int) : List S70 := if n = 0 then [] else [fileC n p, fileM (nsn n)]
theorem stL_look {n : Nat} {p : List Int} (h : 1 ≤ n) : look (stL n p) (fn n) = some (fileC n p) ∧ look (stL n p) mN = some (fileM (nsn n)) ∧ ∀ m : ByteArray, m.toList ≠ (fn n).toList → m.toList ≠ mN.toList → look (stL n p) m = none := by
  have hne : ¬ n = 0 := by omega
  unfold stL
  rw [if_neg hne]
  have k1 : key (fileC n p) = (fn n).toList := rfl
  have k2 : key (fileM (nsn n)) = mN.toList := rfl
  have e : ∀ m : List UInt8, mi m [fileC n p, fileM (nsn n)] = (if (fn n).toList == m then [fileC n p] else []) ++ (if mN.toList == m then [fileM (nsn n)] else []) := fun m => by
    show List.filter _ _ = _
    rw [List.filter_cons, List.filter_cons, List.filter_nil, k1, k2]
    split <;> split <;> rfl
  have h1 : ((fn n).toList == (fn n).toList) = true := by simp
  have h2 : (mN.toList == (fn n).toList) = false := by simpa using (fn_ne_m n).symm
  have h3 : ((fn n).toList == mN.toList) = false := by simpa using fn_ne_m n
  have h4 : (mN.toList == mN.toList) = true := by simp
  refine ⟨?_, ?_, fun m a b => ?_⟩
  · unfold look; rw [e, h1, h2]; rfl
  · unfold look; rw [e, h3, h4]; rfl
  · have h5 : ((fn n).toList == m.toList) = false := by simpa using a.symm
    have h6 : (mN.toList == m.toList) = false := by simpa using b.symm
    unfold look; rw [e, h5, h6]; rfl
theorem stL_Gd {n : Nat} (hn : n ≤ 1000) {p : List Int} (hp : Bytes p) (hl : p.length ≤ 4000) : Gd (stL n p) (nsn n) ∧ NP (stL n p) ∧ (stL n p).length ≤ 2 ∧ (∀ m, look (stL n p) mN = some m → Sf m) := by
  by_cases c : n = 0
  · subst c
    have e : ∀ m : ByteArray, look (stL 0 p) m = none := fun m => rfl
    refine ⟨⟨RD_nil, (fun x hx => by cases hx), trivial, ?_⟩, fun m hm => absurd (e m) hm, by simp [stL], fun m hm => by rw [e] at hm; cases hm⟩
    rw [getB_none (e mN)]
    rfl
  · obtain ⟨a, b, d⟩ := stL_look (p := p) (show 1 ≤ n by omega)
    have el : stL n p = [fileC n p, fileM (nsn n)] := by unfold stL; rw [if_neg c]
    have hfl := frameS_le hl
    have hWl := W_len (nsn n)
    rw [nsn_len] at hWl
    refine ⟨⟨?_, ?_, nsn_up n hn, getB_some b⟩, fun m hm => ?_, by rw [el]; simp, fun m hm => by rw [b] at hm; rw [← Option.some.inj hm]; exact sfM _⟩
    · rw [el]
      refine ⟨by simp, ?_, fun x hx => ?_⟩
      · simp only [Srt, List.pairwise_cons, List.mem_singleton, forall_eq, List.not_mem_nil, false_imp_iff, implies_true, List.Pairwise.nil, and_true]
        exact fn_bl_m n
      · simp only [List.mem_cons, List.not_mem_nil, or_false] at hx
        rcases hx with rfl | rfl
        · exact ⟨fn_Nm n, by show (frameS p).length ≤ 20000; omega, by show (0 : Int) ≤ ((frameS p).length : Int); omega, Int.le_refl _⟩
        · exact ⟨mN_Nm, by show (W (nsn n)).length ≤ 20000; omega, by show (0 : Int) ≤ ((W (nsn n)).length : Int); omega, Int.le_refl _⟩
    · rw [el]
      intro x hx
      simp only [List.mem_cons, List.not_mem_nil, or_false] at hx
      rcases hx with rfl | rfl
      · exact frameS_bytes hp
      · exact W_bytes _
    · by_cases c1 : m.toList = (fn n).toList
      · rw [toList_inj c1]; exact .inr (fn_isC n)
      · by_cases c2 : m.toList = mN.toList
        · exact .inl (toList_inj c2)
        · exact absurd (d m c1 c2) hm
theorem stL_last {n : Nat} (hn : n ≤ 1000) {p : List Int} (hp : Bytes p) (hl : p.length ≤ 4000) : lastS (stL n p) = if n = 0 then (0, [], 4) else ((n : Int), p, 0) := by
  obtain ⟨hg, _, _⟩ := stL_Gd hn hp hl
  by_cases c : n = 0
  · subst c
    rw [if_pos rfl]
    exact hg.last_none
  · obtain ⟨a, _, _⟩ := stL_look (p := p) (show 1 ≤ n by omega)
    rw [if_neg c]
    have := hg.last_some (p := p) (by intro e; have := congrArg List.length e; rw [nsn_len] at this; simp at this; omega) hp hl (by rw [nsn_last, getB_some a]; rfl)
    rw [nsn_last] at this
    exact this
theorem stL_next {n : Nat} (hn : n ≤ 900) {p q : List Int} (hp : Bytes p) (hl : p.length ≤ 4000) (hq : Bytes q) (hql : q.length ≤ 4000) (hn2 : n ≤ 490) :
    saveS (stL n p) ((n : Int) + 1) q = (chg (stL n p) ((n : Int) + 1) q, 0) ∧ AllOk (stL n p) (chg (stL n p) ((n : Int) + 1) q) ∧ stepsF (stL n p) (chg (stL n p) ((n : Int) + 1) q) = stL (n + 1) q := by
  obtain ⟨hg, hnp, hlen, _⟩ := stL_Gd (show n ≤ 1000 by omega) hp hl
  have e : (n : Int) + 1 = ((n + 1 : Nat) : Int) := by omega
  obtain ⟨h1, h2, h3⟩ := full hg hnp (by omega) (by rw [nsn_len]; omega) (num := n + 1) (by rw [nsn_last]; omega) (by omega) hq hql
  rw [e]
  refine ⟨h1, h2, ?_⟩
  rw [h3, ← nsn_succ]
  unfold stL
  rw [if_neg (by omega)]
end Go.Proofs.Ytkcpbehgjbionaa.Pure
