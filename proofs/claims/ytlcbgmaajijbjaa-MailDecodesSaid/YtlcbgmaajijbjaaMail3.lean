/- Mails, in plain Lean: how numbers are read, and when two mails are the same. -/
import Derived.Test.YtlcbgmaajijbjaaMail2
set_option linter.unusedVariables false
set_option linter.unusedSimpArgs false
namespace Go.Proofs.Ytlcbgmaajijbjaa.Pure
open Go Go.RowKit Go.Hw Go.Proofs.Ytlcbgmaajijbjaa.G
theorem dec_eq {α : Type} [DecidableEq α] {x y : α} {xs ys : List α} (h : x = y) : decide (x :: xs = y :: ys) = decide (xs = ys) := by
  subst h
  apply decide_eq_decide.2
  exact ⟨fun e => (List.cons.inj e).2, fun e => by rw [e]⟩
theorem dec_ne {α : Type} [DecidableEq α] {x y : α} {xs ys : List α} (h : ¬ x = y) : decide (x :: xs = y :: ys) = false := decide_eq_false (fun e => h (List.cons.inj e).1)
theorem cmp_ints (K : Nat) (a b : List Int) (hab : a.length = b.length) (hl : a.length ≤ 1000000) : ∀ (k i : Nat), i ≤ a.length → a.length < k + i → haywainref09_SameInts.l2 K a b k (i : Int) = some (decide (a.drop i = b.drop i)) := by
  intro k
  induction k with
  | zero => intro i h1 h2; omega
  | succ k ih =>
    intro i h1 h2
    rw [haywainref09_SameInts.l2]
    by_cases hi : i < a.length
    · have hb : i < b.length := by omega
      have hx : a[i]? = some a[i] := List.getElem?_eq_getElem hi
      have hy : b[i]? = some b[i] := List.getElem?_eq_getElem hb
      have hlt : ((i : Int) < (a.length : Int)) := by omega
      simp only [condD, condN, if_pos hlt, idxN, hx, hy, Option.bind_some, step1 (show i < 1000000000 by omega), ih (i + 1) hi (by omega)]
      rw [List.drop_eq_getElem_cons hi, List.drop_eq_getElem_cons hb]
      by_cases h : a[i] = b[i]
      · rw [if_pos h, dec_eq h]
      · rw [if_neg h, dec_ne h]
    · have hlt : ¬ ((i : Int) < (a.length : Int)) := by omega
      simp only [condD, if_neg hlt, List.drop_eq_nil_of_le (show a.length ≤ i by omega), List.drop_eq_nil_of_le (show b.length ≤ i by omega), decide_true]
theorem cmp_vals (K : Nat) (a b : List Int) (hab : a.length = b.length) (hl : a.length ≤ 1000000) : ∀ (k i : Nat), i ≤ a.length → a.length < k + i → haywainref06_SameVals.l2 K a b k (i : Int) = some (decide (a.drop i = b.drop i)) := by
  intro k
  induction k with
  | zero => intro i h1 h2; omega
  | succ k ih =>
    intro i h1 h2
    rw [haywainref06_SameVals.l2]
    by_cases hi : i < a.length
    · have hb : i < b.length := by omega
      have hx : a[i]? = some a[i] := List.getElem?_eq_getElem hi
      have hy : b[i]? = some b[i] := List.getElem?_eq_getElem hb
      have hlt : ((i : Int) < (a.length : Int)) := by omega
      simp only [condD, condN, if_pos hlt, idxN, hx, hy, Option.bind_some, step1 (show i < 1000000000 by omega), ih (i + 1) hi (by omega)]
      rw [List.drop_eq_getElem_cons hi, List.drop_eq_getElem_cons hb]
      by_cases h : a[i] = b[i]
      · rw [if_pos h, dec_eq h]
      · rw [if_neg h, dec_ne h]
    · have hlt : ¬ ((i : Int) < (a.length : Int)) := by omega
      simp only [condD, if_neg hlt, List.drop_eq_nil_of_le (show a.length ≤ i by omega), List.drop_eq_nil_of_le (show b.length ≤ i by omega), decide_true]
theorem cmp_rest (K : Nat) (a b : List Bool) (hab : a.length = b.length) (hl : a.length ≤ 1000000) : ∀ (k i : Nat), i ≤ a.length → a.length < k + i → haywainref06_SameRest.l2 K a b k (i : Int) = some (decide (a.drop i = b.drop i)) := by
  intro k
  induction k with
  | zero => intro i h1 h2; omega
  | succ k ih =>
    intro i h1 h2
    rw [haywainref06_SameRest.l2]
    by_cases hi : i < a.length
    · have hb : i < b.length := by omega
      have hx : a[i]? = some a[i] := List.getElem?_eq_getElem hi
      have hy : b[i]? = some b[i] := List.getElem?_eq_getElem hb
      have hlt : ((i : Int) < (a.length : Int)) := by omega
      simp only [condD, if_pos hlt, idxN, hx, hy, Option.bind_some, step1 (show i < 1000000000 by omega), ih (i + 1) hi (by omega)]
      rw [List.drop_eq_getElem_cons hi, List.drop_eq_getElem_cons hb]
      by_cases h : a[i] = b[i]
      · have : (a[i] == b[i]) = true := by simpa using h
        rw [this, dec_eq h]; rfl
      · have : (a[i] == b[i]) = false := by simpa using h
        rw [this, dec_ne h]; rfl
    · have hlt : ¬ ((i : Int) < (a.length : Int)) := by omega
      simp only [condD, if_neg hlt, List.drop_eq_nil_of_le (show a.length ≤ i by omega), List.drop_eq_nil_of_le (show b.length ≤ i by omega), decide_true]
theorem msg_eq {x y : S77} : x = y ↔ x.f0 = y.f0 ∧ x.f1 = y.f1 := by
  cases x; cases y
  simp
noncomputable instance : DecidableEq S77 := fun a b => Classical.propDecidable _
theorem cmp_msgs (K : Nat) (a b : List S77) (hab : a.length = b.length) (hl : a.length ≤ 1000000) : ∀ (k i : Nat), i ≤ a.length → a.length < k + i → haywainref04_SameMsgs.l2 K a b k (i : Int) = some (decide (a.drop i = b.drop i)) := by
  intro k
  induction k with
  | zero => intro i h1 h2; omega
  | succ k ih =>
    intro i h1 h2
    rw [haywainref04_SameMsgs.l2]
    by_cases hi : i < a.length
    · have hb : i < b.length := by omega
      have hx : a[i]? = some a[i] := List.getElem?_eq_getElem hi
      have hy : b[i]? = some b[i] := List.getElem?_eq_getElem hb
      have hlt : ((i : Int) < (a.length : Int)) := by omega
      simp only [condD, if_pos hlt, idxN, hx, hy, Option.bind_some, step1 (show i < 1000000000 by omega), ih (i + 1) hi (by omega)]
      rw [List.drop_eq_getElem_cons hi, List.drop_eq_getElem_cons hb]
      by_cases h : a[i] = b[i]
      · have : (a[i].f0 == b[i].f0 && (a[i].f1 == b[i].f1 && true)) = true := by rw [h]; simp
        rw [this, dec_eq h]; rfl
      · have : (a[i].f0 == b[i].f0 && (a[i].f1 == b[i].f1 && true)) = false := by
          rw [Bool.and_true, Bool.and_eq_false_iff]
          by_cases h0 : a[i].f0 = b[i].f0
          · right
            have h1 : a[i].f1 ≠ b[i].f1 := fun h1 => h (msg_eq.2 ⟨h0, h1⟩)
            simpa using h1
          · left
            simpa using h0
        rw [this, dec_ne h]; rfl
    · have hlt : ¬ ((i : Int) < (a.length : Int)) := by omega
      simp only [condD, if_neg hlt, List.drop_eq_nil_of_le (show a.length ≤ i by omega), List.drop_eq_nil_of_le (show b.length ≤ i by omega), decide_true]
section
variable {K : Nat} (hK : 2000 ≤ K)
include hK
theorem sints_f {a b : List Int} (hl : a.length ≤ 1000) : haywainref09_SameInts.f K a b = some (decide (a = b)) := by
  rw [haywainref09_SameInts.f, condN]
  by_cases h : (a.length : Int) = (b.length : Int)
  · have := cmp_ints K a b (by omega) (by omega) K 0 (by omega) (by omega)
    rw [if_pos h, show (0 : Int) = ((0 : Nat) : Int) from rfl, this]
    rfl
  · have : ¬ a = b := fun e => h (by rw [e])
    rw [if_neg h, decide_eq_false this]
theorem svals_f {a b : List Int} (hl : a.length ≤ 1000) : haywainref06_SameVals.f K a b = some (decide (a = b)) := by
  rw [haywainref06_SameVals.f, condN]
  by_cases h : (a.length : Int) = (b.length : Int)
  · have := cmp_vals K a b (by omega) (by omega) K 0 (by omega) (by omega)
    rw [if_pos h, show (0 : Int) = ((0 : Nat) : Int) from rfl, this]
    rfl
  · have : ¬ a = b := fun e => h (by rw [e])
    rw [if_neg h, decide_eq_false this]
theorem srest_f {a b : List Bool} (hl : a.length ≤ 1000) : haywainref06_SameRest.f K a b = some (decide (a = b)) := by
  rw [haywainref06_SameRest.f, condN]
  by_cases h : (a.length : Int) = (b.length : Int)
  · have := cmp_rest K a b (by omega) (by omega) K 0 (by omega) (by omega)
    rw [if_pos h, show (0 : Int) = ((0 : Nat) : Int) from rfl, this]
    rfl
  · have : ¬ a = b := fun e => h (by rw [e])
    rw [if_neg h, decide_eq_false this]
theorem smsgs_f {a b : List S77} (hl : a.length ≤ 1000) : haywainref04_SameMsgs.f K a b = some (decide (a = b)) := by
  rw [haywainref04_SameMsgs.f, condN]
  by_cases h : (a.length : Int) = (b.length : Int)
  · have := cmp_msgs K a b (by omega) (by omega) K 0 (by omega) (by omega)
    rw [if_pos h, show (0 : Int) = ((0 : Nat) : Int) from rfl, this]
    rfl
  · have : ¬ a = b := fun e => h (by rw [e])
    rw [if_neg h, decide_eq_false this]
noncomputable instance : DecidableEq S27 := fun a b => Classical.propDecidable _
noncomputable instance : DecidableEq S34 := fun a b => Classical.propDecidable _
theorem spart_f {a b : S27} (h2 : a.f2.length ≤ 1000) (h3 : a.f3.length ≤ 1000) (h4 : a.f4.length ≤ 1000) : haywainref07_Same.f K a b = some (decide (a = b)) := by
  rw [haywainref07_Same.f, svals_f hK h2, srest_f hK h3, smsgs_f hK h4]
  simp only [Option.bind_some, condB]
  by_cases e : a = b
  · subst e; simp
  · rw [decide_eq_false e]
    by_cases c0 : a.f0 = b.f0
    · by_cases c1 : a.f1 = b.f1
      · rw [if_pos c0, if_pos c1]
        by_cases c2 : a.f2 = b.f2
        · by_cases c3 : a.f3 = b.f3
          · by_cases c4 : a.f4 = b.f4
            · exact absurd (by cases a; cases b; simp_all) e
            · rw [decide_eq_true c2, decide_eq_true c3, decide_eq_false c4]; rfl
          · rw [decide_eq_true c2, decide_eq_false c3]; rfl
        · rw [decide_eq_false c2]; rfl
      · rw [if_pos c0, if_neg c1]
    · rw [if_neg c0]
theorem same_f {a b : S34} (hm : Few (unM a)) : haywainref15_Same.f K a b = some (decide (a = b)) := by
  rw [haywainref15_Same.f, sints_f hK (show a.f8.length ≤ 1000 from hm.a), sints_f hK (show a.f9.length ≤ 1000 from hm.b), sints_f hK (show a.f10.length ≤ 1000 from hm.c), spart_f hK (show a.f11.f2.length ≤ 1000 from hm.d) (show a.f11.f3.length ≤ 1000 from hm.e) (show a.f11.f4.length ≤ 1000 from hm.f), smsgs_f hK (show a.f12.length ≤ 1000 from hm.g)]
  simp only [Option.bind_some, condB]
  by_cases e : a = b
  · subst e; simp
  · rw [decide_eq_false e]
    by_cases c : a.f0 = b.f0 ∧ a.f1 = b.f1 ∧ a.f2 = b.f2 ∧ a.f3 = b.f3 ∧ a.f4 = b.f4 ∧ a.f5 = b.f5 ∧ a.f6 = b.f6 ∧ a.f7 = b.f7
    · obtain ⟨c0, c1, c2, c3, c4, c5, c6, c7⟩ := c
      rw [if_pos c0, if_pos c1, if_pos c2, if_pos c3, if_pos c4, if_pos c5, if_pos c6, if_pos c7]
      by_cases d0 : a.f8 = b.f8
      · by_cases d1 : a.f9 = b.f9
        · by_cases d2 : a.f10 = b.f10
          · by_cases d3 : a.f11 = b.f11
            · by_cases d4 : a.f12 = b.f12
              · exact absurd (by cases a; cases b; simp_all) e
              · rw [decide_eq_true d0, decide_eq_true d1, decide_eq_true d2, decide_eq_true d3, decide_eq_false d4]; rfl
            · rw [decide_eq_true d0, decide_eq_true d1, decide_eq_true d2, decide_eq_false d3]; rfl
          · rw [decide_eq_true d0, decide_eq_true d1, decide_eq_false d2]; rfl
        · rw [decide_eq_true d0, decide_eq_false d1]; rfl
      · rw [decide_eq_false d0]; rfl
    · by_cases c0 : a.f0 = b.f0
      · by_cases c1 : a.f1 = b.f1
        · by_cases c2 : a.f2 = b.f2
          · by_cases c3 : a.f3 = b.f3
            · by_cases c4 : a.f4 = b.f4
              · by_cases c5 : a.f5 = b.f5
                · by_cases c6 : a.f6 = b.f6
                  · by_cases c7 : a.f7 = b.f7
                    · exact absurd ⟨c0, c1, c2, c3, c4, c5, c6, c7⟩ c
                    · rw [if_pos c0, if_pos c1, if_pos c2, if_pos c3, if_pos c4, if_pos c5, if_pos c6, if_neg c7]
                  · rw [if_pos c0, if_pos c1, if_pos c2, if_pos c3, if_pos c4, if_pos c5, if_neg c6]
                · rw [if_pos c0, if_pos c1, if_pos c2, if_pos c3, if_pos c4, if_neg c5]
              · rw [if_pos c0, if_pos c1, if_pos c2, if_pos c3, if_neg c4]
            · rw [if_pos c0, if_pos c1, if_pos c2, if_neg c3]
          · rw [if_pos c0, if_pos c1, if_neg c2]
        · rw [if_pos c0, if_neg c1]
      · rw [if_neg c0]
end
/-! How numbers are read. -/
def nm (b : Int) : List Int → Option (Int × List Int)
  | [] => none
  | x :: r => if 0 ≤ x ∧ x ≤ b then some (x, r) else none
def an : List Int → Option (Int × List Int)
  | [] => none
  | x :: r => some (x, r)
def rp {α : Type} (p : List Int → Option (α × List Int)) : Nat → List Int → Option (List α × List Int)
  | 0, l => some ([], l)
  | n + 1, l => (p l).bind fun y => (rp p n y.2).bind fun z => some (y.1 :: z.1, z.2)
def mg (l : List Int) : Option (S77 × List Int) := (nm 1099511627776 l).bind fun y => (an y.2).bind fun z => some (⟨y.1, z.1⟩, z.2)
def mgs (l : List Int) : Option (List S77 × List Int) := (nm 24 l).bind fun y => rp mg y.1.toNat y.2
def bt (l : List Int) : Option (Bool × List Int) := (nm 1 l).bind fun y => some (y.1 == 1, y.2)
def mkM (h os is js : List Int) (p s : Int) (vs : List Int) (bs : List Bool) (ins ou : List S77) : S29 :=
  ⟨h.getD 0 0, h.getD 1 0, h.getD 2 0, h.getD 3 0, h.getD 4 0, h.getD 5 0, h.getD 6 0, h.getD 7 0, os, is, js, ⟨p, s, vs, bs, ins⟩, ou⟩
def D (l : List Int) : Option (S29 × List Int) :=
  (rp (nm 1099511627776) 8 l).bind fun h => (nm 6 h.2).bind fun o => (rp (nm 1099511627776) o.1.toNat o.2).bind fun os => (nm 5 os.2).bind fun i => (rp (nm 1099511627776) i.1.toNat i.2).bind fun is => (rp (nm 1099511627776) i.1.toNat is.2).bind fun js =>
  (nm 1099511627776 js.2).bind fun p => (nm 1099511627776 p.2).bind fun s => (nm 24 s.2).bind fun n => (rp an n.1.toNat n.2).bind fun vs => (rp bt n.1.toNat vs.2).bind fun bs => (mgs bs.2).bind fun ins => (mgs ins.2).bind fun ou =>
  some (mkM h.1 os.1 is.1 js.1 p.1 s.1 vs.1 bs.1 ins.1 ou.1, ou.2)
/-- A way to read, and the numbers that are read by it. -/
def Inv {α : Type} (p : List Int → Option (α × List Int)) (e : α → List Int) (G : α → Prop) : Prop := ∀ l a r, p l = some (a, r) ↔ G a ∧ l = e a ++ r
theorem nm_inv (b : Int) : Inv (nm b) (fun x => [x]) (fun x => 0 ≤ x ∧ x ≤ b) := by
  intro l a r
  cases l with
  | nil => simp [nm]
  | cons x l =>
    simp only [nm, List.singleton_append, List.cons.injEq]
    by_cases h : 0 ≤ x ∧ x ≤ b
    · rw [if_pos h]
      simp only [Option.some.injEq, Prod.mk.injEq]
      constructor
      · rintro ⟨rfl, rfl⟩; exact ⟨h, rfl, rfl⟩
      · rintro ⟨_, rfl, rfl⟩; exact ⟨rfl, rfl⟩
    · rw [if_neg h]
      constructor
      · intro e; cases e
      · rintro ⟨k, rfl, rfl⟩; exact absurd k h
theorem an_inv : Inv an (fun x => [x]) (fun _ => True) := by
  intro l a r
  cases l with
  | nil => simp [an]
  | cons x l =>
    simp only [an, List.singleton_append, List.cons.injEq, Option.some.injEq, Prod.mk.injEq, true_and]
theorem rp_inv {α : Type} {p : List Int → Option (α × List Int)} {e : α → List Int} {G : α → Prop} (hp : Inv p e G) : ∀ n, Inv (rp p n) (fun xs => xs.flatMap e) (fun xs => (∀ x ∈ xs, G x) ∧ xs.length = n)
  | 0, l, a, r => by
    simp only [rp, Option.some.injEq, Prod.mk.injEq]
    constructor
    · rintro ⟨rfl, rfl⟩; simp
    · rintro ⟨⟨_, h⟩, rfl⟩
      have := List.eq_nil_of_length_eq_zero h
      subst this
      simp
  | n + 1, l, a, r => by
    simp only [rp]
    constructor
    · intro h
      obtain ⟨⟨x, l1⟩, h1, h⟩ := Option.bind_eq_some_iff.1 h
      obtain ⟨⟨xs, l2⟩, h2, h⟩ := Option.bind_eq_some_iff.1 h
      simp only [Option.some.injEq, Prod.mk.injEq] at h
      obtain ⟨rfl, rfl⟩ := h
      obtain ⟨g1, rfl⟩ := (hp _ _ _).1 h1
      obtain ⟨⟨g2, g3⟩, e2⟩ := (rp_inv hp n _ _ _).1 h2
      simp only at e2
      refine ⟨⟨fun y hy => ?_, by simp [g3]⟩, ?_⟩
      · rcases List.mem_cons.1 hy with rfl | hy
        · exact g1
        · exact g2 y hy
      · rw [e2, List.flatMap_cons, List.append_assoc]
    · rintro ⟨⟨g, gl⟩, rfl⟩
      cases a with
      | nil => simp at gl
      | cons x xs =>
        simp only [List.flatMap_cons, List.append_assoc]
        rw [(hp _ x _).2 ⟨g x List.mem_cons_self, rfl⟩, Option.bind_some, (rp_inv hp n _ xs r).2 ⟨⟨fun y hy => g y (List.mem_cons_of_mem _ hy), by simpa using gl⟩, rfl⟩, Option.bind_some]
theorem flat1 : ∀ xs : List Int, xs.flatMap (fun x => [x]) = xs
  | [] => rfl
  | x :: xs => by rw [List.flatMap_cons, flat1 xs]; rfl
theorem rpn (n : Nat) : Inv (rp (nm 1099511627776) n) id (fun xs => Al xs ∧ xs.length = n) := by
  intro l a r
  refine (rp_inv (nm_inv _) n l a r).trans ?_
  show ((∀ x ∈ a, Nn x) ∧ a.length = n) ∧ l = a.flatMap (fun x => [x]) ++ r ↔ (Al a ∧ a.length = n) ∧ l = a ++ r
  rw [flat1]
  exact Iff.rfl
theorem rpa (n : Nat) : Inv (rp an n) id (fun xs => xs.length = n) := by
  intro l a r
  refine (rp_inv an_inv n l a r).trans ?_
  show ((∀ x ∈ a, True) ∧ a.length = n) ∧ l = a.flatMap (fun x => [x]) ++ r ↔ a.length = n ∧ l = a ++ r
  rw [flat1]
  simp
theorem mg_inv : Inv mg (fun x => [x.f0, x.f1]) (fun x => Nn x.f0) := by
  intro l a r
  simp only [mg]
  constructor
  · intro h
    obtain ⟨⟨x, l1⟩, h1, h⟩ := Option.bind_eq_some_iff.1 h
    obtain ⟨⟨y, l2⟩, h2, h⟩ := Option.bind_eq_some_iff.1 h
    simp only [Option.some.injEq, Prod.mk.injEq] at h
    obtain ⟨rfl, rfl⟩ := h
    obtain ⟨g1, rfl⟩ := (nm_inv _ _ _ _).1 h1
    obtain ⟨_, e2⟩ := (an_inv _ _ _).1 h2
    simp only at e2
    exact ⟨g1, by rw [e2]; rfl⟩
  · rintro ⟨g, rfl⟩
    rw [show [a.f0, a.f1] ++ r = [a.f0] ++ ([a.f1] ++ r) from rfl, (nm_inv _ _ a.f0 _).2 ⟨g, rfl⟩, Option.bind_some, (an_inv _ a.f1 r).2 ⟨trivial, rfl⟩, Option.bind_some]
theorem bt_inv : Inv bt (fun b => [b2i b]) (fun _ => True) := by
  intro l a r
  simp only [bt]
  constructor
  · intro h
    obtain ⟨⟨x, l1⟩, h1, h⟩ := Option.bind_eq_some_iff.1 h
    simp only [Option.some.injEq, Prod.mk.injEq] at h
    obtain ⟨rfl, rfl⟩ := h
    obtain ⟨g1, rfl⟩ := (nm_inv _ _ _ _).1 h1
    refine ⟨trivial, ?_⟩
    have : x = 0 ∨ x = 1 := by omega
    rcases this with rfl | rfl <;> rfl
  · rintro ⟨_, rfl⟩
    have hb : 0 ≤ b2i a ∧ b2i a ≤ 1 := by cases a <;> simp [b2i]
    rw [(nm_inv _ _ (b2i a) _).2 ⟨hb, rfl⟩, Option.bind_some]
    cases a <;> rfl
theorem rpb (n : Nat) : Inv (rp bt n) (fun xs => xs.map b2i) (fun xs => xs.length = n) := by
  intro l a r
  rw [rp_inv bt_inv n l a r]
  have : ∀ xs : List Bool, xs.flatMap (fun b => [b2i b]) = xs.map b2i := fun xs => by
    induction xs with
    | nil => rfl
    | cons x xs ih => rw [List.flatMap_cons, ih]; rfl
  simp only [this]
  simp
theorem mgs_inv : Inv mgs mn (fun xs => Ml xs ∧ xs.length ≤ 24) := by
  intro l a r
  simp only [mgs]
  constructor
  · intro h
    obtain ⟨⟨x, l1⟩, h1, h2⟩ := Option.bind_eq_some_iff.1 h
    obtain ⟨g1, e1⟩ := (nm_inv _ _ _ _).1 h1
    obtain ⟨⟨g2, g3⟩, e2⟩ := (rp_inv mg_inv _ _ _ _).1 h2
    simp only at e2 g3
    refine ⟨⟨g2, by omega⟩, ?_⟩
    rw [e1, mn, mf, e2, g3]
    have : ((x.toNat : Nat) : Int) = x := by omega
    rw [this]
    rfl
  · rintro ⟨⟨g, gl⟩, rfl⟩
    have : mn a ++ r = [(a.length : Int)] ++ (mf a ++ r) := rfl
    rw [this, (nm_inv _ _ (a.length : Int) _).2 ⟨⟨by omega, by omega⟩, rfl⟩, Option.bind_some]
    exact (rp_inv mg_inv _ _ a r).2 ⟨⟨g, by simp⟩, rfl⟩
/-- Right, whatever its kind. -/
def GD (m : S29) : Prop := Nn m.f0 ∧ Al [m.f1, m.f2, m.f3, m.f4, m.f5, m.f6, m.f7, m.f11.f0, m.f11.f1] ∧ (Al m.f8 ∧ m.f8.length ≤ 6) ∧ (Al m.f9 ∧ m.f9.length ≤ 5) ∧ Al m.f10 ∧ m.f10.length = m.f9.length ∧ m.f11.f2.length ≤ 24 ∧ m.f11.f3.length = m.f11.f2.length ∧ (Ml m.f11.f4 ∧ m.f11.f4.length ≤ 24) ∧ (Ml m.f12 ∧ m.f12.length ≤ 24)
theorem RR_GD {m : S29} (h : RR m) : GD m := ⟨⟨by have := h.1.1; omega, by have := h.1.2; omega⟩, h.2⟩
theorem list8 {l : List Int} (h : l.length = 8) : ∃ a0 a1 a2 a3 a4 a5 a6 a7, l = [a0, a1, a2, a3, a4, a5, a6, a7] := by
  have step : ∀ {n : Nat} {l : List Int}, l.length = n + 1 → ∃ a t, l = a :: t ∧ t.length = n := fun {n l} h => by
    cases l with
    | nil => simp at h
    | cons a t => exact ⟨a, t, rfl, by simpa using h⟩
  obtain ⟨a0, t0, rfl, h0⟩ := step h
  obtain ⟨a1, t1, rfl, h1⟩ := step h0
  obtain ⟨a2, t2, rfl, h2⟩ := step h1
  obtain ⟨a3, t3, rfl, h3⟩ := step h2
  obtain ⟨a4, t4, rfl, h4⟩ := step h3
  obtain ⟨a5, t5, rfl, h5⟩ := step h4
  obtain ⟨a6, t6, rfl, h6⟩ := step h5
  obtain ⟨a7, t7, rfl, h7⟩ := step h6
  have := List.eq_nil_of_length_eq_zero h7
  subst this
  exact ⟨a0, a1, a2, a3, a4, a5, a6, a7, rfl⟩
theorem D_fwd {l : List Int} {m : S29} {r : List Int} (h : D l = some (m, r)) : GD m ∧ l = nums m ++ r := by
  unfold D at h
  obtain ⟨⟨h8, l1⟩, h1, h⟩ := Option.bind_eq_some_iff.1 h
  obtain ⟨⟨o, l2⟩, h2, h⟩ := Option.bind_eq_some_iff.1 h
  obtain ⟨⟨os, l3⟩, h3, h⟩ := Option.bind_eq_some_iff.1 h
  obtain ⟨⟨i, l4⟩, h4, h⟩ := Option.bind_eq_some_iff.1 h
  obtain ⟨⟨is, l5⟩, h5, h⟩ := Option.bind_eq_some_iff.1 h
  obtain ⟨⟨js, l6⟩, h6, h⟩ := Option.bind_eq_some_iff.1 h
  obtain ⟨⟨p, l7⟩, h7, h⟩ := Option.bind_eq_some_iff.1 h
  obtain ⟨⟨s, l8⟩, h9, h⟩ := Option.bind_eq_some_iff.1 h
  obtain ⟨⟨n, l9⟩, h10, h⟩ := Option.bind_eq_some_iff.1 h
  obtain ⟨⟨vs, l10⟩, h11, h⟩ := Option.bind_eq_some_iff.1 h
  obtain ⟨⟨bs, l11⟩, h12, h⟩ := Option.bind_eq_some_iff.1 h
  obtain ⟨⟨ins, l12⟩, h13, h⟩ := Option.bind_eq_some_iff.1 h
  obtain ⟨⟨ou, l13⟩, h14, h⟩ := Option.bind_eq_some_iff.1 h
  simp only [Option.some.injEq, Prod.mk.injEq] at h
  obtain ⟨rfl, rfl⟩ := h
  obtain ⟨⟨g1, k1⟩, e1⟩ := (rpn _ _ _ _).1 h1
  obtain ⟨g2, e2⟩ := (nm_inv _ _ _ _).1 h2
  obtain ⟨⟨g3, k3⟩, e3⟩ := (rpn _ _ _ _).1 h3
  obtain ⟨g4, e4⟩ := (nm_inv _ _ _ _).1 h4
  obtain ⟨⟨g5, k5⟩, e5⟩ := (rpn _ _ _ _).1 h5
  obtain ⟨⟨g6, k6⟩, e6⟩ := (rpn _ _ _ _).1 h6
  obtain ⟨g7, e7⟩ := (nm_inv _ _ _ _).1 h7
  obtain ⟨g9, e9⟩ := (nm_inv _ _ _ _).1 h9
  obtain ⟨g10, e10⟩ := (nm_inv _ _ _ _).1 h10
  obtain ⟨k11, e11⟩ := (rpa _ _ _ _).1 h11
  obtain ⟨k12, e12⟩ := (rpb _ _ _ _).1 h12
  obtain ⟨⟨g13, k13⟩, e13⟩ := (mgs_inv _ _ _).1 h13
  obtain ⟨⟨g14, k14⟩, e14⟩ := (mgs_inv _ _ _).1 h14
  simp only [id] at e1 e2 e3 e4 e5 e6 e7 e9 e10 e11 e12 e13 e14 k3 k5 k6 k11 k12
  obtain ⟨a0, a1, a2, a3, a4, a5, a6, a7, rfl⟩ := list8 k1
  have o1 : o = (os.length : Int) := by omega
  have i1 : i = (is.length : Int) := by omega
  have n1 : n = (vs.length : Int) := by omega
  refine ⟨⟨g1 a0 (by simp), fun x hx => ?_, ⟨g3, by show os.length ≤ 6; omega⟩, ⟨g5, by show is.length ≤ 5; omega⟩, g6, by show js.length = is.length; omega, by show vs.length ≤ 24; omega, by show bs.length = vs.length; omega, ⟨g13, k13⟩, ⟨g14, k14⟩⟩, ?_⟩
  · simp only [mkM, List.mem_cons, List.not_mem_nil, or_false, List.getD_eq_getElem?_getD, List.getElem?_cons_zero, List.getElem?_cons_succ, Option.getD_some] at hx
    rcases hx with rfl | rfl | rfl | rfl | rfl | rfl | rfl | rfl | rfl
    · exact g1 _ (by simp)
    · exact g1 _ (by simp)
    · exact g1 _ (by simp)
    · exact g1 _ (by simp)
    · exact g1 _ (by simp)
    · exact g1 _ (by simp)
    · exact g1 _ (by simp)
    · exact g7
    · exact g9
  · rw [e1, e2, e3, e4, e5, e6, e7, e9, e10, e11, e12, e13, e14, o1, i1, n1]
    simp [nums, front, hd, mkM]
theorem D_bwd {m : S29} {r : List Int} (h : GD m) : D (nums m ++ r) = some (m, r) := by
  obtain ⟨g0, g1, ⟨g8, k8⟩, ⟨g9, k9⟩, g10, k10, kv, kr, ⟨gi, ki⟩, ⟨go, ko⟩⟩ := h
  have ghd : Al (hd m) := by
    intro x hx
    simp only [hd, List.mem_cons, List.not_mem_nil, or_false] at hx
    rcases hx with rfl | rfl | rfl | rfl | rfl | rfl | rfl | rfl
    · exact g0
    all_goals exact g1 _ (by simp)
  have gp : Nn m.f11.f0 := g1 _ (by simp)
  have gs : Nn m.f11.f1 := g1 _ (by simp)
  have t : ∀ n : Nat, ((n : Int).toNat) = n := fun n => Int.toNat_natCast n
  have c1 := (rpn 8 (hd m ++ ([(m.f8.length : Int)] ++ (m.f8 ++ ([(m.f9.length : Int)] ++ (m.f9 ++ (m.f10 ++ ([m.f11.f0] ++ ([m.f11.f1] ++ ([(m.f11.f2.length : Int)] ++ (m.f11.f2 ++ (m.f11.f3.map b2i ++ (mn m.f11.f4 ++ (mn m.f12 ++ r))))))))))))) (hd m) _).2 ⟨⟨ghd, rfl⟩, rfl⟩
  have c2 := (nm_inv 6 _ (m.f8.length : Int) (m.f8 ++ ([(m.f9.length : Int)] ++ (m.f9 ++ (m.f10 ++ ([m.f11.f0] ++ ([m.f11.f1] ++ ([(m.f11.f2.length : Int)] ++ (m.f11.f2 ++ (m.f11.f3.map b2i ++ (mn m.f11.f4 ++ (mn m.f12 ++ r)))))))))))).2 ⟨⟨by omega, by omega⟩, rfl⟩
  have c3 := (rpn m.f8.length _ m.f8 ([(m.f9.length : Int)] ++ (m.f9 ++ (m.f10 ++ ([m.f11.f0] ++ ([m.f11.f1] ++ ([(m.f11.f2.length : Int)] ++ (m.f11.f2 ++ (m.f11.f3.map b2i ++ (mn m.f11.f4 ++ (mn m.f12 ++ r))))))))))).2 ⟨⟨g8, rfl⟩, rfl⟩
  have c4 := (nm_inv 5 _ (m.f9.length : Int) (m.f9 ++ (m.f10 ++ ([m.f11.f0] ++ ([m.f11.f1] ++ ([(m.f11.f2.length : Int)] ++ (m.f11.f2 ++ (m.f11.f3.map b2i ++ (mn m.f11.f4 ++ (mn m.f12 ++ r)))))))))).2 ⟨⟨by omega, by omega⟩, rfl⟩
  have c5 := (rpn m.f9.length _ m.f9 (m.f10 ++ ([m.f11.f0] ++ ([m.f11.f1] ++ ([(m.f11.f2.length : Int)] ++ (m.f11.f2 ++ (m.f11.f3.map b2i ++ (mn m.f11.f4 ++ (mn m.f12 ++ r))))))))).2 ⟨⟨g9, rfl⟩, rfl⟩
  have c6 := (rpn m.f9.length _ m.f10 ([m.f11.f0] ++ ([m.f11.f1] ++ ([(m.f11.f2.length : Int)] ++ (m.f11.f2 ++ (m.f11.f3.map b2i ++ (mn m.f11.f4 ++ (mn m.f12 ++ r)))))))).2 ⟨⟨g10, k10⟩, rfl⟩
  have c7 := (nm_inv 1099511627776 _ m.f11.f0 ([m.f11.f1] ++ ([(m.f11.f2.length : Int)] ++ (m.f11.f2 ++ (m.f11.f3.map b2i ++ (mn m.f11.f4 ++ (mn m.f12 ++ r))))))).2 ⟨gp, rfl⟩
  have c8 := (nm_inv 1099511627776 _ m.f11.f1 ([(m.f11.f2.length : Int)] ++ (m.f11.f2 ++ (m.f11.f3.map b2i ++ (mn m.f11.f4 ++ (mn m.f12 ++ r)))))).2 ⟨gs, rfl⟩
  have c9 := (nm_inv 24 _ (m.f11.f2.length : Int) (m.f11.f2 ++ (m.f11.f3.map b2i ++ (mn m.f11.f4 ++ (mn m.f12 ++ r))))).2 ⟨⟨by omega, by omega⟩, rfl⟩
  have c10 := (rpa m.f11.f2.length _ m.f11.f2 (m.f11.f3.map b2i ++ (mn m.f11.f4 ++ (mn m.f12 ++ r)))).2 ⟨rfl, rfl⟩
  have c11 := (rpb m.f11.f2.length _ m.f11.f3 (mn m.f11.f4 ++ (mn m.f12 ++ r))).2 ⟨kr, rfl⟩
  have c12 := (mgs_inv _ m.f11.f4 (mn m.f12 ++ r)).2 ⟨⟨gi, ki⟩, rfl⟩
  have c13 := (mgs_inv _ m.f12 r).2 ⟨⟨go, ko⟩, rfl⟩
  have en : nums m ++ r = hd m ++ ([(m.f8.length : Int)] ++ (m.f8 ++ ([(m.f9.length : Int)] ++ (m.f9 ++ (m.f10 ++ ([m.f11.f0] ++ ([m.f11.f1] ++ ([(m.f11.f2.length : Int)] ++ (m.f11.f2 ++ (m.f11.f3.map b2i ++ (mn m.f11.f4 ++ (mn m.f12 ++ r)))))))))))) := by simp [nums, front]
  simp only [id] at c3 c5 c6 c10
  unfold D
  rw [en, c1]
  simp only [Option.bind_some, c2, t, c3, c4, c5, c6, c7, c8, c9, c10, c11, c12, c13]
  rfl
theorem D_inv : Inv D nums GD := fun l m r => ⟨D_fwd, fun ⟨g, e⟩ => by rw [e]; exact D_bwd g⟩
/-- The mail whose numbers these are. -/
def dec (l : List Int) : Option S29 := (D l).bind fun y => if y.2 = [] ∧ RR y.1 then some y.1 else none
theorem dec_iff (l : List Int) (m : S29) : dec l = some m ↔ RR m ∧ l = nums m := by
  unfold dec
  constructor
  · intro h
    obtain ⟨⟨m', r⟩, h1, h⟩ := Option.bind_eq_some_iff.1 h
    by_cases c : r = [] ∧ RR m'
    · rw [if_pos c] at h
      obtain rfl := Option.some.inj h
      obtain ⟨_, e⟩ := (D_inv _ _ _).1 h1
      rw [c.1, List.append_nil] at e
      exact ⟨c.2, e⟩
    · rw [if_neg c] at h; cases h
  · rintro ⟨g, rfl⟩
    have := (D_inv (nums m) m []).2 ⟨RR_GD g, by rw [List.append_nil]⟩
    rw [this, Option.bind_some, if_pos ⟨rfl, g⟩]
end Go.Proofs.Ytlcbgmaajijbjaa.Pure
