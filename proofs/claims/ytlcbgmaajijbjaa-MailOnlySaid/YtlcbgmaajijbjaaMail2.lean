/- Mails, in plain Lean: their bytes. -/
import Derived.Test.YtlcbgmaajijbjaaMail1
set_option linter.unusedVariables false
set_option linter.unusedSimpArgs false
namespace Go.Proofs.Ytlcbgmaajijbjaa.Pure
open Go Go.RowKit Go.Hw Go.Proofs.Ytlcbgmaajijbjaa.G
def Wl (l : List Int) : List Int := l.flatMap be8
theorem Wl_nil : Wl [] = [] := rfl
theorem Wl_cons (x : Int) (l : List Int) : Wl (x :: l) = be8 x ++ Wl l := rfl
theorem Wl_append (l m : List Int) : Wl (l ++ m) = Wl l ++ Wl m := List.flatMap_append
theorem Wl_length : ∀ l : List Int, (Wl l).length = 8 * l.length
  | [] => rfl
  | x :: l => by rw [Wl_cons, List.length_append, be8_length, Wl_length l, List.length_cons]; omega
theorem Wl_bytes : ∀ l : List Int, Bytes (Wl l)
  | [] => Bytes.nil
  | x :: l => (be8_bytes x).append (Wl_bytes l)
def b2i (b : Bool) : Int := if b then 1 else 0
def mf (l : List S77) : List Int := l.flatMap (fun x => [x.f0, x.f1])
theorem mf_cons (x : S77) (l : List S77) : mf (x :: l) = x.f0 :: x.f1 :: mf l := rfl
theorem mf_length : ∀ l : List S77, (mf l).length = 2 * l.length
  | [] => rfl
  | x :: l => by rw [mf_cons, List.length_cons, List.length_cons, mf_length l, List.length_cons]; omega
def mn (l : List S77) : List Int := (l.length : Int) :: mf l
def hd (m : S29) : List Int := [m.f0, m.f1, m.f2, m.f3, m.f4, m.f5, m.f6, m.f7]
def front (m : S29) : List Int := hd m ++ ((m.f8.length : Int) :: m.f8 ++ ((m.f9.length : Int) :: m.f9 ++ (m.f10 ++ [m.f11.f0, m.f11.f1, (m.f11.f2.length : Int)])))
def nums (m : S29) : List Int := front m ++ (m.f11.f2 ++ (m.f11.f3.map b2i ++ (mn m.f11.f4 ++ mn m.f12)))
theorem put_loop {K : Nat} (hK : 9 ≤ K) (l : List Int) (hl : l.length ≤ 1000000) : ∀ (k i : Nat) (b : List Int), i ≤ l.length → l.length < k + i → b.length + 8 * (l.length - i) ≤ 100000000 → mail_put.l1 K l k (b, (i : Int)) = some (b ++ Wl (l.drop i)) := by
  intro k
  induction k with
  | zero => intro i b h1 h2; omega
  | succ k ih =>
    intro i b h1 h2 h3
    rw [mail_put.l1]
    by_cases hi : i < l.length
    · have hx : l[i]? = some l[i] := List.getElem?_eq_getElem hi
      have hlt : ((i : Int) < (l.length : Int)) := by omega
      simp only [condD, if_pos hlt, idxN, hx, Option.bind_some, step1 (show i < 1000000000 by omega), num_f l[i] hK]
      rw [appN (by rw [be8_length]; omega), Option.bind_some, ih (i + 1) _ hi (by omega) (by rw [List.length_append, be8_length]; omega), List.drop_eq_getElem_cons hi, Wl_cons, List.append_assoc]
    · have hlt : ¬ ((i : Int) < (l.length : Int)) := by omega
      simp only [condD, if_neg hlt, List.drop_eq_nil_of_le (show l.length ≤ i by omega), Wl_nil, List.append_nil]
theorem put_f {K : Nat} {b l : List Int} (hK : 2000 ≤ K) (hl : l.length ≤ 1000) (hb : b.length ≤ 1000000) : mail_put.f K b l = some (b ++ Wl l) := by
  have := put_loop (show 9 ≤ K by omega) l (by omega) K 0 b (by omega) (by omega) (by omega)
  rw [List.drop_zero] at this
  exact this
theorem list_f {K : Nat} {b l : List Int} (hK : 2000 ≤ K) (hl : l.length ≤ 1000) (hb : b.length ≤ 10000) : mail_list.f K b l = some (b ++ Wl ((l.length : Int) :: l)) := by
  rw [mail_list.f, put_f hK (by simp) (by omega), Option.bind_some, put_f hK hl (by rw [List.length_append, Wl_length]; simp only [List.length_cons, List.length_nil]; omega), Option.bind_some, List.append_assoc, ← Wl_append]
  rfl
theorem told_loop {K : Nat} (hK : 2000 ≤ K) (l : List S77) (hl : l.length ≤ 1000) : ∀ (k i : Nat) (b : List Int), i ≤ l.length → l.length < k + i → b.length + 16 * (l.length - i) ≤ 100000 → mail_told.l1 K l k (b, (i : Int)) = some (b ++ Wl (mf (l.drop i))) := by
  intro k
  induction k with
  | zero => intro i b h1 h2; omega
  | succ k ih =>
    intro i b h1 h2 h3
    rw [mail_told.l1]
    by_cases hi : i < l.length
    · have hx : l[i]? = some l[i] := List.getElem?_eq_getElem hi
      have hlt : ((i : Int) < (l.length : Int)) := by omega
      simp only [condD, if_pos hlt, idxN, hx, Option.bind_some, step1 (show i < 1000000000 by omega), num_f l[i].f1 (show 9 ≤ K by omega)]
      have hlen : (b ++ Wl [l[i].f0]).length = b.length + 8 := by rw [List.length_append, Wl_length]; rfl
      rw [put_f hK (by simp) (by omega)]
      simp only [Option.bind_some]
      rw [appN (by rw [hlen, be8_length]; omega), Option.bind_some, ih (i + 1) _ hi (by omega) (by rw [List.length_append, hlen, be8_length]; omega), List.drop_eq_getElem_cons hi, mf_cons, Wl_cons, Wl_cons]
      simp only [Wl_cons, Wl_nil, List.append_assoc, List.append_nil, List.nil_append]
    · have hlt : ¬ ((i : Int) < (l.length : Int)) := by omega
      simp only [condD, if_neg hlt, List.drop_eq_nil_of_le (show l.length ≤ i by omega)]
      rw [show mf [] = [] from rfl, Wl_nil, List.append_nil]
theorem told_f {K : Nat} {b : List Int} {l : List S77} (hK : 2000 ≤ K) (hl : l.length ≤ 1000) (hb : b.length ≤ 50000) : mail_told.f K b l = some (b ++ Wl (mn l)) := by
  have hlen : (b ++ Wl [(l.length : Int)]).length = b.length + 8 := by rw [List.length_append, Wl_length]; rfl
  have := told_loop hK l hl K 0 (b ++ Wl [(l.length : Int)]) (by omega) (by omega) (by omega)
  rw [List.drop_zero] at this
  rw [mail_told.f, put_f hK (by simp) (by omega), Option.bind_some, show (0 : Int) = ((0 : Nat) : Int) from rfl, this, mn, Wl_cons]
  simp only [Wl_cons, Wl_nil, List.append_assoc, List.append_nil, List.nil_append]
theorem vals_loop {K : Nat} (hK : 2000 ≤ K) (m : S29) (hl : m.f11.f2.length ≤ 1000) : ∀ (k i : Nat) (b : List Int), i ≤ m.f11.f2.length → m.f11.f2.length < k + i → b.length + 8 * (m.f11.f2.length - i) ≤ 100000 → mail_Encode.l34 K m k (b, (i : Int)) = some (b ++ Wl (m.f11.f2.drop i)) := by
  intro k
  induction k with
  | zero => intro i b h1 h2; omega
  | succ k ih =>
    intro i b h1 h2 h3
    rw [mail_Encode.l34]
    by_cases hi : i < m.f11.f2.length
    · have hx : m.f11.f2[i]? = some m.f11.f2[i] := List.getElem?_eq_getElem hi
      have hlt : ((i : Int) < (m.f11.f2.length : Int)) := by omega
      simp only [condD, if_pos hlt, idxN, hx, Option.bind_some, step1 (show i < 1000000000 by omega), num_f m.f11.f2[i] (show 9 ≤ K by omega)]
      rw [appN (by rw [be8_length]; omega), Option.bind_some, ih (i + 1) _ hi (by omega) (by rw [List.length_append, be8_length]; omega), List.drop_eq_getElem_cons hi, Wl_cons, List.append_assoc]
    · have hlt : ¬ ((i : Int) < (m.f11.f2.length : Int)) := by omega
      simp only [condD, if_neg hlt, List.drop_eq_nil_of_le (show m.f11.f2.length ≤ i by omega), Wl_nil, List.append_nil]
theorem rest_loop {K : Nat} (hK : 2000 ≤ K) (m : S29) (hl : m.f11.f3.length ≤ 1000) : ∀ (k i : Nat) (b : List Int), i ≤ m.f11.f3.length → m.f11.f3.length < k + i → b.length + 8 * (m.f11.f3.length - i) ≤ 100000 → mail_Encode.l21 K m k (b, (i : Int)) = some (b ++ Wl ((m.f11.f3.drop i).map b2i)) := by
  intro k
  induction k with
  | zero => intro i b h1 h2; omega
  | succ k ih =>
    intro i b h1 h2 h3
    rw [mail_Encode.l21]
    by_cases hi : i < m.f11.f3.length
    · have hx : m.f11.f3[i]? = some m.f11.f3[i] := List.getElem?_eq_getElem hi
      have hlt : ((i : Int) < (m.f11.f3.length : Int)) := by omega
      simp only [condD, if_pos hlt, idxN, hx, Option.bind_some, step1 (show i < 1000000000 by omega)]
      have : (cond m.f11.f3[i] (some (1 : Int)) (some 0) : Option Int) = some (b2i m.f11.f3[i]) := by cases m.f11.f3[i] <;> rfl
      rw [this, Option.bind_some, put_f hK (by simp) (by omega), Option.bind_some, ih (i + 1) _ hi (by omega) (by rw [List.length_append, Wl_length]; simp only [List.length_cons, List.length_nil]; omega), List.drop_eq_getElem_cons hi, List.map_cons, Wl_cons, Wl_cons, Wl_nil, List.append_nil, List.append_assoc]
    · have hlt : ¬ ((i : Int) < (m.f11.f3.length : Int)) := by omega
      simp only [condD, if_neg hlt, List.drop_eq_nil_of_le (show m.f11.f3.length ≤ i by omega), List.map_nil, Wl_nil, List.append_nil]
theorem encode_f {K : Nat} {m : S29} (hm : Few m) (hK : 2000 ≤ K) : mail_Encode.f K m = some (if RR m then (Wl (nums m), 0) else ([], 1)) := by
  rw [mail_Encode.f, right_f hm hK, Option.bind_some, condNot]
  by_cases h : RR m
  · rw [decide_eq_true h, if_pos h, cond_true]
    obtain ⟨_, _, ⟨_, h8⟩, ⟨_, h9⟩, _, h10, hv, hr, ⟨_, hi⟩, ⟨_, ho⟩⟩ := h
    have e1 := put_f (K := K) (b := []) (l := hd m) hK (by simp [hd]) (by simp)
    rw [List.nil_append] at e1
    have n1 : (Wl (hd m)).length = 64 := by rw [Wl_length]; rfl
    have e2 := list_f (K := K) (b := Wl (hd m)) (l := m.f8) hK (by omega) (by omega)
    rw [← Wl_append] at e2
    have n2 : (Wl (hd m ++ (m.f8.length : Int) :: m.f8)).length ≤ 120 := by rw [Wl_length, List.length_append, List.length_cons]; simp only [hd, List.length_cons, List.length_nil]; omega
    have e3 := list_f (K := K) (b := Wl (hd m ++ (m.f8.length : Int) :: m.f8)) (l := m.f9) hK (by omega) (by omega)
    rw [← Wl_append] at e3
    have n3 : (Wl (hd m ++ (m.f8.length : Int) :: m.f8 ++ (m.f9.length : Int) :: m.f9)).length ≤ 200 := by rw [Wl_append, List.length_append, Wl_length ((m.f9.length : Int) :: m.f9), List.length_cons]; omega
    have e4 := put_f (K := K) (b := Wl (hd m ++ (m.f8.length : Int) :: m.f8 ++ (m.f9.length : Int) :: m.f9)) (l := m.f10) hK (by omega) (by omega)
    rw [← Wl_append] at e4
    have n4 : (Wl (hd m ++ (m.f8.length : Int) :: m.f8 ++ (m.f9.length : Int) :: m.f9 ++ m.f10)).length ≤ 300 := by rw [Wl_append, List.length_append, Wl_length m.f10]; omega
    have e5 := put_f (K := K) (b := Wl (hd m ++ (m.f8.length : Int) :: m.f8 ++ (m.f9.length : Int) :: m.f9 ++ m.f10)) (l := [m.f11.f0, m.f11.f1, (m.f11.f2.length : Int)]) hK (by simp) (by omega)
    rw [← Wl_append] at e5
    have ef : hd m ++ (m.f8.length : Int) :: m.f8 ++ (m.f9.length : Int) :: m.f9 ++ m.f10 ++ [m.f11.f0, m.f11.f1, (m.f11.f2.length : Int)] = front m := by simp [front]
    rw [ef] at e5
    have n5 : (Wl (front m)).length ≤ 400 := by rw [← ef, Wl_append, List.length_append, Wl_length [_, _, _]]; simp only [List.length_cons, List.length_nil]; omega
    have e6 := vals_loop hK m (by omega) K 0 (Wl (front m)) (by omega) (by omega) (by omega)
    rw [List.drop_zero, ← Wl_append] at e6
    have n6 : (Wl (front m ++ m.f11.f2)).length ≤ 700 := by rw [Wl_append, List.length_append, Wl_length m.f11.f2]; omega
    have e7 := rest_loop hK m (by omega) K 0 (Wl (front m ++ m.f11.f2)) (by omega) (by omega) (by omega)
    rw [List.drop_zero, ← Wl_append] at e7
    have n7 : (Wl (front m ++ m.f11.f2 ++ m.f11.f3.map b2i)).length ≤ 1000 := by rw [Wl_append, List.length_append, Wl_length (m.f11.f3.map b2i), List.length_map]; omega
    have e8 := told_f (K := K) (b := Wl (front m ++ m.f11.f2 ++ m.f11.f3.map b2i)) (l := m.f11.f4) hK (by omega) (by omega)
    rw [← Wl_append] at e8
    have n8 : (Wl (front m ++ m.f11.f2 ++ m.f11.f3.map b2i ++ mn m.f11.f4)).length ≤ 2000 := by rw [Wl_append, List.length_append, Wl_length (mn m.f11.f4), mn, List.length_cons, mf_length]; omega
    have e9 := told_f (K := K) (b := Wl (front m ++ m.f11.f2 ++ m.f11.f3.map b2i ++ mn m.f11.f4)) (l := m.f12) hK (by omega) (by omega)
    rw [← Wl_append] at e9
    have en : front m ++ m.f11.f2 ++ m.f11.f3.map b2i ++ mn m.f11.f4 ++ mn m.f12 = nums m := by simp [nums]
    rw [en] at e9
    rw [show ([m.f0, m.f1, m.f2, m.f3, m.f4, m.f5, m.f6, m.f7] : List Int) = hd m from rfl, e1]
    simp only [Option.bind_some]
    rw [e2]
    simp only [Option.bind_some]
    rw [e3]
    simp only [Option.bind_some]
    rw [e4]
    simp only [Option.bind_some]
    rw [e5]
    simp only [Option.bind_some]
    rw [show (0 : Int) = ((0 : Nat) : Int) from rfl, e6]
    simp only [Option.bind_some]
    rw [e7]
    simp only [Option.bind_some]
    rw [e8]
    simp only [Option.bind_some]
    rw [e9]
    rfl
  · rw [decide_eq_false h, if_neg h, cond_false]
theorem nums_length {m : S29} (h : RR m) : (nums m).length ≤ 200 := by
  obtain ⟨_, _, ⟨_, h8⟩, ⟨_, h9⟩, _, h10, hv, hr, ⟨_, hi⟩, ⟨_, ho⟩⟩ := h
  simp only [nums, front, hd, mn, List.length_append, List.length_cons, List.length_nil, List.length_map, mf_length]
  omega
/-! The document's side. -/
theorem listed_loop {K : Nat} (l : List S77) (hl : l.length ≤ 1000) : ∀ (k i : Nat) (b : List Int), i ≤ l.length → l.length < k + i → b.length + 2 * (l.length - i) ≤ 100000 → haywainref15_listed.l1 K l k (b, (i : Int)) = some (b ++ mf (l.drop i)) := by
  intro k
  induction k with
  | zero => intro i b h1 h2; omega
  | succ k ih =>
    intro i b h1 h2 h3
    rw [haywainref15_listed.l1]
    by_cases hi : i < l.length
    · have hx : l[i]? = some l[i] := List.getElem?_eq_getElem hi
      have hlt : ((i : Int) < (l.length : Int)) := by omega
      simp only [condD, if_pos hlt, idxN, hx, Option.bind_some, step1 (show i < 1000000000 by omega)]
      rw [appN (by simp only [List.length_cons, List.length_nil]; omega), Option.bind_some, ih (i + 1) _ hi (by omega) (by simp only [List.length_append, List.length_cons, List.length_nil]; omega), List.drop_eq_getElem_cons hi, mf_cons]
      simp only [List.append_assoc, List.cons_append, List.nil_append]
    · have hlt : ¬ ((i : Int) < (l.length : Int)) := by omega
      simp only [condD, if_neg hlt, List.drop_eq_nil_of_le (show l.length ≤ i by omega)]
      rw [show mf [] = [] from rfl, List.append_nil]
theorem listed_f {K : Nat} {b : List Int} {l : List S77} (hK : 2000 ≤ K) (hl : l.length ≤ 1000) (hb : b.length ≤ 50000) : haywainref15_listed.f K b l = some (b ++ mn l) := by
  have hlen : (b ++ [(l.length : Int)]).length = b.length + 1 := by rw [List.length_append]; rfl
  have := listed_loop (K := K) l hl K 0 (b ++ [(l.length : Int)]) (by omega) (by omega) (by omega)
  rw [List.drop_zero] at this
  rw [haywainref15_listed.f, appN (by simp only [List.length_cons, List.length_nil]; omega), Option.bind_some, show (0 : Int) = ((0 : Nat) : Int) from rfl, this, mn, List.append_assoc, List.singleton_append]
theorem nrest_loop {K : Nat} (m : S29) (hl : m.f11.f3.length ≤ 1000) : ∀ (k i : Nat) (b : List Int), i ≤ m.f11.f3.length → m.f11.f3.length < k + i → b.length + (m.f11.f3.length - i) ≤ 100000 → haywainref15_Numbers.l14 K (asM m) k (b, (i : Int)) = some (b ++ (m.f11.f3.drop i).map b2i) := by
  have em : (asM m).f11.f3 = m.f11.f3 := rfl
  intro k
  induction k with
  | zero => intro i b h1 h2; omega
  | succ k ih =>
    intro i b h1 h2 h3
    rw [haywainref15_Numbers.l14, em]
    by_cases hi : i < m.f11.f3.length
    · have hx : m.f11.f3[i]? = some m.f11.f3[i] := List.getElem?_eq_getElem hi
      have hlt : ((i : Int) < (m.f11.f3.length : Int)) := by omega
      simp only [condD, if_pos hlt, idxN, hx, Option.bind_some, step1 (show i < 1000000000 by omega)]
      rw [appN (by simp only [List.length_cons, List.length_nil]; omega), Option.bind_some, appN (by simp only [List.length_cons, List.length_nil]; omega), Option.bind_some, List.drop_eq_getElem_cons hi, List.map_cons]
      cases hb : m.f11.f3[i]
      · rw [cond_false, ih (i + 1) _ hi (by omega) (by simp only [List.length_append, List.length_cons, List.length_nil]; omega)]
        simp only [List.append_assoc, List.singleton_append, b2i, Bool.false_eq_true, if_false]
      · rw [cond_true, ih (i + 1) _ hi (by omega) (by simp only [List.length_append, List.length_cons, List.length_nil]; omega)]
        simp only [List.append_assoc, List.singleton_append, b2i, if_true]
    · have hlt : ¬ ((i : Int) < (m.f11.f3.length : Int)) := by omega
      simp only [condD, if_neg hlt, List.drop_eq_nil_of_le (show m.f11.f3.length ≤ i by omega), List.map_nil, List.append_nil]
theorem nhead_loop {K : Nat} (m : S29) (hl : (front m).length ≤ 1000) : ∀ (k i : Nat) (b : List Int), i ≤ (front m).length → (front m).length < k + i → b.length + ((front m).length - i) ≤ 100000 → haywainref15_Numbers.l21 K (asM m) k (b, (i : Int)) = some (b ++ (front m).drop i) := by
  have em : ((((((([(asM m).f0, (asM m).f1, (asM m).f2, (asM m).f3, (asM m).f4, (asM m).f5, (asM m).f6, (asM m).f7, ((asM m).f8.length : Int)] : List Int) ++ (asM m).f8) ++ ([((asM m).f9.length : Int)] : List Int)) ++ (asM m).f9) ++ (asM m).f10) ++ ([(asM m).f11.f0, (asM m).f11.f1, ((asM m).f11.f2.length : Int)] : List Int))) = front m := by simp [front, hd, asM]
  intro k
  induction k with
  | zero => intro i b h1 h2; omega
  | succ k ih =>
    intro i b h1 h2 h3
    rw [haywainref15_Numbers.l21, em]
    by_cases hi : i < (front m).length
    · have hx : (front m)[i]? = some (front m)[i] := List.getElem?_eq_getElem hi
      have hlt : ((i : Int) < ((front m).length : Int)) := by omega
      simp only [condD, if_pos hlt, idxN, hx, Option.bind_some, step1 (show i < 1000000000 by omega)]
      rw [appN (by simp only [List.length_cons, List.length_nil]; omega), Option.bind_some, ih (i + 1) _ hi (by omega) (by simp only [List.length_append, List.length_cons, List.length_nil]; omega), List.append_assoc, List.singleton_append, ← List.drop_eq_getElem_cons hi]
    · have hlt : ¬ ((i : Int) < ((front m).length : Int)) := by omega
      simp only [condD, if_neg hlt, List.drop_eq_nil_of_le (show (front m).length ≤ i by omega), List.append_nil]
theorem numbers_f {K : Nat} {m : S29} (h : RR m) (hK : 2000 ≤ K) : haywainref15_Numbers.f K (asM m) = some (nums m) := by
  have hfl : (front m).length ≤ 100 := by
    obtain ⟨_, _, ⟨_, h8⟩, ⟨_, h9⟩, _, h10, hv, hr, ⟨_, hi⟩, ⟨_, ho⟩⟩ := h
    simp only [front, hd, List.length_append, List.length_cons, List.length_nil]
    omega
  obtain ⟨_, _, ⟨_, h8⟩, ⟨_, h9⟩, _, h10, hv, hr, ⟨_, hi⟩, ⟨_, ho⟩⟩ := h
  have a8 : (asM m).f8 = m.f8 := rfl
  have a9 : (asM m).f9 = m.f9 := rfl
  have a10 : (asM m).f10 = m.f10 := rfl
  have a2 : (asM m).f11.f2 = m.f11.f2 := rfl
  have a4 : (asM m).f11.f4 = m.f11.f4 := rfl
  have a12 : (asM m).f12 = m.f12 := rfl
  have e1 := nhead_loop (K := K) m (by omega) K 0 [] (by omega) (by omega) (by simp only [List.length_nil]; omega)
  rw [List.drop_zero, List.nil_append] at e1
  have n1 : (front m ++ m.f11.f2).length ≤ 200 := by rw [List.length_append]; omega
  have e2 := nrest_loop (K := K) m (by omega) K 0 (front m ++ m.f11.f2) (by omega) (by omega) (by omega)
  rw [List.drop_zero] at e2
  have n2 : (front m ++ m.f11.f2 ++ m.f11.f3.map b2i).length ≤ 300 := by rw [List.length_append, List.length_map]; omega
  have e3 := listed_f (K := K) (b := front m ++ m.f11.f2 ++ m.f11.f3.map b2i) (l := m.f11.f4) hK (by omega) (by omega)
  have n3 : (front m ++ m.f11.f2 ++ m.f11.f3.map b2i ++ mn m.f11.f4).length ≤ 500 := by rw [List.length_append, mn, List.length_cons, mf_length]; omega
  have e4 := listed_f (K := K) (b := front m ++ m.f11.f2 ++ m.f11.f3.map b2i ++ mn m.f11.f4) (l := m.f12) hK (by omega) (by omega)
  have en : front m ++ m.f11.f2 ++ m.f11.f3.map b2i ++ mn m.f11.f4 ++ mn m.f12 = nums m := by simp [nums]
  rw [en] at e4
  rw [haywainref15_Numbers.f, a8, a9, a10, a2, a4, a12]
  rw [appN (by simp only [List.length_cons, List.length_nil]; omega), Option.bind_some]
  rw [appN (by simp only [List.length_append, List.length_cons, List.length_nil]; omega), Option.bind_some]
  rw [appN (by simp only [List.length_append, List.length_cons, List.length_nil]; omega), Option.bind_some]
  rw [appN (by simp only [List.length_append, List.length_cons, List.length_nil]; omega), Option.bind_some]
  rw [appN (by simp only [List.length_append, List.length_cons, List.length_nil]; omega), Option.bind_some]
  rw [show (0 : Int) = ((0 : Nat) : Int) from rfl, e1]
  simp only [Option.bind_some]
  rw [appN (by omega)]
  simp only [Option.bind_some, e2, e3, e4]
theorem renc_loop {K : Nat} (hK : 9 ≤ K) (l : List Int) (hl : l.length ≤ 1000) : ∀ (k i : Nat) (b : List Int), i ≤ l.length → l.length < k + i → b.length + 8 * (l.length - i) ≤ 100000 → haywainref15_Encode.l1 K l k (b, (i : Int)) = some (b ++ Wl (l.drop i)) := by
  intro k
  induction k with
  | zero => intro i b h1 h2; omega
  | succ k ih =>
    intro i b h1 h2 h3
    rw [haywainref15_Encode.l1]
    by_cases hi : i < l.length
    · have hx : l[i]? = some l[i] := List.getElem?_eq_getElem hi
      have hlt : ((i : Int) < (l.length : Int)) := by omega
      simp only [condD, if_pos hlt, idxN, hx, Option.bind_some, step1 (show i < 1000000000 by omega), rnum_f l[i] hK]
      rw [appN (by rw [be8_length]; omega), Option.bind_some, ih (i + 1) _ hi (by omega) (by rw [List.length_append, be8_length]; omega), List.drop_eq_getElem_cons hi, Wl_cons, List.append_assoc]
    · have hlt : ¬ ((i : Int) < (l.length : Int)) := by omega
      simp only [condD, if_neg hlt, List.drop_eq_nil_of_le (show l.length ≤ i by omega), Wl_nil, List.append_nil]
theorem rencode_f {K : Nat} {m : S29} (h : RR m) (hK : 2000 ≤ K) : haywainref15_Encode.f K (asM m) = some (Wl (nums m)) := by
  have hn := nums_length h
  have := renc_loop (show 9 ≤ K by omega) (nums m) (by omega) K 0 [] (by omega) (by omega) (by simp only [List.length_nil]; omega)
  rw [List.drop_zero, List.nil_append] at this
  rw [haywainref15_Encode.f, numbers_f h hK, Option.bind_some]
  exact this
end Go.Proofs.Ytlcbgmaajijbjaa.Pure
