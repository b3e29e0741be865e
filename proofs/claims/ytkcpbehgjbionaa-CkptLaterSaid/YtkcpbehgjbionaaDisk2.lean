/- Disks: what the program's functions answer. -/
import Derived.Test.YtkcpbehgjbionaaDisk1
set_option linter.unusedVariables false
set_option linter.unusedSimpArgs false
namespace Go.Proofs.Ytkcpbehgjbionaa.Pure
open Go Go.RowKit Go.Hw Go.Proofs.Ytkcpbehgjbionaa.G
theorem ff {b : Bool} (h : ¬ b = true) : b = false := by simpa using h
def fx (f : S70 → Bool) (l : List S70) (i : Nat) : Int := match l.findIdx? f with | some j => ((i + j : Nat) : Int) | none => -1
theorem fx_nil (f : S70 → Bool) (i : Nat) : fx f [] i = -1 := rfl
theorem fx_cons (f : S70 → Bool) (x : S70) (l : List S70) (i : Nat) : fx f (x :: l) i = if f x = true then (i : Int) else fx f l (i + 1) := by
  unfold fx
  rw [List.findIdx?_cons]
  by_cases h : f x = true
  · simp [h]
  · simp only [h, if_false]
    cases l.findIdx? f with
    | none => rfl
    | some j => simp; omega
theorem find38_loop (K : Nat) (l : List S70) (c : ByteArray) (hl : l.length ≤ 1000000) : ∀ (k i : Nat), i ≤ l.length → l.length < k + i → disk_find_f73.l1 K ⟨l⟩ c k (i : Int) = some (fx (fun x => key x == c.toList) (l.drop i) i) := by
  intro k
  induction k with
  | zero => intro i h1 h2; omega
  | succ k ih =>
    intro i h1 h2
    rw [disk_find_f73.l1]
    by_cases hi : i < l.length
    · have hx : l[i]? = some l[i] := List.getElem?_eq_getElem hi
      have hlt : ((i : Int) < (l.length : Int)) := by omega
      have hn : IntKind.wrap .i64 ((i : Int) + 1) = ((i + 1 : Nat) : Int) := by rw [wrapI (by omega) (by omega)]; omega
      simp only [condD, if_pos hlt, idxN, hx, Option.bind_some, disk_at_1_f73.f, hn]
      rw [ih (i + 1) hi (by omega), List.drop_eq_getElem_cons hi, fx_cons]
      by_cases h : (l[i].f0.toList == c.toList) = true
      · simp only [h, cond_true, if_true]
      · rw [if_neg h, ff h]
        rfl
    · have hlt : ¬ ((i : Int) < (l.length : Int)) := by omega
      simp only [condD, if_neg hlt, List.drop_eq_nil_of_le (show l.length ≤ i by omega), fx_nil]
theorem find32_loop (K : Nat) (l : List S70) (c : ByteArray) (hl : l.length ≤ 1000000) : ∀ (k i : Nat), i ≤ l.length → l.length < k + i → disk_find_f56.l1 K ⟨l⟩ c k (i : Int) = some (fx (fun x => Op.bytesLess c.toList (key x)) (l.drop i) i) := by
  intro k
  induction k with
  | zero => intro i h1 h2; omega
  | succ k ih =>
    intro i h1 h2
    rw [disk_find_f56.l1]
    by_cases hi : i < l.length
    · have hx : l[i]? = some l[i] := List.getElem?_eq_getElem hi
      have hlt : ((i : Int) < (l.length : Int)) := by omega
      have hn : IntKind.wrap .i64 ((i : Int) + 1) = ((i + 1 : Nat) : Int) := by rw [wrapI (by omega) (by omega)]; omega
      simp only [condD, if_pos hlt, idxN, hx, Option.bind_some, disk_Put_1_f56.f, hn]
      rw [ih (i + 1) hi (by omega), List.drop_eq_getElem_cons hi, fx_cons]
      by_cases h : bl c.toList (key l[i])
      · have e : (!(Op.bytesLess l[i].f0.toList c.toList || l[i].f0.toList == c.toList)) = true := by
          rw [Bool.not_eq_true', Bool.or_eq_false_iff]
          exact ⟨by simpa [bl] using bl_asymm h, by simpa using (bl_ne h).symm⟩
        rw [e, if_pos h]
        rfl
      · have e : (!(Op.bytesLess l[i].f0.toList c.toList || l[i].f0.toList == c.toList)) = false := by
          rw [Bool.not_eq_false', Bool.or_eq_true]
          rcases not_bl.1 h with h1 | h1
          · exact .inr (by simpa using h1)
          · exact .inl h1
        rw [e, if_neg h]
        rfl
    · have hlt : ¬ ((i : Int) < (l.length : Int)) := by omega
      simp only [condD, if_neg hlt, List.drop_eq_nil_of_le (show l.length ≤ i by omega), fx_nil]
theorem fx_skip (f : S70 → Bool) : ∀ (p q : List S70) (i : Nat), (∀ x ∈ p, f x = false) → fx f (p ++ q) i = fx f q (i + p.length)
  | [], q, i, _ => rfl
  | x :: p, q, i, h => by
    rw [List.cons_append, fx_cons, if_neg (by rw [h x List.mem_cons_self]; simp), fx_skip f p q (i + 1) (fun y hy => h y (List.mem_cons_of_mem _ hy))]
    congr 1
    simp only [List.length_cons]
    omega
theorem at_f {K : Nat} {l : List S70} {n : ByteArray} (hl : l.length ≤ 1000) (hK : 2000 ≤ K) (hs : Srt l) : disk_at.f K ⟨l⟩ n = some (if mi n.toList l = [] then -1 else ((lo n.toList l).length : Int)) := by
  have h1 := find38_loop K l n (by omega) K 0 (by omega) (by omega)
  rw [disk_at.f, disk_find_f73.f, show (0 : Int) = ((0 : Nat) : Int) from rfl, h1, Option.bind_some, List.drop_zero]
  congr 1
  obtain ⟨e, hm⟩ := parts hs n.toList
  rw [e, List.append_assoc, fx_skip _ _ _ _ (fun x hx => by simpa using bl_ne (lo_bl hx))]
  obtain ⟨e1, e2, _⟩ := parts_of (n := n.toList) (p := lo n.toList l) (m := mi n.toList l) (q := hi n.toList l) (fun x hx => lo_bl hx) (fun x hx => mi_key hx) (fun x hx => hi_bl hx)
  rw [← List.append_assoc, e1, e2]
  rcases hm with hm | ⟨x, hm, hk⟩
  · rw [hm, if_pos rfl, List.nil_append]
    have : ∀ (q : List S70) (i : Nat), (∀ x ∈ q, (key x == n.toList) = false) → fx (fun x => key x == n.toList) q i = -1 := fun q i h => by
      have := fx_skip (fun x => key x == n.toList) q [] i h
      rwa [List.append_nil] at this
    exact this _ _ (fun x hx => by simpa using (bl_ne (hi_bl hx)).symm)
  · rw [hm, if_neg (by simp), List.cons_append, fx_cons, if_pos (by simpa using hk)]
    omega
theorem find32_f {K : Nat} {l : List S70} {n : ByteArray} (hl : l.length ≤ 1000) (hK : 2000 ≤ K) (hs : Srt l) (hm : mi n.toList l = []) : disk_find_f56.f K ⟨l⟩ n = some (if hi n.toList l = [] then -1 else ((lo n.toList l).length : Int)) := by
  have h1 := find32_loop K l n (by omega) K 0 (by omega) (by omega)
  rw [disk_find_f56.f, show (0 : Int) = ((0 : Nat) : Int) from rfl, h1, List.drop_zero]
  congr 1
  obtain ⟨e, _⟩ := parts hs n.toList
  obtain ⟨e1, e2, e3⟩ := parts_of (n := n.toList) (p := lo n.toList l) (m := mi n.toList l) (q := hi n.toList l) (fun x hx => lo_bl hx) (fun x hx => mi_key hx) (fun x hx => hi_bl hx)
  rw [e, e1, e3, hm, List.append_nil, fx_skip _ _ _ _ (fun x hx => ff (bl_asymm (lo_bl hx)))]
  cases hq : hi n.toList l with
  | nil => rw [if_pos rfl]; rfl
  | cons y q =>
    rw [if_neg (by simp), fx_cons, if_pos (hi_bl (by rw [hq]; exact List.mem_cons_self))]
    omega
theorem sepN {xs : List S70} {i : Nat} (h : ∀ j y x, xs[j]? = some y → xs[i]? = some x → j ≠ i → key y ≠ key x) : sepO (fun x : S70 => x.f0.toList) xs (i : Int) = some () := by
  unfold sepO
  have : sepB (fun x : S70 => x.f0.toList) xs i = true := by
    unfold sepB
    rw [List.all_eq_true]
    rintro ⟨y, j⟩ hm
    rw [List.mem_zipIdx_iff_getElem?] at hm
    rw [Bool.or_eq_true]
    by_cases hj : j = i
    · exact .inl (by simpa using hj)
    · refine .inr ?_
      cases hx : xs[i]? with
      | none => rfl
      | some x =>
        have := h j y x hm hx hj
        simpa using this
  rw [Int.toNat_natCast, this]
  rfl
theorem sep_mid {p q : List S70} {x : S70} (hp : ∀ y ∈ p, bl (key y) (key x)) (hq : ∀ y ∈ q, bl (key x) (key y)) : sepO (fun x : S70 => x.f0.toList) (p ++ [x] ++ q) (p.length : Int) = some () := by
  refine sepN (fun j y z hy hz hj => ?_)
  have hz' : z = x := by simpa using hz.symm
  subst hz'
  have hlt := (List.getElem?_eq_some_iff.1 hy).1
  have hm : y ∈ p ∨ y ∈ q := by
    rcases Nat.lt_trichotomy j p.length with h | h | h
    · rw [List.append_assoc, List.getElem?_append_left h] at hy
      exact .inl (List.mem_of_getElem? hy)
    · exact absurd h hj
    · rw [List.getElem?_append_right (by simp; omega)] at hy
      exact .inr (List.mem_of_getElem? hy)
  rcases hm with h | h
  · exact bl_ne (hp y h)
  · exact (bl_ne (hq y h)).symm
theorem mid_get {p q : List S70} {x : S70} : (p ++ [x] ++ q)[p.length]? = some x := by simp
theorem mid_set {p q : List S70} {x y : S70} : (p ++ [x] ++ q).set p.length y = p ++ [y] ++ q := by simp
/-- A disk, and the place of a name in it. -/
theorem split {l : List S70} (h : RD l) (n : List UInt8) : ∃ p m q, lo n l = p ∧ mi n l = m ∧ hi n l = q ∧ l = p ++ m ++ q ∧ (∀ x ∈ p, bl (key x) n) ∧ (∀ x ∈ q, bl n (key x)) ∧ (m = [] ∨ ∃ x, m = [x] ∧ key x = n ∧ okF x) := by
  obtain ⟨e, hm⟩ := parts h.srt n
  refine ⟨_, _, _, rfl, rfl, rfl, e, fun x hx => lo_bl hx, fun x hx => hi_bl hx, ?_⟩
  rcases hm with hm | ⟨x, hm, hk⟩
  · exact .inl hm
  · exact .inr ⟨x, hm, hk, h.ok x (mi_mem (by rw [hm]; exact List.mem_cons_self))⟩
/-- A disk that is put together so is right. -/
theorem RD_join {l : List S70} (h : RD l) {n : List UInt8} {m : List S70} (hm : m = [] ∨ ∃ x, m = [x] ∧ key x = n ∧ okF x) (hl : (lo n l).length + m.length + (hi n l).length ≤ 40) : RD (lo n l ++ m ++ hi n l) := by
  refine ⟨by rw [List.length_append, List.length_append]; omega, ?_, ?_⟩
  · have h1 := lo_srt h.srt n
    have h2 := hi_srt h.srt n
    have hmk : ∀ x ∈ m, key x = n := by
      rcases hm with rfl | ⟨x, rfl, hk, _⟩
      · simp
      · intro y hy; rw [List.mem_singleton.1 hy]; exact hk
    have hms : Srt m := by
      rcases hm with rfl | ⟨x, rfl, _⟩
      · exact List.Pairwise.nil
      · exact List.pairwise_singleton _ _
    refine List.pairwise_append.2 ⟨List.pairwise_append.2 ⟨h1, hms, fun a ha b hb => by rw [hmk b hb]; exact lo_bl ha⟩, h2, fun a ha b hb => ?_⟩
    rcases List.mem_append.1 ha with ha | ha
    · exact bl_trans (lo_bl ha) (hi_bl hb)
    · rw [hmk a ha]; exact hi_bl hb
  · intro x hx
    rcases List.mem_append.1 hx with hx | hx
    · rcases List.mem_append.1 hx with hx | hx
      · exact h.ok x (lo_mem hx)
      · rcases hm with rfl | ⟨y, rfl, _, hy⟩
        · simp at hx
        · rw [List.mem_singleton.1 hx]; exact hy
    · exact h.ok x (hi_mem hx)
def getS (l : List S70) (n : ByteArray) : List Int × Int := match mi n.toList l with
  | [] => ([], 4)
  | x :: _ => (x.f1, 0)
def repl (l : List S70) (n : ByteArray) (x : S70) : List S70 := lo n.toList l ++ [x] ++ hi n.toList l
def putS (l : List S70) (n : ByteArray) (b : List Int) : List S70 × Int :=
  if ¬ Nm n then (l, 1) else match mi n.toList l with
  | [] => if l.length = 40 ∨ 20000 < b.length then (l, 3) else (repl l n ⟨n, b, 0⟩, 0)
  | x :: _ => if 20000 < x.f1.length + b.length then (l, 3) else (repl l n ⟨x.f0, x.f1 ++ b, x.f2⟩, 0)
def syncS (l : List S70) (n : ByteArray) : List S70 × Int := match mi n.toList l with
  | [] => (l, 4)
  | x :: _ => (repl l n ⟨x.f0, x.f1, x.f1.length⟩, 0)
def cutS (l : List S70) (n : ByteArray) (c : Int) : List S70 × Int := match mi n.toList l with
  | [] => (l, 4)
  | x :: _ => if c < 0 ∨ x.f1.length < c then (l, 1) else (repl l n ⟨x.f0, x.f1.take c.toNat, c⟩, 0)
def dropS (l : List S70) (n : ByteArray) : List S70 × Int := match mi n.toList l with
  | [] => (l, 4)
  | _ :: _ => (lo n.toList l ++ hi n.toList l, 0)
/-- What a crash keeps of a file. -/
def kept (x : S70) (k : Option Int) : Nat := (x.f2 + (match k with | none => 0 | some k => if (if x.f1.length - x.f2 < k then x.f1.length - x.f2 else k) > 0 then (if x.f1.length - x.f2 < k then x.f1.length - x.f2 else k) else 0)).toNat
def crashF (x : S70) (k : Option Int) : S70 := ⟨x.f0, x.f1.take (kept x k), kept x k⟩
def crashS : List S70 → List Int → List S70
  | [], _ => []
  | x :: l, k => crashF x k[0]? :: crashS l k.tail
section
variable {K : Nat} {l : List S70} {n : ByteArray} (hl : l.length ≤ 1000) (hK : 2000 ≤ K)
include hl hK
theorem get_f : disk_Get.f K ⟨l⟩ n = some (getS (own l) n) := by
  have hR := own_RD l
  have hlo := hR.len
  rw [disk_Get.f, own_f hl hK]
  generalize own l = l at *
  rw [Option.bind_some, at_f (by omega) hK hR.srt]
  obtain ⟨p, m, q, e1, e2, e3, e, hp, hq, hm⟩ := split hR n.toList
  unfold getS
  rw [e2, e1]
  simp only [Option.bind_some, condD]
  rcases hm with rfl | ⟨x, rfl, hk, ho⟩
  · rfl
  · have hc : ¬ ([x] : List S70) = [] := by simp
    have h0 : ¬ ((p.length : Int) < 0) := by omega
    have : idxO l (p.length : Int) = some x := by rw [idxN, e]; exact mid_get
    simp only [if_neg hc, if_neg h0, this, Option.bind_some]
theorem put_f {b : List Int} (hb : b.length ≤ 1000000000) : disk_Put.f K ⟨l⟩ n b = some (⟨(putS (own l) n b).1⟩, (putS (own l) n b).2) := by
  have hR := own_RD l
  have hlo := hR.len
  rw [disk_Put.f, own_f hl hK]
  generalize own l = l at *
  rw [Option.bind_some, named_f, Option.bind_some, at_f (by omega) hK hR.srt]
  obtain ⟨p, m, q, e1, e2, e3, e, hp, hq, hm⟩ := split hR n.toList
  unfold putS repl
  simp only [condNot, condD, Option.bind_some]
  by_cases hn : Nm n
  · have hnn : ¬ ¬ Nm n := fun h => h hn
    simp only [if_pos hn, if_neg hnn, e2, e1, e3]
    have elen := congrArg List.length e
    simp only [List.length_append] at elen
    rcases hm with rfl | ⟨x, rfl, hk, ho⟩
    · simp only [List.length_nil, Nat.add_zero] at elen
      have hm1 : (-1 : Int) < 0 := by omega
      have hm2 : ¬ ((-1 : Int) ≥ 0) := by omega
      simp only [if_true, if_pos hm1, if_neg hm2, condB]
      by_cases c1 : l.length = 40
      · have c1' : (l.length : Int) = 40 := by omega
        have c1'' : l.length = 40 ∨ 20000 < b.length := .inl c1
        simp only [if_pos c1', if_pos c1'', c1', if_true, Option.bind_some, beq_self_eq_true, cond_true]
      · have c1' : ¬ (l.length : Int) = 40 := by omega
        simp only [if_neg c1']
        by_cases c2 : 20000 < b.length
        · have c2' : (b.length : Int) > 20000 := by omega
          have c2'' : l.length = 40 ∨ 20000 < b.length := .inr c2
          simp only [if_pos c2', if_pos c2'', Option.bind_some, decide_eq_true c2', cond_true]
        · have c2' : ¬ (b.length : Int) > 20000 := by omega
          have c2'' : ¬ (l.length = 40 ∨ 20000 < b.length) := by omega
          simp only [if_neg c2', if_neg c2'', Option.bind_some, cond_false]
          have hfind := find32_f (K := K) (l := l) (n := n) (by omega) hK hR.srt e2
          rw [e3, e1] at hfind
          have ho8 : (if (if q = [] then (-1 : Int) else (p.length : Int)) < 0 then (some (l.length : Int) : Option Int) else some (if q = [] then (-1 : Int) else (p.length : Int))) = some (p.length : Int) := by
            by_cases hq0 : q = []
            · subst hq0
              simp only [List.length_nil, Nat.add_zero] at elen
              simp only [if_true, if_pos hm1, elen]
            · have h0 : ¬ ((p.length : Int) < 0) := by omega
              simp only [if_neg hq0, if_neg h0]
          have k1 : cutO l (p.length : Int) (l.length : Int) = some q := by rw [cutN (by omega), List.take_length, e]; simp
          have k2 : cutL l (((p.length : Int)).toNat) (((l.length : Int)).toNat) = q := by simp only [cutL, Int.toNat_natCast, List.take_length]; rw [e]; simp
          have k3 : cutO l 0 (p.length : Int) = some p := (cutN (xs := l) (lo := 0) (hi := p.length) (by omega)).trans (by rw [e]; simp)
          have k4 : cutL l ((0 : Int).toNat) (((p.length : Int)).toNat) = p := by simp only [cutL, Int.toNat_natCast]; rw [e]; simp
          have k5 : idxO (p ++ [(⟨n, ([] : List Int), 0⟩ : S70)] ++ ([] ++ q)) (p.length : Int) = some (⟨n, ([] : List Int), 0⟩ : S70) := by rw [idxN]; simp
          have k6 : sepO (fun x : S70 => x.f0.toList) (p ++ [(⟨n, ([] : List Int), 0⟩ : S70)] ++ ([] ++ q)) (p.length : Int) = some () := by
            rw [List.nil_append]
            exact sep_mid hp hq
          simp only [hfind, ho8, k1, k2, k3, k4, Option.bind_some]
          rw [appN (by simp only [List.length_nil]; omega), Option.bind_some, appN (by simp only [List.length_cons, List.length_nil]; omega), Option.bind_some, appN (by simp only [List.length_append, List.length_cons, List.length_nil]; omega), Option.bind_some, k5]
          simp only [Option.bind_some]
          rw [appN (by simp only [List.length_nil]; omega), Option.bind_some, k6, Option.bind_some]
          simp only [Int.toNat_natCast, List.nil_append, mid_set]
    · simp only [List.length_cons, List.length_nil] at elen
      have kx : idxO l (p.length : Int) = some x := by rw [idxN, e]; exact mid_get
      have hc : ¬ ([x] : List S70) = [] := by simp
      have h0 : ¬ ((p.length : Int) < 0) := by omega
      have h1 : (p.length : Int) ≥ 0 := by omega
      simp only [if_neg hc, if_neg h0, if_pos h1, kx, Option.bind_some]
      by_cases c2 : 20000 < b.length
      · have c2' : (b.length : Int) > 20000 := by omega
        have c3 : 20000 < x.f1.length + b.length := by omega
        simp only [if_pos c2', if_pos c3, decide_eq_true c2', Option.bind_some, cond_true]
      · have c2' : ¬ (b.length : Int) > 20000 := by omega
        simp only [if_neg c2', Option.bind_some]
        rw [wrapI (by omega) (by omega)]
        by_cases c3 : 20000 < x.f1.length + b.length
        · have c3' : (x.f1.length : Int) > 20000 - (b.length : Int) := by omega
          simp only [decide_eq_true c3', if_pos c3, cond_true]
        · have c3' : ¬ (x.f1.length : Int) > 20000 - (b.length : Int) := by omega
          have ks : sepO (fun x : S70 => x.f0.toList) l (p.length : Int) = some () := by rw [e]; exact sep_mid (fun y hy => hk ▸ hp y hy) (fun y hy => hk ▸ hq y hy)
          simp only [decide_eq_false c3', if_neg c3, cond_false]
          rw [appN (by omega), Option.bind_some, ks, Option.bind_some]
          simp only [Int.toNat_natCast]
          have : l.set p.length ⟨x.f0, x.f1 ++ b, x.f2⟩ = p ++ [⟨x.f0, x.f1 ++ b, x.f2⟩] ++ q := by
            conv => lhs; rw [e]
            exact mid_set
          rw [this]
  · simp only [if_neg hn, if_pos hn]
theorem sync_f : disk_Sync_f67.f K ⟨l⟩ n = some (⟨(syncS (own l) n).1⟩, (syncS (own l) n).2) := by
  have hR := own_RD l
  have hlo := hR.len
  rw [disk_Sync_f67.f, own_f hl hK]
  generalize own l = l at *
  rw [Option.bind_some, at_f (by omega) hK hR.srt]
  obtain ⟨p, m, q, e1, e2, e3, e, hp, hq, hm⟩ := split hR n.toList
  unfold syncS repl
  rw [e1, e2, e3]
  simp only [Option.bind_some, condD]
  rcases hm with rfl | ⟨x, rfl, hk, ho⟩
  · rfl
  · have kx : idxO l (p.length : Int) = some x := by rw [idxN, e]; exact mid_get
    have hc : ¬ ([x] : List S70) = [] := by simp
    have h0 : ¬ ((p.length : Int) < 0) := by omega
    simp only [if_neg hc, if_neg h0, kx, Option.bind_some, Int.toNat_natCast]
    have : l.set p.length ⟨x.f0, x.f1, (x.f1.length : Int)⟩ = p ++ [⟨x.f0, x.f1, (x.f1.length : Int)⟩] ++ q := by
      conv => lhs; rw [e]
      exact mid_set
    rw [this]
theorem cut_f {c : Int} : disk_Cut.f K ⟨l⟩ n c = some (⟨(cutS (own l) n c).1⟩, (cutS (own l) n c).2) := by
  have hR := own_RD l
  have hlo := hR.len
  rw [disk_Cut.f, own_f hl hK]
  generalize own l = l at *
  rw [Option.bind_some, at_f (by omega) hK hR.srt]
  obtain ⟨p, m, q, e1, e2, e3, e, hp, hq, hm⟩ := split hR n.toList
  unfold cutS repl
  rw [e1, e2, e3]
  simp only [Option.bind_some, condD]
  rcases hm with rfl | ⟨x, rfl, hk, ho⟩
  · rfl
  · have kx : idxO l (p.length : Int) = some x := by rw [idxN, e]; exact mid_get
    have hc : ¬ ([x] : List S70) = [] := by simp
    have h0 : ¬ ((p.length : Int) < 0) := by omega
    simp only [if_neg hc, if_neg h0, kx, Option.bind_some, Int.toNat_natCast]
    by_cases c1 : c < 0
    · have c1' : c < 0 ∨ (x.f1.length : Int) < c := .inl c1
      simp only [if_pos c1, if_pos c1']
    · simp only [if_neg c1]
      by_cases c2 : c > (x.f1.length : Int)
      · have c1' : c < 0 ∨ (x.f1.length : Int) < c := .inr c2
        simp only [if_pos c2, if_pos c1']
      · obtain ⟨j, rfl⟩ := Int.eq_ofNat_of_zero_le (show 0 ≤ c by omega)
        have k1 : cutO x.f1 0 (j : Int) = some (x.f1.take j) := (cutN (xs := x.f1) (lo := 0) (hi := j) (by omega)).trans (by simp)
        have k2 : cutL x.f1 ((0 : Int).toNat) j = x.f1.take j := by simp [cutL]
        have c1' : ¬ ((j : Int) < 0 ∨ (x.f1.length : Int) < (j : Int)) := by omega
        simp only [if_neg c2, if_neg c1', k1, k2, Option.bind_some, Int.toNat_natCast]
        have : (l.set p.length ⟨x.f0, x.f1.take j, x.f2⟩).set p.length ⟨x.f0, x.f1.take j, (j : Int)⟩ = p ++ [⟨x.f0, x.f1.take j, (j : Int)⟩] ++ q := by
          rw [List.set_set]
          conv => lhs; rw [e]
          exact mid_set
        rw [this]
theorem drop_f : disk_Drop_f66.f K ⟨l⟩ n = some (⟨(dropS (own l) n).1⟩, (dropS (own l) n).2) := by
  have hR := own_RD l
  have hlo := hR.len
  rw [disk_Drop_f66.f, own_f hl hK]
  generalize own l = l at *
  rw [Option.bind_some, at_f (by omega) hK hR.srt]
  obtain ⟨p, m, q, e1, e2, e3, e, hp, hq, hm⟩ := split hR n.toList
  unfold dropS
  rw [e1, e2, e3]
  simp only [Option.bind_some, condD]
  rcases hm with rfl | ⟨x, rfl, hk, ho⟩
  · rfl
  · have elen := congrArg List.length e
    simp only [List.length_append, List.length_cons, List.length_nil] at elen
    have hc : ¬ ([x] : List S70) = [] := by simp
    have h0 : ¬ ((p.length : Int) < 0) := by omega
    simp only [if_neg hc, if_neg h0]
    have hw : IntKind.wrap .i64 ((p.length : Int) + 1) = ((p.length + 1 : Nat) : Int) := by rw [wrapI (by omega) (by omega)]; omega
    have k1 : cutO l 0 (p.length : Int) = some p := (cutN (xs := l) (lo := 0) (hi := p.length) (by omega)).trans (by rw [e]; simp)
    have k2 : cutL l ((0 : Int).toNat) (((p.length : Int)).toNat) = p := by simp only [cutL, Int.toNat_natCast]; rw [e]; simp
    have k3 : cutO l ((p.length + 1 : Nat) : Int) (l.length : Int) = some q := by rw [cutN (by omega), List.take_length, e]; simp
    have k4 : cutL l ((((p.length + 1 : Nat) : Int)).toNat) (((l.length : Int)).toNat) = q := by simp only [cutL, Int.toNat_natCast, List.take_length]; rw [e]; simp
    rw [hw, k1, k2, k3, k4]
    simp only [Option.bind_some]
    rw [appN (by omega)]
    rfl
omit hl hK in
theorem kept_le {x : S70} (ho : okF x) (k : Option Int) : x.f2 ≤ kept x k ∧ kept x k ≤ x.f1.length := by
  obtain ⟨_, _, h1, h2⟩ := ho
  unfold kept
  cases k with
  | none => simp only; omega
  | some k => simp only; split <;> (try split) <;> omega
omit hl hK in
theorem crash_len : ∀ (l : List S70) (k : List Int), (crashS l k).length = l.length
  | [], _ => rfl
  | x :: l, k => by simp [crashS, crash_len l]
omit hl hK in
theorem crash_loop {keep : List Int} (hk : keep.length ≤ 1000000) (x1 : S24) (hx1 : x1.f0.length ≤ 40) : ∀ (rest done : List S70) (k : Nat), (∀ x ∈ rest, okF x) → done.length + rest.length = x1.f0.length → rest.length < k →
    disk_Crash.l1 K keep x1 k (done ++ rest, (done.length : Int)) = some ⟨done ++ crashS rest (keep.drop done.length)⟩ := by
  intro rest
  induction rest with
  | nil =>
    intro done k _ h1 h2
    obtain ⟨k, rfl⟩ : ∃ j, k = j + 1 := ⟨k - 1, by omega⟩
    rw [disk_Crash.l1]
    simp only [List.length_nil, Nat.add_zero] at h1
    have hlt : ¬ ((done.length : Int) < (x1.f0.length : Int)) := by omega
    simp only [condD, if_neg hlt, crashS]
  | cons x rest ih =>
    intro done k ho h1 h2
    obtain ⟨k, rfl⟩ : ∃ j, k = j + 1 := ⟨k - 1, by omega⟩
    simp only [List.length_cons] at h1 h2
    have hox := ho x List.mem_cons_self
    obtain ⟨_, o1, o2, o3⟩ := hox
    rw [disk_Crash.l1]
    have hlt : ((done.length : Int) < (x1.f0.length : Int)) := by omega
    have hget : (done ++ x :: rest)[done.length]? = some x := by simp
    have hn : IntKind.wrap .i64 ((done.length : Int) + 1) = ((done.length + 1 : Nat) : Int) := by rw [wrapI (by omega) (by omega)]; omega
    have hw : IntKind.wrap .i64 ((x.f1.length : Int) - x.f2) = (x.f1.length : Int) - x.f2 := wrapI (by omega) (by omega)
    have hkeep : (keep.drop done.length)[0]? = keep[done.length]? := by rw [List.getElem?_drop, Nat.add_zero]
    have hkept := kept_le (x := x) (ho x List.mem_cons_self) keep[done.length]?
    have hnum : (if (done.length : Int) < (keep.length : Int) then (keep[done.length]?).bind fun x7_2 => some (if (if (x.f1.length : Int) - x.f2 < x7_2 then (x.f1.length : Int) - x.f2 else x7_2) > 0 then (if (x.f1.length : Int) - x.f2 < x7_2 then (x.f1.length : Int) - x.f2 else x7_2) else 0) else some 0) = some ((kept x keep[done.length]? : Int) - x.f2) := by
      by_cases hd : done.length < keep.length
      · have hd' : (done.length : Int) < (keep.length : Int) := by omega
        rw [if_pos hd', List.getElem?_eq_getElem hd]
        simp only [Option.bind_some, Option.some.injEq]
        unfold kept
        simp only
        split <;> (try split) <;> omega
      · have hd' : ¬ (done.length : Int) < (keep.length : Int) := by omega
        rw [if_neg hd', List.getElem?_eq_none (by omega)]
        unfold kept
        simp only [Option.some.injEq]
        omega
    simp only [condD, if_pos hlt, idxN, hget, Option.bind_some, hw, hn]
    rw [hnum]
    simp only [Option.bind_some]
    have hs : IntKind.wrap .i64 (((kept x keep[done.length]? : Int) - x.f2) + x.f2) = ((kept x keep[done.length]? : Nat) : Int) := by rw [wrapI (by omega) (by omega)]; omega
    rw [hs]
    have c1 : cutO x.f1 0 ((kept x keep[done.length]? : Nat) : Int) = some (x.f1.take (kept x keep[done.length]?)) := (cutN (xs := x.f1) (lo := 0) (hi := kept x keep[done.length]?) (by omega)).trans (by simp)
    have c2 : cutL x.f1 ((0 : Int).toNat) (kept x keep[done.length]?) = x.f1.take (kept x keep[done.length]?) := by simp [cutL]
    simp only [c1, c2, Option.bind_some, Int.toNat_natCast]
    have e : ((done ++ x :: rest).set done.length ⟨x.f0, x.f1.take (kept x keep[done.length]?), x.f2⟩).set done.length ⟨x.f0, x.f1.take (kept x keep[done.length]?), ((kept x keep[done.length]? : Nat) : Int)⟩ = (done ++ [crashF x keep[done.length]?]) ++ rest := by
      rw [List.set_set]
      simp [crashF]
    rw [e]
    have := ih (done ++ [crashF x keep[done.length]?]) k (fun y hy => ho y (List.mem_cons_of_mem _ hy)) (by simp only [List.length_append, List.length_cons, List.length_nil]; omega) (by omega)
    simp only [List.length_append, List.length_cons, List.length_nil, Nat.zero_add] at this
    rw [this]
    simp only [crashS, hkeep, List.append_assoc, List.singleton_append, List.tail_drop]
theorem crash_f {keep : List Int} (hk : keep.length ≤ 1000000) : disk_Crash.f K ⟨l⟩ keep = some ⟨crashS (own l) keep⟩ := by
  have hR := own_RD l
  have hlo := hR.len
  rw [disk_Crash.f, own_f hl hK]
  generalize own l = l at *
  have := crash_loop (K := K) hk ⟨l⟩ hlo l [] K hR.ok (by simp) (by omega)
  simpa using this
theorem names_f : disk_Names.f K ⟨l⟩ = some ((own l).map (·.f0)) := by
  have hR := own_RD l
  have hlo := hR.len
  rw [disk_Names.f, own_f hl hK]
  generalize own l = l at *
  have key : ∀ (k i : Nat) (acc : List ByteArray), i ≤ l.length → l.length < k + i → acc.length ≤ i → disk_Names.l1 K ⟨l⟩ k (acc, (i : Int)) = some (acc ++ (l.drop i).map (·.f0)) := by
    intro k
    induction k with
    | zero => intro i acc h1 h2; omega
    | succ k ih =>
      intro i acc h1 h2 h3
      rw [disk_Names.l1]
      by_cases hi : i < l.length
      · have hx : l[i]? = some l[i] := List.getElem?_eq_getElem hi
        have hlt : ((i : Int) < (l.length : Int)) := by omega
        have hn : IntKind.wrap .i64 ((i : Int) + 1) = ((i + 1 : Nat) : Int) := by rw [wrapI (by omega) (by omega)]; omega
        simp only [condD, if_pos hlt, idxN, hx, Option.bind_some, hn]
        rw [appN (by simp only [List.length_cons, List.length_nil]; omega), Option.bind_some, ih (i + 1) _ hi (by omega) (by simp only [List.length_append, List.length_cons, List.length_nil]; omega), List.drop_eq_getElem_cons hi, List.map_cons]
        simp only [List.append_assoc, List.singleton_append]
      · have hlt : ¬ ((i : Int) < (l.length : Int)) := by omega
        simp only [condD, if_neg hlt, List.drop_eq_nil_of_le (show l.length ≤ i by omega), List.map_nil, List.append_nil]
  have := key K 0 [] (by omega) (by omega) (by simp)
  simpa using this
end
end Go.Proofs.Ytkcpbehgjbionaa.Pure
