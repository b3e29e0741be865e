/- Disks: which are right, and where a name stands. -/
import Derived.Test.YtkcpbehgjbionaaBase
set_option linter.unusedVariables false
set_option linter.unusedSimpArgs false
namespace Go.Proofs.Ytkcpbehgjbionaa.Pure
open Go Go.RowKit Go.Hw Go.Proofs.Ytkcpbehgjbionaa.G
abbrev bl (x y : List UInt8) : Prop := Op.bytesLess x y = true
theorem bl_irrefl : ∀ x : List UInt8, ¬ bl x x
  | [] => by simp [bl, Op.bytesLess]
  | a :: x => by
    have := bl_irrefl x
    simp only [bl, Op.bytesLess, Bool.or_eq_true, decide_eq_true_eq, Bool.and_eq_true, beq_self_eq_true, true_and, not_or] at this ⊢
    exact ⟨UInt8.lt_irrefl a, this⟩
theorem bl_cons {a b : UInt8} {x y : List UInt8} : bl (a :: x) (b :: y) ↔ a < b ∨ (a = b ∧ bl x y) := by
  simp only [bl, Op.bytesLess, Bool.or_eq_true, decide_eq_true_eq, Bool.and_eq_true, beq_iff_eq]
theorem bl_trans : ∀ {x y z : List UInt8}, bl x y → bl y z → bl x z
  | x, [], z, h, _ => by cases x <;> simp [bl, Op.bytesLess] at h
  | x, b :: y, [], _, h => by simp [bl, Op.bytesLess] at h
  | [], b :: y, c :: z, _, _ => by simp [bl, Op.bytesLess]
  | a :: x, b :: y, c :: z, h, k => by
    rw [bl_cons] at h k ⊢
    rcases h with h | ⟨rfl, h⟩ <;> rcases k with k | ⟨rfl, k⟩
    · exact .inl (UInt8.lt_trans h k)
    · exact .inl h
    · exact .inl k
    · exact .inr ⟨rfl, bl_trans h k⟩
theorem bl_tri : ∀ x y : List UInt8, x = y ∨ bl x y ∨ bl y x
  | [], [] => .inl rfl
  | [], b :: y => .inr (.inl (by simp [bl, Op.bytesLess]))
  | a :: x, [] => .inr (.inr (by simp [bl, Op.bytesLess]))
  | a :: x, b :: y => by
    rw [bl_cons, bl_cons]
    rcases Nat.lt_trichotomy a.toNat b.toNat with h | h | h
    · exact .inr (.inl (.inl (UInt8.lt_iff_toNat_lt.2 h)))
    · have : a = b := UInt8.toNat_inj.1 h
      subst this
      rcases bl_tri x y with h | h | h
      · exact .inl (by rw [h])
      · exact .inr (.inl (.inr ⟨rfl, h⟩))
      · exact .inr (.inr (.inr ⟨rfl, h⟩))
    · exact .inr (.inr (.inl (UInt8.lt_iff_toNat_lt.2 h)))
theorem bl_asymm {x y : List UInt8} (h : bl x y) : ¬ bl y x := fun k => bl_irrefl x (bl_trans h k)
theorem bl_ne {x y : List UInt8} (h : bl x y) : x ≠ y := fun e => bl_irrefl x (by rw [← e] at h; exact h)
theorem not_bl {x y : List UInt8} : ¬ bl x y ↔ y = x ∨ bl y x := by
  constructor
  · intro h
    rcases bl_tri x y with h1 | h1 | h1
    · exact .inl h1.symm
    · exact absurd h1 h
    · exact .inr h1
  · rintro (h | h)
    · rw [h]; exact bl_irrefl _
    · exact bl_asymm h
theorem toList_inj {a b : ByteArray} (h : a.toList = b.toList) : a = b := by
  rw [ByteArray.toList_eq, ByteArray.toList_eq] at h
  cases a; cases b
  simp_all
theorem toList_size (a : ByteArray) : a.toList.length = a.size := by rw [ByteArray.toList_eq]; simp
abbrev key (x : S70) : List UInt8 := x.f0.toList
def Nm (n : ByteArray) : Prop := 1 ≤ n.size ∧ n.size ≤ 16
instance (n : ByteArray) : Decidable (Nm n) := by unfold Nm; infer_instance
def okF (x : S70) : Prop := Nm x.f0 ∧ x.f1.length ≤ 20000 ∧ 0 ≤ x.f2 ∧ x.f2 ≤ x.f1.length
abbrev Srt (l : List S70) : Prop := l.Pairwise (fun a b => bl (key a) (key b))
structure RD (l : List S70) : Prop where
  len : l.length ≤ 40
  srt : Srt l
  ok : ∀ x ∈ l, okF x
noncomputable instance (l : List S70) : Decidable (RD l) := Classical.propDecidable _
theorem named_f (K : Nat) (n : ByteArray) : disk_named.f K n = some (decide (Nm n)) := by
  unfold disk_named.f Nm
  by_cases h1 : 1 ≤ n.size
  · have : (n.size : Int) ≥ 1 := by omega
    by_cases h2 : n.size ≤ 16
    · have : (n.size : Int) ≤ 16 := by omega
      simp [*]
    · have : ¬ (n.size : Int) ≤ 16 := by omega
      simp [*]
  · have : ¬ (n.size : Int) ≥ 1 := by omega
    simp [*]
def Ch (b : List UInt8) : List S70 → Prop
  | [] => True
  | x :: r => Nm x.f0 ∧ bl b (key x) ∧ x.f1.length ≤ 20000 ∧ 0 ≤ x.f2 ∧ x.f2 ≤ x.f1.length ∧ Ch (key x) r
theorem Ch_iff : ∀ (l : List S70) (b : List UInt8), Ch b l ↔ Srt l ∧ (∀ x ∈ l, okF x) ∧ ∀ x ∈ l, bl b (key x)
  | [], b => by simp [Ch]
  | x :: l, b => by
    simp only [Ch, Ch_iff l (key x), List.pairwise_cons, List.mem_cons, forall_eq_or_imp, okF]
    constructor
    · rintro ⟨h1, h2, h3, h4, h5, h6, h7, h8⟩
      exact ⟨⟨h8, h6⟩, ⟨⟨h1, h3, h4, h5⟩, h7⟩, h2, fun y hy => bl_trans h2 (h8 y hy)⟩
    · rintro ⟨⟨h8, h6⟩, ⟨⟨h1, h3, h4, h5⟩, h7⟩, h2, _⟩
      exact ⟨h1, h2, h3, h4, h5, h6, h7, h8⟩
theorem bl_nil {x : List UInt8} : bl [] x ↔ x ≠ [] := by cases x <;> simp [bl, Op.bytesLess]
theorem RD_iff (l : List S70) : RD l ↔ Ch [] l ∧ l.length ≤ 40 := by
  rw [Ch_iff]
  constructor
  · intro h
    refine ⟨⟨h.srt, h.ok, fun x hx => bl_nil.2 (fun e => ?_)⟩, h.len⟩
    have h1 := (h.ok x hx).1.1
    rw [← toList_size, show x.f0.toList = [] from e] at h1
    simp at h1
  · rintro ⟨⟨h1, h2, _⟩, h3⟩
    exact ⟨h3, h1, h2⟩
noncomputable instance (b : List UInt8) (l : List S70) : Decidable (Ch b l) := Classical.propDecidable _
theorem right_loop (K : Nat) (l : List S70) (hl : l.length ≤ 1000000) : ∀ (k i : Nat) (b : ByteArray), i ≤ l.length → l.length < k + i → disk_Right.l1 K ⟨l⟩ k (b, (i : Int)) = some (decide (Ch b.toList (l.drop i)) && decide (l.length ≤ 40)) := by
  intro k
  induction k with
  | zero => intro i b h1 h2; omega
  | succ k ih =>
    intro i b h1 h2
    rw [disk_Right.l1]
    by_cases hi : i < l.length
    · have hx : l[i]? = some l[i] := List.getElem?_eq_getElem hi
      have hlt : ((i : Int) < (l.length : Int)) := by omega
      have hn : IntKind.wrap .i64 ((i : Int) + 1) = ((i + 1 : Nat) : Int) := by rw [wrapI (by omega) (by omega)]; omega
      rw [List.drop_eq_getElem_cons hi]
      simp only [condD, if_pos hlt, idxN, hx, Option.bind_some, named_f, condNot, hn]
      by_cases c1 : Nm l[i].f0
      · by_cases c2 : bl b.toList (key l[i])
        · have e2 : (Op.bytesLess l[i].f0.toList b.toList || l[i].f0.toList == b.toList) = false := by
            rw [Bool.or_eq_false_iff]
            refine ⟨by simpa [bl] using bl_asymm c2, by simpa using (bl_ne c2).symm⟩
          by_cases c3 : l[i].f1.length ≤ 20000
          · have e3 : ¬ ((l[i].f1.length : Int) > 20000) := by omega
            by_cases c4 : 0 ≤ l[i].f2
            · have e4 : ¬ (l[i].f2 < 0) := by omega
              by_cases c5 : l[i].f2 ≤ l[i].f1.length
              · have e5 : ¬ (l[i].f2 > (l[i].f1.length : Int)) := by omega
                simp only [if_pos c1, e2, cond_false, if_neg e3, if_neg e4, if_neg e5]
                rw [ih (i + 1) l[i].f0 hi (by omega)]
                congr 2
                apply decide_eq_decide.2
                exact ⟨fun h => ⟨c1, c2, c3, c4, c5, h⟩, fun h => h.2.2.2.2.2⟩
              · have e5 : (l[i].f2 > (l[i].f1.length : Int)) := by omega
                simp only [if_pos c1, e2, cond_false, if_neg e3, if_neg e4, if_pos e5]
                have : ¬ Ch b.toList (l[i] :: l.drop (i + 1)) := fun h => c5 h.2.2.2.2.1
                rw [decide_eq_false this]; rfl
            · have e4 : (l[i].f2 < 0) := by omega
              simp only [if_pos c1, e2, cond_false, if_neg e3, if_pos e4]
              have : ¬ Ch b.toList (l[i] :: l.drop (i + 1)) := fun h => c4 h.2.2.2.1
              rw [decide_eq_false this]; rfl
          · have e3 : ((l[i].f1.length : Int) > 20000) := by omega
            simp only [if_pos c1, e2, cond_false, if_pos e3]
            have : ¬ Ch b.toList (l[i] :: l.drop (i + 1)) := fun h => c3 h.2.2.1
            rw [decide_eq_false this]; rfl
        · have e2 : (Op.bytesLess l[i].f0.toList b.toList || l[i].f0.toList == b.toList) = true := by
            rw [Bool.or_eq_true]
            rcases not_bl.1 c2 with h | h
            · exact .inr (by simpa using h)
            · exact .inl h
          simp only [if_pos c1, e2, cond_true]
          have : ¬ Ch b.toList (l[i] :: l.drop (i + 1)) := fun h => c2 h.2.1
          rw [decide_eq_false this]; rfl
      · simp only [if_neg c1]
        have : ¬ Ch b.toList (l[i] :: l.drop (i + 1)) := fun h => c1 h.1
        rw [decide_eq_false this]; rfl
    · have hlt : ¬ ((i : Int) < (l.length : Int)) := by omega
      simp only [condD, if_neg hlt, List.drop_eq_nil_of_le (show l.length ≤ i by omega), Ch, decide_true, Bool.true_and]
      congr 1
      apply decide_eq_decide.2
      omega
theorem nil_toList : (⟨#[]⟩ : ByteArray).toList = [] := by rw [ByteArray.toList_eq]
theorem right_f {K : Nat} {l : List S70} (hl : l.length ≤ 1000) (hK : 2000 ≤ K) : disk_Right.f K ⟨l⟩ = some (decide (RD l)) := by
  have := right_loop K l (by omega) K 0 ⟨#[]⟩ (by omega) (by omega)
  rw [disk_Right.f, show (0 : Int) = ((0 : Nat) : Int) from rfl, this]
  congr 1
  rw [List.drop_zero, ← Bool.decide_and]
  apply decide_eq_decide.2
  rw [RD_iff, nil_toList]
noncomputable def own (l : List S70) : List S70 := if RD l then l else []
theorem RD_nil : RD [] := ⟨by simp, by simp, by simp⟩
theorem own_RD (l : List S70) : RD (own l) := by
  unfold own
  split
  · assumption
  · exact RD_nil
theorem own_of {l : List S70} (h : RD l) : own l = l := by simp [own, h]
theorem own_loop (K : Nat) {l : List S70} (h : RD l) : ∀ (k i : Nat) (acc : List S70), i ≤ l.length → l.length < k + i → acc.length ≤ i → disk_own.l2 K ⟨l⟩ k ((i : Int), acc) = some ⟨acc ++ l.drop i⟩ := by
  intro k
  have hl := h.len
  induction k with
  | zero => intro i acc h1 h2; omega
  | succ k ih =>
    intro i acc h1 h2 h3
    rw [disk_own.l2]
    by_cases hi : i < l.length
    · have hx : l[i]? = some l[i] := List.getElem?_eq_getElem hi
      have hlt : ((i : Int) < (l.length : Int)) := by omega
      have hn : IntKind.wrap .i64 ((i : Int) + 1) = ((i + 1 : Nat) : Int) := by rw [wrapI (by omega) (by omega)]; omega
      have ho := (h.ok _ (List.getElem_mem hi)).2.1
      simp only [condD, if_pos hlt, idxN, hx, Option.bind_some, hn]
      rw [appN (by simp only [List.length_nil]; omega), Option.bind_some, appN (by simp only [List.length_cons, List.length_nil]; omega), Option.bind_some, List.drop_eq_getElem_cons hi, List.nil_append]
      rw [show (⟨l[i].f0, l[i].f1, l[i].f2⟩ : S70) = l[i] from rfl, ih (i + 1) _ hi (by omega) (by simp only [List.length_append, List.length_cons, List.length_nil]; omega)]
      simp
    · have hlt : ¬ ((i : Int) < (l.length : Int)) := by omega
      simp only [condD, if_neg hlt, List.drop_eq_nil_of_le (show l.length ≤ i by omega), List.append_nil]
theorem own_f {K : Nat} {l : List S70} (hl : l.length ≤ 1000) (hK : 2000 ≤ K) : disk_own.f K ⟨l⟩ = some ⟨own l⟩ := by
  rw [disk_own.f, right_f hl hK]
  simp only [Option.bind_some, condNot, condD]
  by_cases h : RD l
  · have := own_loop K h K 0 [] (by omega) (by omega) (by simp)
    rw [if_pos h, show (0 : Int) = ((0 : Nat) : Int) from rfl, this, own_of h]
    simp
  · rw [if_neg h]
    simp [own, h]
/-! Where a name stands. -/
def lo (n : List UInt8) (l : List S70) : List S70 := l.filter (fun x => Op.bytesLess (key x) n)
def mi (n : List UInt8) (l : List S70) : List S70 := l.filter (fun x => key x == n)
def hi (n : List UInt8) (l : List S70) : List S70 := l.filter (fun x => Op.bytesLess n (key x))
theorem parts {l : List S70} (h : Srt l) (n : List UInt8) : l = lo n l ++ mi n l ++ hi n l ∧ (mi n l = [] ∨ ∃ x, mi n l = [x] ∧ key x = n) := by
  induction l with
  | nil => exact ⟨rfl, .inl rfl⟩
  | cons x l ih =>
    obtain ⟨h1, h2⟩ := List.pairwise_cons.1 h
    obtain ⟨e, hm⟩ := ih h2
    rcases bl_tri (key x) n with hk | hk | hk
    · have a1 : Op.bytesLess (key x) n = false := by simpa [bl] using (hk ▸ bl_irrefl (key x) : ¬ bl (key x) n)
      have a2 : Op.bytesLess n (key x) = false := by simpa [bl] using (hk ▸ bl_irrefl (key x) : ¬ bl n (key x))
      have l0 : lo n l = [] := List.filter_eq_nil_iff.2 (fun y hy => by
        have := bl_asymm (hk ▸ h1 y hy : bl n (key y))
        simpa [bl] using this)
      have m0 : mi n l = [] := List.filter_eq_nil_iff.2 (fun y hy => by
        have := bl_ne (hk ▸ h1 y hy : bl n (key y))
        simpa using this.symm)
      have a3 : (key x == n) = true := by simpa using hk
      have e1 : lo n (x :: l) = [] := by show List.filter _ _ = _; rw [List.filter_cons_of_neg (by simp [a1])]; exact l0
      have e2 : mi n (x :: l) = [x] := by show List.filter _ _ = _; rw [List.filter_cons_of_pos (p := fun x => key x == n) a3]; exact congrArg _ m0
      have e3 : hi n (x :: l) = hi n l := by show List.filter _ _ = _; rw [List.filter_cons_of_neg (by simp [a2])]; rfl
      rw [l0, m0] at e
      rw [e1, e2, e3]
      exact ⟨by rw [← show l = hi n l from e]; rfl, .inr ⟨x, rfl, hk⟩⟩
    · have a2 : Op.bytesLess n (key x) = false := by simpa [bl] using bl_asymm hk
      have a3 : (key x == n) = false := by simpa using bl_ne hk
      have e1 : lo n (x :: l) = x :: lo n l := by show List.filter _ _ = _; rw [List.filter_cons_of_pos (p := fun x => Op.bytesLess (key x) n) hk]; rfl
      have e2 : mi n (x :: l) = mi n l := by show List.filter _ _ = _; rw [List.filter_cons_of_neg (by simp [a3])]; rfl
      have e3 : hi n (x :: l) = hi n l := by show List.filter _ _ = _; rw [List.filter_cons_of_neg (by simp [a2])]; rfl
      rw [e1, e2, e3]
      exact ⟨by rw [List.cons_append, List.cons_append, ← e], hm⟩
    · have a1 : Op.bytesLess (key x) n = false := by simpa [bl] using bl_asymm hk
      have a3 : (key x == n) = false := by simpa using (bl_ne hk).symm
      have hh : ∀ y ∈ l, bl n (key y) := fun y hy => bl_trans hk (h1 y hy)
      have l0 : lo n l = [] := List.filter_eq_nil_iff.2 (fun y hy => by simpa [bl] using bl_asymm (hh y hy))
      have m0 : mi n l = [] := List.filter_eq_nil_iff.2 (fun y hy => by simpa using (bl_ne (hh y hy)).symm)
      have e1 : lo n (x :: l) = [] := by show List.filter _ _ = _; rw [List.filter_cons_of_neg (by simp [a1])]; exact l0
      have e2 : mi n (x :: l) = [] := by show List.filter _ _ = _; rw [List.filter_cons_of_neg (by simp [a3])]; exact m0
      have e3 : hi n (x :: l) = x :: hi n l := by show List.filter _ _ = _; rw [List.filter_cons_of_pos (p := fun x => Op.bytesLess n (key x)) hk]; rfl
      rw [l0, m0] at e
      rw [e1, e2, e3]
      exact ⟨by rw [← show l = hi n l from e]; rfl, .inl rfl⟩
theorem lo_bl {n : List UInt8} {l : List S70} {x : S70} (h : x ∈ lo n l) : bl (key x) n := (List.mem_filter.1 h).2
theorem hi_bl {n : List UInt8} {l : List S70} {x : S70} (h : x ∈ hi n l) : bl n (key x) := (List.mem_filter.1 h).2
theorem lo_mem {n : List UInt8} {l : List S70} {x : S70} (h : x ∈ lo n l) : x ∈ l := (List.mem_filter.1 h).1
theorem hi_mem {n : List UInt8} {l : List S70} {x : S70} (h : x ∈ hi n l) : x ∈ l := (List.mem_filter.1 h).1
theorem mi_mem {n : List UInt8} {l : List S70} {x : S70} (h : x ∈ mi n l) : x ∈ l := (List.mem_filter.1 h).1
theorem mi_key {n : List UInt8} {l : List S70} {x : S70} (h : x ∈ mi n l) : key x = n := by simpa using (List.mem_filter.1 h).2
theorem lo_srt {l : List S70} (h : Srt l) (n : List UInt8) : Srt (lo n l) := h.sublist List.filter_sublist
theorem hi_srt {l : List S70} (h : Srt l) (n : List UInt8) : Srt (hi n l) := h.sublist List.filter_sublist
/-- The parts of a disk that was put together so. -/
theorem parts_of {p m q : List S70} {n : List UInt8} (hp : ∀ x ∈ p, bl (key x) n) (hm : ∀ x ∈ m, key x = n) (hq : ∀ x ∈ q, bl n (key x)) : lo n (p ++ m ++ q) = p ∧ mi n (p ++ m ++ q) = m ∧ hi n (p ++ m ++ q) = q := by
  have all : ∀ {f : S70 → Bool} {l : List S70}, (∀ x ∈ l, f x = true) → l.filter f = l := fun h => List.filter_eq_self.2 h
  have none : ∀ {f : S70 → Bool} {l : List S70}, (∀ x ∈ l, f x = false) → l.filter f = [] := fun h => List.filter_eq_nil_iff.2 (fun x hx => by rw [h x hx]; simp)
  have ff : ∀ {b : Bool}, ¬ b = true → b = false := fun h => by simpa using h
  refine ⟨?_, ?_, ?_⟩
  · show List.filter _ _ = _
    rw [List.filter_append, List.filter_append, all (fun x hx => hp x hx), none (fun x hx => ff (by rw [hm x hx]; exact bl_irrefl n)), none (fun x hx => ff (bl_asymm (hq x hx)))]
    simp
  · show List.filter _ _ = _
    rw [List.filter_append, List.filter_append, none (fun x hx => by simpa using bl_ne (hp x hx)), all (fun x hx => by simpa using hm x hx), none (fun x hx => by simpa using (bl_ne (hq x hx)).symm)]
    simp
  · show List.filter _ _ = _
    rw [List.filter_append, List.filter_append, none (fun x hx => ff (bl_asymm (hp x hx))), none (fun x hx => ff (by rw [hm x hx]; exact bl_irrefl n)), all (fun x hx => hq x hx)]
    simp
end Go.Proofs.Ytkcpbehgjbionaa.Pure
