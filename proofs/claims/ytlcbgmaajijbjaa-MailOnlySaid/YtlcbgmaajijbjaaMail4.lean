/- Mails, in plain Lean: what the program's reader reads. -/
import Derived.Test.YtlcbgmaajijbjaaMail3
set_option linter.unusedVariables false
set_option linter.unusedSimpArgs false
namespace Go.Proofs.Ytlcbgmaajijbjaa.Pure
open Go Go.RowKit Go.Hw Go.Proofs.Ytlcbgmaajijbjaa.G
def R (x : Int) : Prop := -9223372036854775808 ≤ x ∧ x ≤ 9223372036854775807
def Rl (l : List Int) : Prop := ∀ x ∈ l, R x
theorem Rl_cons {x : Int} {l : List Int} : Rl (x :: l) ↔ R x ∧ Rl l := by simp [Rl]
theorem wrap_back {x : Int} (h : R x) : IntKind.wrap .i64 (x % 18446744073709551616) = x := by
  obtain ⟨h1, h2⟩ := h
  simp only [IntKind.wrap, IntKind.signed, IntKind.bits]
  simp
  omega
theorem wrap_R (x : Int) : R (IntKind.wrap .i64 x) := by
  unfold R
  simp only [IntKind.wrap, IntKind.signed, IntKind.bits]
  simp
  omega
/-- Any bytes are those of some numbers, and less than eight more. -/
theorem bytes_split : ∀ (n : Nat) (b : List Int), Bytes b → b.length ≤ n → ∃ l t, b = Wl l ++ t ∧ t.length < 8 ∧ Bytes t ∧ Rl l := by
  intro n
  induction n with
  | zero =>
    intro b hb hn
    have := List.eq_nil_of_length_eq_zero (show b.length = 0 by omega)
    subst this
    exact ⟨[], [], rfl, by simp, Bytes.nil, by simp [Rl]⟩
  | succ n ih =>
    intro b hb hn
    by_cases h : b.length < 8
    · exact ⟨[], b, rfl, h, hb, by simp [Rl]⟩
    · obtain ⟨l, t, e, ht, hbt, hl⟩ := ih (b.drop 8) (hb.drop 8) (by rw [List.length_drop]; omega)
      have h8 : (b.take 8).length = 8 := by rw [List.length_take]; omega
      have hv := val8_bd (hb.take 8) h8
      refine ⟨IntKind.wrap .i64 (val 0 (b.take 8)) :: l, t, ?_, ht, hbt, Rl_cons.2 ⟨wrap_R _, hl⟩⟩
      have e8 : be8 (IntKind.wrap .i64 (val 0 (b.take 8))) = b.take 8 := by
        have hm : IntKind.wrap .i64 (val 0 (b.take 8)) % 18446744073709551616 = val 0 (b.take 8) := by
          obtain ⟨v1, v2⟩ := hv
          generalize val 0 (b.take 8) = v at v1 v2
          simp only [IntKind.wrap, IntKind.signed, IntKind.bits]
          simp
          omega
        rw [← be8_mod, hm, be8_val (hb.take 8) h8]
      rw [Wl_cons, e8, List.append_assoc, ← e, List.take_append_drop]
/-- A reader that stands ahead of some numbers, or is bad. -/
def Ok (t : List Int) (s : S60) : Option (List Int) → Prop
  | some l => s = ⟨Wl l ++ t, false⟩ ∧ Rl l ∧ l.length ≤ 1000
  | none => s.f1 = true ∧ Bytes s.f0 ∧ s.f0.length ≤ 10000
def Res {α : Type} (o : Option (List Int)) (p : List Int → Option (α × List Int)) (a : α) (o' : Option (List Int)) : Prop := o.bind p = o'.map (fun l => (a, l))
theorem Res_bind {α β : Type} {o o' : Option (List Int)} {p : List Int → Option (α × List Int)} {a : α} (h : Res o p a o') (F : α × List Int → Option β) : (o.bind fun l => (p l).bind F) = o'.bind fun l => F (a, l) := by
  have : (o.bind fun l => (p l).bind F) = (o.bind p).bind F := by cases o <;> rfl
  rw [this, h]
  cases o' <;> rfl
theorem Res_nil {α : Type} {p : List Int → Option (α × List Int)} {a : α} : Res none p a none := rfl
theorem take8 {x : Int} {r : List Int} : (be8 x ++ r).take 8 = be8 x := List.take_left' rfl
theorem drop8 {x : Int} {r : List Int} : (be8 x ++ r).drop 8 = r := List.drop_left' rfl
section
variable {K : Nat} {t : List Int} (hK : 2000 ≤ K) (ht : t.length < 8) (hbt : Bytes t)
include hK ht hbt
theorem long_f {s : S60} {o : Option (List Int)} (h : Ok t s o) : ∃ s' x o', mail_reader__long_f31.f K s = some (s', x) ∧ Ok t s' o' ∧ Res o an x o' := by
  cases o with
  | none =>
    obtain ⟨h1, h2, h3⟩ := h
    rw [mail_reader__long_f31.f, takeNum_f h2 (by omega) (by omega)]
    simp only [Option.bind_some, h1, cond_true]
    refine ⟨_, _, none, rfl, ⟨rfl, ?_, ?_⟩, Res_nil⟩
    · split
      · exact Bytes.nil
      · exact h2.drop 8
    · split
      · simp
      · simp only [List.length_drop]; omega
  | some l =>
    obtain ⟨rfl, h2, h3⟩ := h
    cases l with
    | nil =>
      rw [mail_reader__long_f31.f, show Wl [] ++ t = t from rfl, takeNum_f hbt (by omega) (by omega), if_pos ht]
      exact ⟨_, _, none, rfl, ⟨rfl, Bytes.nil, by simp⟩, rfl⟩
    | cons x l =>
      obtain ⟨g1, g2⟩ := Rl_cons.1 h2
      have hb : Bytes (Wl (x :: l) ++ t) := (Wl_bytes _).append hbt
      simp only [List.length_cons] at h3
      have hlen : (Wl (x :: l) ++ t).length = 8 * l.length + 8 + t.length := by rw [List.length_append, Wl_length, List.length_cons]; omega
      have hno : ¬ (Wl (x :: l) ++ t).length < 8 := by omega
      rw [mail_reader__long_f31.f, takeNum_f hb (by omega) (by omega), if_neg hno, Wl_cons, List.append_assoc, take8, drop8, val_be8, wrap_back g1]
      exact ⟨_, _, some l, rfl, ⟨rfl, g2, by omega⟩, rfl⟩
theorem rnum_f2 {s : S60} {o : Option (List Int)} (h : Ok t s o) {b : Int} (hb : 0 ≤ b) : ∃ s' x o', mail_reader__num_f30.f K s b = some (s', x) ∧ Ok t s' o' ∧ Res o (nm b) x o' ∧ 0 ≤ x ∧ x ≤ b := by
  obtain ⟨s', x, o', e, h1, h2⟩ := long_f hK ht hbt h
  rw [mail_reader__num_f30.f, e]
  simp only [Option.bind_some, condD]
  have bad : (x < 0 ∨ x > b) → ∃ o'', Ok t ⟨s'.f0, true⟩ o'' ∧ Res o (nm b) 0 o'' := by
    intro hx
    refine ⟨none, ⟨rfl, ?_⟩, ?_⟩
    · cases o' with
      | none => exact h1.2
      | some l =>
        obtain ⟨rfl, k1, k2⟩ := h1
        exact ⟨(Wl_bytes _).append hbt, by rw [List.length_append, Wl_length]; omega⟩
    · show o.bind (nm b) = none
      cases o with
      | none => rfl
      | some l =>
        cases l with
        | nil => rfl
        | cons y l =>
          have : some (y, l) = o'.map (fun l => (x, l)) := h2
          cases o' with
          | none => cases this
          | some l' =>
            simp only [Option.map_some, Option.some.injEq, Prod.mk.injEq] at this
            obtain ⟨rfl, rfl⟩ := this
            have hno : ¬ (0 ≤ y ∧ y ≤ b) := by omega
            show (if 0 ≤ y ∧ y ≤ b then some (y, l) else none) = none
            rw [if_neg hno]
  by_cases a1 : x < 0
  · obtain ⟨o'', k1, k2⟩ := bad (.inl a1)
    rw [if_pos a1]
    exact ⟨_, _, o'', rfl, k1, k2, by omega, hb⟩
  · by_cases a2 : x > b
    · obtain ⟨o'', k1, k2⟩ := bad (.inr a2)
      rw [if_neg a1, if_pos a2]
      exact ⟨_, _, o'', rfl, k1, k2, by omega, hb⟩
    · rw [if_neg a1, if_neg a2]
      refine ⟨_, _, o', rfl, h1, ?_, by omega, by omega⟩
      cases o with
      | none => exact h2
      | some l =>
        cases l with
        | nil => exact h2
        | cons y l =>
          have : some (y, l) = o'.map (fun l => (x, l)) := h2
          cases o' with
          | none => cases this
          | some l' =>
            simp only [Option.map_some, Option.some.injEq, Prod.mk.injEq] at this
            obtain ⟨rfl, rfl⟩ := this
            have hyes : (0 ≤ y ∧ y ≤ b) := by omega
            show (if 0 ≤ y ∧ y ≤ b then some (y, l) else none) = _
            rw [if_pos hyes]
            rfl
omit hK ht hbt in
theorem Ok_bad {s : S60} {o : Option (List Int)} (h : Ok t s o) : s.f1 = true → o = none := by
  intro hb
  cases o with
  | none => rfl
  | some l => obtain ⟨rfl, _⟩ := h; cases hb
omit hK ht hbt in
theorem rp_zero {α : Type} (p : List Int → Option (α × List Int)) (o : Option (List Int)) : Res o (rp p 0) [] o := by cases o <;> rfl
omit hK ht hbt in
theorem rp_succ {α : Type} {p : List Int → Option (α × List Int)} {o o1 o2 : Option (List Int)} {x : α} {xs : List α} {n : Nat} (h1 : Res o p x o1) (h2 : Res o1 (rp p n) xs o2) : Res o (rp p (n + 1)) (x :: xs) o2 := by
  show (o.bind fun l => (p l).bind fun y => (rp p n y.2).bind fun z => some (y.1 :: z.1, z.2)) = _
  rw [Res_bind h1]
  show (o1.bind fun l => (rp p n l).bind fun z => some (x :: z.1, z.2)) = _
  rw [Res_bind h2]
  cases o2 <;> rfl
theorem some_loop (n : Nat) (hn : n ≤ 1000) : ∀ (k i : Nat) (acc : List Int) (s : S60) (o : Option (List Int)), i ≤ n → n < k + i → acc.length ≤ i → Ok t s o →
    ∃ s' xs o', mail_lists_some.l1 K n k (acc, (i : Int), s.f0, s.f1) = some (⟨s'⟩, acc ++ xs) ∧ Ok t s' o' ∧ Res o (rp (nm 1099511627776) (n - i)) xs o' ∧ xs.length ≤ n - i := by
  intro k
  induction k with
  | zero => intro i acc s o h1 h2; omega
  | succ k ih =>
    intro i acc s o h1 h2 h3 h
    rw [mail_lists_some.l1]
    by_cases hi : i < n
    · have hlt : ((i : Int) < (n : Int)) := by omega
      simp only [condD, if_pos hlt]
      obtain ⟨j, hj⟩ : ∃ j, n - i = j + 1 := ⟨n - i - 1, by omega⟩
      cases hb : s.f1 with
      | true =>
        obtain rfl := Ok_bad h hb
        refine ⟨s, [], none, ?_, h, Res_nil, by simp⟩
        have hs : (⟨s.f0, true⟩ : S60) = s := by rw [← hb]
        simp only [Bool.not_true, cond_false, List.append_nil, hs]
      | false =>
        obtain ⟨s', x, o', e, k1, k2, k3, k4⟩ := rnum_f2 hK ht hbt h (b := 1099511627776) (by omega)
        have e' : mail_reader__num_f30.f K ⟨s.f0, false⟩ 1099511627776 = some (s', x) := by rw [← hb]; exact e
        simp only [Bool.not_false, cond_true, e', Option.bind_some, step1 (show i < 1000000000 by omega)]
        rw [appN (by simp only [List.length_cons, List.length_nil]; omega), Option.bind_some]
        obtain ⟨s2, xs, o2, e2, q1, q2, q3⟩ := ih (i + 1) (acc ++ [x]) s' o' hi (by omega) (by simp only [List.length_append, List.length_cons, List.length_nil]; omega) k1
        have hj2 : n - (i + 1) = j := by omega
        rw [hj2] at q2 q3
        refine ⟨s2, x :: xs, o2, ?_, q1, ?_, by rw [List.length_cons]; omega⟩
        · rw [e2, List.append_assoc, List.singleton_append]
        · rw [hj]; exact rp_succ k2 q2
    · have hlt : ¬ ((i : Int) < (n : Int)) := by omega
      have hj : n - i = 0 := by omega
      simp only [condD, if_neg hlt, hj]
      exact ⟨s, [], o, by rw [List.append_nil], h, rp_zero _ _, by simp⟩
theorem some_f {s : S60} {o : Option (List Int)} (h : Ok t s o) {n : Nat} (hn : n ≤ 1000) : ∃ s' xs o', mail_lists_some.f K ⟨s⟩ (n : Int) = some (⟨s'⟩, xs) ∧ Ok t s' o' ∧ Res o (rp (nm 1099511627776) n) xs o' ∧ xs.length ≤ n := by
  obtain ⟨s', xs, o', e, h1, h2, h3⟩ := some_loop hK ht hbt n hn K 0 [] s o (by omega) (by omega) (by simp) h
  exact ⟨s', xs, o', e, h1, h2, h3⟩
theorem mg_step {s : S60} {o : Option (List Int)} (h : Ok t s o) : ∃ s1 x s2 v o2, mail_reader__num_f30.f K s 1099511627776 = some (s1, x) ∧ mail_reader__long_f31.f K s1 = some (s2, v) ∧ Ok t s2 o2 ∧ Res o mg ⟨x, v⟩ o2 := by
  obtain ⟨s1, x, o1, e1, k1, k2, k3, k4⟩ := rnum_f2 hK ht hbt h (b := 1099511627776) (by omega)
  obtain ⟨s2, v, o2, e2, q1, q2⟩ := long_f hK ht hbt k1
  refine ⟨s1, x, s2, v, o2, e1, e2, q1, ?_⟩
  show (o.bind fun l => (nm 1099511627776 l).bind fun y => (an y.2).bind fun z => some ((⟨y.1, z.1⟩ : S77), z.2)) = _
  rw [Res_bind k2]
  show (o1.bind fun l => (an l).bind fun z => some ((⟨x, z.1⟩ : S77), z.2)) = _
  rw [Res_bind q2]
  cases o2 <;> rfl
theorem msgs_loop2 : ∀ (k n : Nat) (acc : List S77) (s : S60) (o : Option (List Int)), n ≤ 1000 → n < k → acc.length ≤ 1000 - n → Ok t s o →
    ∃ s' xs o', mail_lists_msgs.l1 K k (acc, (n : Int), s.f0, s.f1) = some (⟨s'⟩, acc ++ xs) ∧ Ok t s' o' ∧ Res o (rp mg n) xs o' ∧ xs.length ≤ n := by
  intro k
  induction k with
  | zero => intro n acc s o h1 h2; omega
  | succ k ih =>
    intro n acc s o h1 h2 h3 h
    rw [mail_lists_msgs.l1]
    cases n with
    | zero =>
      have hlt : ¬ (((0 : Nat) : Int) > 0) := by omega
      simp only [condD, if_neg hlt]
      exact ⟨s, [], o, by rw [List.append_nil], h, rp_zero _ _, by simp⟩
    | succ n =>
      have hlt : (((n + 1 : Nat) : Int) > 0) := by omega
      have hw : IntKind.wrap .i64 (((n + 1 : Nat) : Int) - 1) = (n : Int) := by rw [wrapI (by omega) (by omega)]; omega
      simp only [condD, if_pos hlt, hw]
      cases hb : s.f1 with
      | true =>
        obtain rfl := Ok_bad h hb
        refine ⟨s, [], none, ?_, h, Res_nil, by simp⟩
        have hs : (⟨s.f0, true⟩ : S60) = s := by rw [← hb]
        simp only [Bool.not_true, cond_false, List.append_nil, hs]
      | false =>
        obtain ⟨s1, x, s2, v, o2, e1, e2, k1, k2⟩ := mg_step hK ht hbt h
        have e' : mail_reader__num_f30.f K ⟨s.f0, false⟩ 1099511627776 = some (s1, x) := by rw [← hb]; exact e1
        simp only [Bool.not_false, cond_true, e', e2, Option.bind_some]
        rw [appN (by simp only [List.length_cons, List.length_nil]; omega), Option.bind_some]
        obtain ⟨s3, xs, o3, e3, q1, q2, q3⟩ := ih n (acc ++ [⟨x, v⟩]) s2 o2 (by omega) (by omega) (by simp only [List.length_append, List.length_cons, List.length_nil]; omega) k1
        refine ⟨s3, ⟨x, v⟩ :: xs, o3, ?_, q1, rp_succ k2 q2, by rw [List.length_cons]; omega⟩
        rw [e3, List.append_assoc, List.singleton_append]
theorem lmsgs_f {s : S60} {o : Option (List Int)} (h : Ok t s o) : ∃ s' xs o', mail_lists_msgs.f K ⟨s⟩ = some (⟨s'⟩, xs) ∧ Ok t s' o' ∧ Res o mgs xs o' ∧ xs.length ≤ 24 := by
  obtain ⟨s1, x, o1, e1, k1, k2, k3, k4⟩ := rnum_f2 hK ht hbt h (b := 24) (by omega)
  obtain ⟨n, rfl⟩ : ∃ n : Nat, x = (n : Int) := ⟨x.toNat, by omega⟩
  obtain ⟨s2, xs, o2, e2, q1, q2, q3⟩ := msgs_loop2 hK ht hbt K n [] s1 o1 (by omega) (by omega) (by simp only [List.length_nil]; omega) k1
  refine ⟨s2, xs, o2, ?_, q1, ?_, by omega⟩
  · rw [mail_lists_msgs.f, e1, Option.bind_some]
    exact e2
  · show (o.bind fun l => (nm 24 l).bind fun y => rp mg y.1.toNat y.2) = _
    rw [Res_bind k2]
    show (o1.bind fun l => rp mg n l) = _
    exact q2
theorem vals_loop2 (z : S60) (n : Nat) (hn : n ≤ 1000) : ∀ (k i : Nat) (acc : List Int) (s : S60) (o : Option (List Int)), i ≤ n → n < k + i → acc.length ≤ i → Ok t s o →
    ∃ s' xs o', mail_Decode.l28 K (z, (n : Int)) k ((i : Int), s.f0, s.f1, acc) = some (s'.f0, s'.f1, acc ++ xs) ∧ Ok t s' o' ∧ Res o (rp an (n - i)) xs o' ∧ xs.length ≤ n - i := by
  intro k
  induction k with
  | zero => intro i acc s o h1 h2; omega
  | succ k ih =>
    intro i acc s o h1 h2 h3 h
    rw [mail_Decode.l28]
    by_cases hi : i < n
    · have hlt : ((i : Int) < (n : Int)) := by omega
      simp only [condD, if_pos hlt]
      obtain ⟨j, hj⟩ : ∃ j, n - i = j + 1 := ⟨n - i - 1, by omega⟩
      cases hb : s.f1 with
      | true =>
        obtain rfl := Ok_bad h hb
        refine ⟨s, [], none, ?_, h, Res_nil, by simp⟩
        simp only [Bool.not_true, cond_false, List.append_nil, hb]
      | false =>
        obtain ⟨s', x, o', e, k1, k2⟩ := long_f hK ht hbt h
        have e' : mail_reader__long_f31.f K ⟨s.f0, false⟩ = some (s', x) := by rw [← hb]; exact e
        simp only [Bool.not_false, cond_true, e', Option.bind_some, step1 (show i < 1000000000 by omega)]
        rw [appN (by simp only [List.length_cons, List.length_nil]; omega), Option.bind_some]
        obtain ⟨s2, xs, o2, e2, q1, q2, q3⟩ := ih (i + 1) (acc ++ [x]) s' o' hi (by omega) (by simp only [List.length_append, List.length_cons, List.length_nil]; omega) k1
        have hj2 : n - (i + 1) = j := by omega
        rw [hj2] at q2 q3
        refine ⟨s2, x :: xs, o2, ?_, q1, ?_, by rw [List.length_cons]; omega⟩
        · rw [e2, List.append_assoc, List.singleton_append]
        · rw [hj]; exact rp_succ k2 q2
    · have hlt : ¬ ((i : Int) < (n : Int)) := by omega
      have hj : n - i = 0 := by omega
      simp only [condD, if_neg hlt, hj]
      exact ⟨s, [], o, by rw [List.append_nil], h, rp_zero _ _, by simp⟩
theorem bt_step {s : S60} {o : Option (List Int)} (h : Ok t s o) : ∃ s' x o', mail_reader__num_f30.f K s 1 = some (s', x) ∧ Ok t s' o' ∧ Res o bt (x == 1) o' := by
  obtain ⟨s1, x, o1, e1, k1, k2, k3, k4⟩ := rnum_f2 hK ht hbt h (b := 1) (by omega)
  refine ⟨s1, x, o1, e1, k1, ?_⟩
  show (o.bind fun l => (nm 1 l).bind fun y => some (y.1 == 1, y.2)) = _
  rw [Res_bind k2]
  cases o1 <;> rfl
theorem rest_loop2 (z : S60) (n : Nat) (hn : n ≤ 1000) : ∀ (k i : Nat) (acc : List Bool) (s : S60) (o : Option (List Int)), i ≤ n → n < k + i → acc.length ≤ i → Ok t s o →
    ∃ s' xs o', mail_Decode.l21 K (z, (n : Int)) k ((i : Int), s.f0, s.f1, acc) = some (s'.f0, s'.f1, acc ++ xs) ∧ Ok t s' o' ∧ Res o (rp bt (n - i)) xs o' ∧ xs.length ≤ n - i := by
  intro k
  induction k with
  | zero => intro i acc s o h1 h2; omega
  | succ k ih =>
    intro i acc s o h1 h2 h3 h
    rw [mail_Decode.l21]
    by_cases hi : i < n
    · have hlt : ((i : Int) < (n : Int)) := by omega
      simp only [condD, if_pos hlt]
      obtain ⟨j, hj⟩ : ∃ j, n - i = j + 1 := ⟨n - i - 1, by omega⟩
      cases hb : s.f1 with
      | true =>
        obtain rfl := Ok_bad h hb
        refine ⟨s, [], none, ?_, h, Res_nil, by simp⟩
        simp only [Bool.not_true, cond_false, List.append_nil, hb]
      | false =>
        obtain ⟨s', x, o', e, k1, k2⟩ := bt_step hK ht hbt h
        have e' : mail_reader__num_f30.f K ⟨s.f0, false⟩ 1 = some (s', x) := by rw [← hb]; exact e
        simp only [Bool.not_false, cond_true, e', Option.bind_some, step1 (show i < 1000000000 by omega)]
        rw [appN (by simp only [List.length_cons, List.length_nil]; omega), Option.bind_some]
        obtain ⟨s2, xs, o2, e2, q1, q2, q3⟩ := ih (i + 1) (acc ++ [x == 1]) s' o' hi (by omega) (by simp only [List.length_append, List.length_cons, List.length_nil]; omega) k1
        have hj2 : n - (i + 1) = j := by omega
        rw [hj2] at q2 q3
        refine ⟨s2, (x == 1) :: xs, o2, ?_, q1, ?_, by rw [List.length_cons]; omega⟩
        · rw [e2, List.append_assoc, List.singleton_append]
        · rw [hj]; exact rp_succ k2 q2
    · have hlt : ¬ ((i : Int) < (n : Int)) := by omega
      have hj : n - i = 0 := by omega
      simp only [condD, if_neg hlt, hj]
      exact ⟨s, [], o, by rw [List.append_nil], h, rp_zero _ _, by simp⟩
abbrev Z : S29 := ⟨0, 0, 0, 0, 0, 0, 0, 0, [], [], [], ⟨0, 0, [], [], []⟩, []⟩
def ansM : Option S29 → S29 × Int
  | some m => (m, 0)
  | none => (Z, 2)
omit hK ht hbt in
theorem D_chain {l h os is js vs : List Int} {bs : List Bool} {ins ou : List S77} {on iN nn : Nat} {p s : Int} {o1 o2 o3 o4 o5 o6 o7 o8 o9 o10 o11 o12 o13 : Option (List Int)}
    (r1 : Res (some l) (rp (nm 1099511627776) 8) h o1) (r2 : Res o1 (nm 6) (on : Int) o2) (r3 : Res o2 (rp (nm 1099511627776) on) os o3) (r4 : Res o3 (nm 5) (iN : Int) o4) (r5 : Res o4 (rp (nm 1099511627776) iN) is o5) (r6 : Res o5 (rp (nm 1099511627776) iN) js o6)
    (r7 : Res o6 (nm 1099511627776) p o7) (r8 : Res o7 (nm 1099511627776) s o8) (r9 : Res o8 (nm 24) (nn : Int) o9) (r10 : Res o9 (rp an nn) vs o10) (r11 : Res o10 (rp bt nn) bs o11) (r12 : Res o11 mgs ins o12) (r13 : Res o12 mgs ou o13) :
    D l = o13.bind fun r => some (mkM h os is js p s vs bs ins ou, r) := by
  have t1 : ∀ n : Nat, (n : Int).toNat = n := fun n => Int.toNat_natCast n
  have : D l = (some l).bind fun l => D l := rfl
  rw [this]
  unfold D
  rw [Res_bind r1]
  simp only
  rw [Res_bind r2]
  simp only [t1]
  rw [Res_bind r3]
  simp only
  rw [Res_bind r4]
  simp only [t1]
  rw [Res_bind r5]
  simp only
  rw [Res_bind r6]
  simp only
  rw [Res_bind r7]
  simp only
  rw [Res_bind r8]
  simp only
  rw [Res_bind r9]
  simp only [t1]
  rw [Res_bind r10]
  simp only
  rw [Res_bind r11]
  simp only
  rw [Res_bind r12]
  simp only
  rw [Res_bind r13]
theorem decode_f {l : List Int} (hl : Rl l) (hn : l.length ≤ 1000) : mail_Decode.f K (Wl l ++ t) = some (ansM (if t = [] then dec l else none)) := by
  obtain ⟨s1, h, o1, e1, k1, r1, q1⟩ := some_f hK ht hbt (s := ⟨Wl l ++ t, false⟩) (o := some l) ⟨rfl, hl, hn⟩ (n := 8) (by omega)
  obtain ⟨s2, o, o2, e2, k2, r2, q2, b2⟩ := rnum_f2 hK ht hbt k1 (b := 6) (by omega)
  obtain ⟨on, rfl⟩ : ∃ n : Nat, o = (n : Int) := ⟨o.toNat, by omega⟩
  obtain ⟨s3, os, o3, e3, k3, r3, q3⟩ := some_f hK ht hbt k2 (n := on) (by omega)
  obtain ⟨s4, i, o4, e4, k4, r4, q4, b4⟩ := rnum_f2 hK ht hbt k3 (b := 5) (by omega)
  obtain ⟨iN, rfl⟩ : ∃ n : Nat, i = (n : Int) := ⟨i.toNat, by omega⟩
  obtain ⟨s5, is, o5, e5, k5, r5, q5⟩ := some_f hK ht hbt k4 (n := iN) (by omega)
  obtain ⟨s6, js, o6, e6, k6, r6, q6⟩ := some_f hK ht hbt k5 (n := is.length) (by omega)
  obtain ⟨s7, p, o7, e7, k7, r7, q7, b7⟩ := rnum_f2 hK ht hbt k6 (b := 1099511627776) (by omega)
  obtain ⟨s8, s, o8, e8, k8, r8, q8, b8⟩ := rnum_f2 hK ht hbt k7 (b := 1099511627776) (by omega)
  obtain ⟨s9, n, o9, e9, k9, r9, q9, b9⟩ := rnum_f2 hK ht hbt k8 (b := 24) (by omega)
  obtain ⟨nn, rfl⟩ : ∃ k : Nat, n = (k : Int) := ⟨n.toNat, by omega⟩
  obtain ⟨s10, vs, o10, e10, k10, r10, q10⟩ := vals_loop2 hK ht hbt s9 nn (by omega) K 0 [] s9 o9 (by omega) (by omega) (by simp) k9
  obtain ⟨s11, bs, o11, e11, k11, r11, q11⟩ := rest_loop2 hK ht hbt s9 nn (by omega) K 0 [] s10 o10 (by omega) (by omega) (by simp) k10
  obtain ⟨s12, ins, o12, e12, k12, r12, q12⟩ := lmsgs_f hK ht hbt k11
  obtain ⟨s13, ou, o13, e13, k13, r13, q13⟩ := lmsgs_f hK ht hbt k12
  simp only [Nat.sub_zero, List.nil_append] at r10 r11 e10 e11 q10 q11
  have e10' : mail_Decode.l28 K (s9, (nn : Int)) K (0, s9.f0, s9.f1, []) = some (s10.f0, s10.f1, vs) := e10
  have e11' : mail_Decode.l21 K (s9, (nn : Int)) K (0, s10.f0, s10.f1, []) = some (s11.f0, s11.f1, bs) := e11
  have r6' : Res o5 (rp (nm 1099511627776) iN) js o6 := by
    cases o5 with
    | none => exact r6
    | some l5 =>
      have : o4.bind (rp (nm 1099511627776) iN) = some (is, l5) := r5
      obtain ⟨l4, _, e⟩ := Option.bind_eq_some_iff.1 this
      obtain ⟨⟨_, g⟩, _⟩ := (rpn _ _ _ _).1 e
      rw [← g]; exact r6
  have hD := D_chain r1 r2 r3 r4 r5 r6' r7 r8 r9 r10 r11 r12 r13
  have hdec : dec l = o13.bind fun r => if r = [] ∧ RR (mkM h os is js p s vs bs ins ou) then some (mkM h os is js p s vs bs ins ou) else none := by
    unfold dec
    rw [hD]
    cases o13 <;> rfl
  rw [mail_Decode.f]
  have e1' : mail_lists_some.f K ⟨⟨Wl l ++ t, false⟩⟩ 8 = some (⟨s1⟩, h) := e1
  rw [e1', Option.bind_some, condN]
  by_cases c8 : (h.length : Int) = 8
  · obtain ⟨a0, a1, a2, a3, a4, a5, a6, a7, rfl⟩ := list8 (show h.length = 8 by omega)
    have i0 : ∀ (j : Nat) (x : Int), ([a0, a1, a2, a3, a4, a5, a6, a7] : List Int)[j]? = some x → idxO [a0, a1, a2, a3, a4, a5, a6, a7] (j : Int) = some x := fun j x hx => by rw [idxN]; exact hx
    rw [if_pos c8]
    have w0 : idxO [a0, a1, a2, a3, a4, a5, a6, a7] 0 = some a0 := i0 0 a0 rfl
    have w1 : idxO [a0, a1, a2, a3, a4, a5, a6, a7] 1 = some a1 := i0 1 a1 rfl
    have w2 : idxO [a0, a1, a2, a3, a4, a5, a6, a7] 2 = some a2 := i0 2 a2 rfl
    have w3 : idxO [a0, a1, a2, a3, a4, a5, a6, a7] 3 = some a3 := i0 3 a3 rfl
    have w4 : idxO [a0, a1, a2, a3, a4, a5, a6, a7] 4 = some a4 := i0 4 a4 rfl
    have w5 : idxO [a0, a1, a2, a3, a4, a5, a6, a7] 5 = some a5 := i0 5 a5 rfl
    have w6 : idxO [a0, a1, a2, a3, a4, a5, a6, a7] 6 = some a6 := i0 6 a6 rfl
    have w7 : idxO [a0, a1, a2, a3, a4, a5, a6, a7] 7 = some a7 := i0 7 a7 rfl
    rw [w0, Option.bind_some]
    rw [w1, Option.bind_some]
    rw [w2, Option.bind_some]
    rw [w3, Option.bind_some]
    rw [w4, Option.bind_some]
    rw [w5, Option.bind_some]
    rw [w6, Option.bind_some]
    rw [w7, Option.bind_some]
    rw [e2, Option.bind_some]
    rw [e3, Option.bind_some]
    rw [e4, Option.bind_some]
    rw [e5, Option.bind_some]
    rw [e6, Option.bind_some]
    rw [e7, Option.bind_some]
    rw [e8, Option.bind_some]
    rw [e9, Option.bind_some]
    rw [e10', Option.bind_some]
    rw [e11', Option.bind_some]
    rw [e12, Option.bind_some]
    rw [e13, Option.bind_some]
    have hmk : (⟨a0, a1, a2, a3, a4, a5, a6, a7, os, is, js, ⟨p, s, vs, bs, ins⟩, ou⟩ : S29) = mkM [a0, a1, a2, a3, a4, a5, a6, a7] os is js p s vs bs ins ou := rfl
    rw [hmk]
    have hfew : Few (mkM [a0, a1, a2, a3, a4, a5, a6, a7] os is js p s vs bs ins ou) := ⟨by show os.length ≤ 1000; omega, by show is.length ≤ 1000; omega, by show js.length ≤ 1000; omega, by show vs.length ≤ 1000; omega, by show bs.length ≤ 1000; omega, by show ins.length ≤ 1000; omega, by show ou.length ≤ 1000; omega⟩
    rw [right_f hfew hK]
    rw [hdec]
    cases o13 with
    | none =>
      rw [k13.1]
      have : (if t = [] then (none : Option (List Int)).bind (fun r => if r = [] ∧ RR (mkM [a0, a1, a2, a3, a4, a5, a6, a7] os is js p s vs bs ins ou) then some (mkM [a0, a1, a2, a3, a4, a5, a6, a7] os is js p s vs bs ins ou) else none) else none) = none := by split <;> rfl
      rw [this]
      rfl
    | some r =>
      obtain ⟨rfl, g1, g2⟩ := k13
      simp only [cond_false, condD, Option.bind_some, condNot]
      by_cases ct : t = []
      · subst ct
        rw [if_pos rfl, List.append_nil]
        by_cases cr : r = []
        · subst cr
          have : ¬ (((Wl []).length : Int) > 0) := by rw [Wl_nil]; simp
          rw [if_neg this]
          by_cases cR : RR (mkM [a0, a1, a2, a3, a4, a5, a6, a7] os is js p s vs bs ins ou)
          · rw [if_pos cR, if_pos ⟨rfl, cR⟩]; rfl
          · have hno : ¬ (([] : List Int) = [] ∧ RR (mkM [a0, a1, a2, a3, a4, a5, a6, a7] os is js p s vs bs ins ou)) := fun k => cR k.2
            rw [if_neg cR, if_neg hno]; rfl
        · have hpos : 0 < r.length := List.length_pos_iff.2 cr
          have : (((Wl r).length : Int) > 0) := by rw [Wl_length]; omega
          have hno : ¬ (r = [] ∧ RR (mkM [a0, a1, a2, a3, a4, a5, a6, a7] os is js p s vs bs ins ou)) := fun k => cr k.1
          rw [if_pos this, if_neg hno]; rfl
      · have hpos : 0 < t.length := List.length_pos_iff.2 ct
        have : (((Wl r ++ t).length : Int) > 0) := by rw [List.length_append]; omega
        rw [if_pos this, if_neg ct]; rfl
  · rw [if_neg c8]
    have : o1 = none := by
      cases o1 with
      | none => rfl
      | some l1 =>
        obtain ⟨⟨_, g⟩, _⟩ := (rpn 8 l h l1).1 r1
        exact absurd g (by omega)
    subst this
    have hn2 : dec l = none := by
      have : rp (nm 1099511627776) 8 l = none := r1
      unfold dec D
      rw [this]
      rfl
    rw [hn2]
    split <;> rfl
end
end Go.Proofs.Ytlcbgmaajijbjaa.Pure
