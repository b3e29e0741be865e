/- What the law CodeRuns asks of plain Lean. -/
import Derived.Test.YtpachjomjoaipaaCode2
import Derived.Test.YtpachjomjoaipaaLCodeRuns
set_option linter.unusedVariables false
set_option linter.unusedSimpArgs false
namespace Go.Proofs.Ytpachjomjoaipaa.Pure
open Go Go.RowKit Go.Hw Go.Proofs.Ytpachjomjoaipaa.G
theorem knows_f : haywainlaw02_knows.f 40000 = some true := by kernel_rfl
def allOf (ks : List (List Int)) : List Int := (ks.map frameS).flatten
theorem allOf_snoc (ks : List (List Int)) (p : List Int) : allOf (ks ++ [p]) = allOf ks ++ frameS p := by simp [allOf]
theorem allOf_bytes {ks : List (List Int)} (h : ∀ p ∈ ks, Bytes p) : Bytes (allOf ks) := by
  intro x hx
  simp only [allOf, List.mem_flatten, List.mem_map] at hx
  obtain ⟨_, ⟨p, hp, rfl⟩, hx⟩ := hx
  exact frameS_bytes (h p hp) x hx
/-- What the first loop leaves. -/
structure Kept (s : List Int × Int × List (List Int)) (n : Nat) : Prop where
  all : s.1 = allOf s.2.2
  small : ∀ p ∈ s.2.2, Bytes p ∧ p.length ≤ 500
  len : s.2.2.length ≤ n
  room : s.1.length ≤ 508 * n
  last : ∀ p, s.2.2.getLast? = some p → s.2.1 = ((frameS p).length : Int)
theorem first (l : List (List Int)) (hl : l.length ≤ 140737488351232) (hb : ∀ p ∈ l, Bytes p) : ∀ (k i : Nat) (s : List Int × Int × List (List Int)), i ≤ 20 → 20 < k + i → Kept s i →
    ∃ s', haywainlaw02_CodeRuns.l37 40000 l k (s.1, s.2.1, s.2.2, (i : Int)) = some (.inl s') ∧ Kept s' 20 := by
  intro k
  induction k with
  | zero => intro i s h1 h2 h3; omega
  | succ k ih =>
    intro i s h1 h2 h3
    have mono : ∀ {s m n}, Kept s m → m ≤ n → Kept s n := fun h hm => ⟨h.all, h.small, Nat.le_trans h.len hm, Nat.le_trans h.room (Nat.mul_le_mul_left _ hm), h.last⟩
    rw [haywainlaw02_CodeRuns.l37]
    by_cases c1 : i < l.length
    · have c1' : (i : Int) < (l.length : Int) := by omega
      by_cases c2 : i < 20
      · have c2' : (i : Int) < 20 := by omega
        have hx : l[i]? = some l[i] := List.getElem?_eq_getElem c1
        have hn : IntKind.wrap .i64 ((i : Int) + 1) = ((i + 1 : Nat) : Int) := by rw [wrapI (by omega) (by omega)]; omega
        simp only [condD, if_pos c1', if_pos c2', idxN, hx, Option.bind_some, hn]
        by_cases c3 : (l[i].length : Int) > 500
        · rw [if_pos c3]
          exact ih (i + 1) s (by omega) (by omega) (mono h3 (by omega))
        · have hbi := hb _ (List.getElem_mem c1)
          have hf := frameS_length l[i]
          rw [if_neg c3, appN (by simp only [List.length_nil]; omega)]
          simp only [List.nil_append, Option.bind_some, frame_f (K := 40000) hbi (by omega) (by omega), condN, if_true]
          have c4 : ¬ ((frameS l[i]).length : Int) < 8 := by omega
          have hr := h3.room
          have hl2 := h3.len
          rw [if_neg c4, appN (by omega), Option.bind_some, appN (by simp only [List.length_cons, List.length_nil]; omega), Option.bind_some]
          refine ih (i + 1) (s.1 ++ frameS l[i], ((frameS l[i]).length : Int), s.2.2 ++ [l[i]]) (by omega) (by omega) ⟨?_, ?_, ?_, ?_, ?_⟩
          · rw [allOf_snoc, h3.all]
          · intro p hp
            rcases List.mem_append.1 hp with hp | hp
            · exact h3.small p hp
            · rw [List.mem_singleton.1 hp]
              exact ⟨hbi, by omega⟩
          · simp only [List.length_append, List.length_cons, List.length_nil]; omega
          · simp only [List.length_append]; omega
          · intro p hp
            simp only [List.getLast?_append, List.getLast?_singleton, Option.some_or, Option.some.injEq] at hp
            rw [hp]
      · have c2' : ¬ (i : Int) < 20 := by omega
        refine ⟨s, ?_, mono h3 h1⟩
        simp only [condD, if_pos c1', if_neg c2']
    · have c1' : ¬ (i : Int) < (l.length : Int) := by omega
      refine ⟨s, ?_, mono h3 h1⟩
      simp only [condD, if_neg c1']
theorem second (o : List Int × Int × List (List Int)) (p : List Int) (m : Nat) (hp : p.length ≤ 500) (hm : m < (frameS p).length) (hlen : o.2.2.length ≤ 20) (hs : ∀ q ∈ o.2.2, Bytes q ∧ q.length ≤ 500) :
    ∀ (ks : List (List Int)) (k i : Nat), o.2.2.drop i = ks ++ [p] → ks.length < k → haywainlaw02_CodeRuns.l18 40000 o k (allOf ks ++ (frameS p).take m, (i : Int)) = some true := by
  intro ks
  induction ks with
  | nil =>
    intro k i hd hk
    obtain ⟨k, rfl⟩ : ∃ j, k = j + 1 := ⟨k - 1, by omega⟩
    have hl := congrArg List.length hd
    simp only [List.length_drop, List.nil_append, List.length_cons, List.length_nil] at hl
    have hbp : Bytes p := by
      have : p ∈ o.2.2.drop i := by rw [hd]; simp
      exact (hs p (List.mem_of_mem_drop this)).1
    have c1 : (i : Int) < (o.2.2.length : Int) := by omega
    have c2 : (i : Int) = IntKind.wrap .i64 ((o.2.2.length : Int) - 1) := by rw [wrapI (by omega) (by omega)]; omega
    rw [haywainlaw02_CodeRuns.l18]
    have hf := frameS_length p
    have ht := takeFrame_f (K := 40000) (b := (frameS p).take m) ((frameS_bytes hbp).take m) (by rw [List.length_take]; omega) (by omega)
    simp only [condD, if_pos c1, allOf, List.map_nil, List.flatten_nil, List.nil_append, ht, take_cut (show p.length ≤ 4000 by omega) hm, Option.bind_some, condB, if_pos c2, knows_f]
    rfl
  | cons q ks ih =>
    intro k i hd hk
    obtain ⟨k, rfl⟩ : ∃ j, k = j + 1 := ⟨k - 1, by omega⟩
    have hl := congrArg List.length hd
    simp only [List.length_drop, List.length_append, List.length_cons, List.length_nil] at hl
    simp only [List.length_cons] at hk
    have hi : i < o.2.2.length := by omega
    have hd' : o.2.2[i] :: o.2.2.drop (i + 1) = q :: (ks ++ [p]) := by rw [← List.drop_eq_getElem_cons hi, hd]; rfl
    obtain ⟨hq, hdd⟩ := List.cons.inj hd'
    have hsub : ∀ x ∈ q :: (ks ++ [p]), Bytes x ∧ x.length ≤ 500 := fun x hx => hs x (List.mem_of_mem_drop (i := i) (by rw [hd]; exact hx))
    have hbq := hsub q List.mem_cons_self
    have hbk : Bytes (allOf ks ++ (frameS p).take m) := (allOf_bytes (fun x hx => (hsub x (List.mem_cons_of_mem _ (List.mem_append_left _ hx))).1)).append ((frameS_bytes (hsub p (by simp)).1).take m)
    have hroom : ∀ js : List (List Int), (∀ x ∈ js, x.length ≤ 500) → (allOf js).length ≤ 508 * js.length := by
      intro js
      induction js with
      | nil => intro _; simp [allOf]
      | cons x js ih2 =>
        intro hj
        have h1 := ih2 (fun y hy => hj y (List.mem_cons_of_mem _ hy))
        have h2 := hj x List.mem_cons_self
        have h3 := frameS_length x
        simp only [allOf, List.map_cons, List.flatten_cons, List.length_append, List.length_cons] at h1 ⊢
        omega
    have hrk := hroom ks (fun x hx => (hsub x (List.mem_cons_of_mem _ (List.mem_append_left _ hx))).2)
    have hf := frameS_length p
    have hfq := frameS_length q
    have c1 : (i : Int) < (o.2.2.length : Int) := by omega
    have c2 : ¬ (i : Int) = IntKind.wrap .i64 ((o.2.2.length : Int) - 1) := by rw [wrapI (by omega) (by omega)]; omega
    have hn : IntKind.wrap .i64 ((i : Int) + 1) = ((i + 1 : Nat) : Int) := by rw [wrapI (by omega) (by omega)]; omega
    have hx : o.2.2[i]? = some q := by rw [List.getElem?_eq_getElem hi, hq]
    have ea : allOf (q :: ks) ++ (frameS p).take m = frameS q ++ (allOf ks ++ (frameS p).take m) := by simp [allOf]
    have ht := takeFrame_f (K := 40000) (b := frameS q ++ (allOf ks ++ (frameS p).take m)) ((frameS_bytes hbq.1).append hbk) (by simp only [List.length_append, List.length_take]; omega) (by omega)
    rw [haywainlaw02_CodeRuns.l18, ea]
    simp only [condD, if_pos c1, ht, take_frame hbq.1 hbk (show q.length ≤ 4000 by omega), Option.bind_some, condB, if_neg c2, condN, if_true, idxN, hx, strEq' (rfl : q = q), Bool.not_true, cond_false, hn]
    exact ih k (i + 1) hdd (by omega)
theorem CodeRuns : haywainlaw02_CodeRuns.Pure := by
  intro l cut hl _
  refine ⟨40000, ?_⟩
  obtain ⟨s, e, hk⟩ := first l (by omega) (fun p hp => Bytes.of_wf (hl.2 p hp).2) 40000 0 ([], 0, []) (by omega) (by omega) ⟨rfl, by simp, by simp, by simp, by simp⟩
  rw [haywainlaw02_CodeRuns.f, show haywainlaw02_CodeRuns.l37 40000 l 40000 (([] : List Int), 0, ([] : List (List Int)), 0) = _ from e]
  simp only [Option.bind_some, Sum.elim_inl, knows_f, condB]
  by_cases h0 : (s.2.2.length : Int) = 0
  · rw [if_pos h0]
  rw [if_neg h0]
  rcases List.eq_nil_or_concat s.2.2 with h | ⟨ks, p, h⟩
  · rw [h] at h0; simp at h0
  rw [List.concat_eq_append] at h
  have hp := hk.small p (by rw [h]; simp)
  have hlast := hk.last p (by rw [h]; simp)
  have hf := frameS_length p
  have hall := hk.all
  rw [h, allOf_snoc] at hall
  have hlen := congrArg List.length hall
  rw [List.length_append] at hlen
  have hroom := hk.room
  have hu : ∃ u : Nat, IntKind.wrap .u64 cut = (u : Int) := ⟨(cut % 18446744073709551616).toNat, by
    simp only [IntKind.wrap, IntKind.signed, IntKind.bits]
    simp
    omega⟩
  obtain ⟨u, hu⟩ := hu
  have hw : IntKind.wrap .u64 ((frameS p).length : Int) = ((frameS p).length : Int) := wrapU (by omega) (by omega)
  have hr : u % (frameS p).length < (frameS p).length := Nat.mod_lt _ (by omega)
  have hm : (u : Int).tmod ((frameS p).length : Int) = ((u % (frameS p).length : Nat) : Int) := by
    rw [Int.tmod_eq_emod_of_nonneg (by omega)]; omega
  rw [hlast, hw, hu]
  have e1 : remO (u : Int) ((frameS p).length : Int) = some ((u % (frameS p).length : Nat) : Int) := by
    unfold remO
    rw [if_neg (by omega), hm]
  generalize u % (frameS p).length = r at hr hm e1
  have hj : IntKind.wrap .i64 (IntKind.wrap .i64 ((s.1.length : Int) - 1) - IntKind.wrap .i64 (r : Int)) = ((s.1.length - 1 - r : Nat) : Int) := by
    rw [wrapI (x := (s.1.length : Int) - 1) (by omega) (by omega), wrapI (x := (r : Int)) (by omega) (by omega), wrapI (by omega) (by omega)]
    omega
  have c1 : cutO s.1 0 ((s.1.length - 1 - r : Nat) : Int) = some (s.1.take (s.1.length - 1 - r)) := (cutN (xs := s.1) (lo := 0) (hi := s.1.length - 1 - r) (by omega)).trans (by simp)
  have c2 : cutL s.1 ((0 : Int).toNat) ((((s.1.length - 1 - r : Nat) : Int)).toNat) = s.1.take (s.1.length - 1 - r) := by simp only [cutL, Int.toNat_natCast]; rfl
  have c3 : s.1.take (s.1.length - 1 - r) = allOf ks ++ (frameS p).take ((frameS p).length - 1 - r) := by
    rw [hlen, hall, List.take_append]
    congr 1
    · exact List.take_of_length_le (by omega)
    · congr 1; omega
  simp only [e1, hm, hj, c1, c2, Option.bind_some]
  rw [c3]
  exact second s p ((frameS p).length - 1 - r) hp.2 (by omega) hk.len hk.small ks 40000 0 h (by have := hk.len; rw [h] at this; simp at this; omega)
end Go.Proofs.Ytpachjomjoaipaa.Pure
