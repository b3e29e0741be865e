/- What the law LinkAcked asks of plain Lean. -/
import Derived.Test.YtndccmilcffedaaPure
import Derived.Test.YtndccmilcffedaaLLinkAcked
set_option linter.unusedVariables false
set_option linter.unusedSimpArgs false
namespace Go.Proofs.Ytndccmilcffedaa.Pure
open Go Go.RowKit Go.Hw Go.Proofs.Ytndccmilcffedaa.G
open Classical
/-- Packets that count: their number is above what has come. -/
theorem told_all (n : Int) (x : S24 × List S37) (hn : 0 ≤ n) (hl : x.2.length ≤ 300) (h : ∀ p ∈ x.2, n < p.f0) : ∀ (k i : Nat) (t : Int), i ≤ x.2.length → x.2.length < k + i → 0 ≤ t → t ≤ i → haywainlaw16_LinkAcked.l487 1000 n x k (t, i) = some (.inl (t + (x.2.length - i))) := by
  intro k
  induction k with
  | zero => intro i t h1 h2; omega
  | succ k ih =>
    intro i t h1 h2 h3 h4
    rw [haywainlaw16_LinkAcked.l487]
    by_cases hi : i < x.2.length
    · have hx : x.2[i]? = some x.2[i] := List.getElem?_eq_getElem hi
      have hlt : ((i : Int) < (x.2.length : Int)) := by omega
      have hp := h _ (List.getElem_mem hi)
      have hp0 : x.2[i].f0 > 0 := by omega
      have hp1 : ¬ x.2[i].f0 ≤ n := by omega
      simp only [hlt, decide_true, cond_true, idxN, hx, Option.bind_some, hp0, hp1, decide_false, cond_false]
      rw [wrapI (x := (i : Int) + 1) (by omega) (by omega), wrapI (x := t + 1) (by omega) (by omega)]
      have e : ((i : Int) + 1) = ((i + 1 : Nat) : Int) := by omega
      rw [e, ih (i + 1) _ hi (by omega) (by omega) (by omega)]
      congr 2
      omega
    · have hlt : ¬ ((i : Int) < (x.2.length : Int)) := by omega
      simp only [hlt, decide_false, cond_false]
      congr 2
      omega
/-- Packets that do not count. -/
theorem told_none (n : Int) (x : S24 × List S37) (hl : x.2.length ≤ 300) (h : ∀ p ∈ x.2, p.f0 = 0) : ∀ (k i : Nat) (t : Int), i ≤ x.2.length → x.2.length < k + i → haywainlaw16_LinkAcked.l487 1000 n x k (t, i) = some (.inl t) := by
  intro k
  induction k with
  | zero => intro i t h1 h2; omega
  | succ k ih =>
    intro i t h1 h2
    rw [haywainlaw16_LinkAcked.l487]
    by_cases hi : i < x.2.length
    · have hx : x.2[i]? = some x.2[i] := List.getElem?_eq_getElem hi
      have hlt : ((i : Int) < (x.2.length : Int)) := by omega
      have hp := h _ (List.getElem_mem hi)
      have hp0 : ¬ x.2[i].f0 > 0 := by omega
      simp only [hlt, decide_true, cond_true, idxN, hx, Option.bind_some, hp0, decide_false, cond_false]
      rw [wrapI (x := (i : Int) + 1) (by omega) (by omega)]
      have e : ((i : Int) + 1) = ((i + 1 : Nat) : Int) := by omega
      rw [e, ih (i + 1) _ hi (by omega)]
    · have hlt : ¬ ((i : Int) < (x.2.length : Int)) := by omega
      simp only [hlt, decide_false, cond_false]
theorem acked_loop (n : Int) (hn : 0 ≤ n) : ∀ (k i : Nat) (b : S24), R b → (∀ s ∈ b.f3, n < s.f0) → i ≤ 4 → 4 < k + i → ((0 < b.f3.length → b.f2 + i < 4)) → ∃ c : S24, c.f3.length = b.f3.length ∧ haywainlaw16_LinkAcked.l264 1000 n k (0, i, b.f0, b.f1, b.f2, b.f3, b.f4) = some (.inl ((min 8 b.f3.length : Nat), c.f0, c.f1, c.f2, c.f3, c.f4)) := by
  intro k
  induction k with
  | zero => intro i b _ _ h1 h2; omega
  | succ k ih =>
    intro i b r hb h1 h2 h3
    have hc1 := r.c1
    have hl := r.l1
    rw [haywainlaw16_LinkAcked.l264]
    by_cases hi : (i : Int) < 4
    case neg =>
      have : b.f3.length = 0 := by
        by_cases hz : 0 < b.f3.length
        · have := h3 hz; omega
        · omega
      refine ⟨b, rfl, ?_⟩
      simp [hi, this]
    simp only [hi, decide_true, cond_true, beq_self_eq_true]
    rw [show (⟨b.f0, b.f1, b.f2, b.f3, b.f4⟩ : S24) = b from rfl, tick_f (Nat.le_refl _), own_of r, wrapI (x := (i : Int) + 1) (by omega) (by omega)]
    simp only [Option.bind_some]
    have e : ((i : Int) + 1) = ((i + 1 : Nat) : Int) := by omega
    rw [e]
    have tl := tick_len (a := b)
    have r2 := tick_R r
    by_cases hs : 0 < b.f3.length ∧ b.f2 = 0
    · have e2 : (tickS b).2 = (b.f3.take 8).map (pk b) := by simp [tickS, hs]
      have e3 : (tickS b).1 = ⟨b.f0, b.f1, 3, b.f3, false⟩ := by simp [tickS, hs]
      have e4 := told_all n (tickS b) hn tl (by
        rw [e2]
        intro p hp
        obtain ⟨s, hs, rfl⟩ := List.mem_map.1 hp
        exact hb s (List.mem_of_mem_take hs)) 1000 0 0 (Nat.zero_le _) (by omega) (Int.le_refl _) (Int.le_refl _)
      rw [show haywainlaw16_LinkAcked.l487 1000 n (tickS b) 1000 (0, 0) = _ from e4]
      simp only [Option.bind_some, Sum.elim_inl]
      have e5 : (tickS b).2.length = min 8 b.f3.length := by rw [e2]; simp
      obtain ⟨k, rfl⟩ : ∃ j, k = j + 1 := ⟨k - 1, by omega⟩
      refine ⟨(tickS b).1, by rw [e3], ?_⟩
      rw [haywainlaw16_LinkAcked.l264]
      have e6 : ¬ ((0 : Int) + (((tickS b).2.length : Int) - ((0 : Nat) : Int))) = 0 := by omega
      simp only [condB, e6, if_false]
      have e7 : ((0 : Int) + (((tickS b).2.length : Int) - ((0 : Nat) : Int))) = ((min 8 b.f3.length : Nat) : Int) := by omega
      rw [e7]
      cases decide (((i + 1 : Nat) : Int) < 4) <;> rfl
    · have e2 : (tickS b).2 = if b.f4 then [⟨0, b.f1 - 1, ⟨#[]⟩⟩] else [] := by unfold tickS; rw [if_neg hs]
      have e3 : (tickS b).1 = ⟨b.f0, b.f1, if 0 < b.f2 then b.f2 - 1 else b.f2, b.f3, false⟩ := by unfold tickS; rw [if_neg hs]
      have e4 := told_none n (tickS b) tl (by
        rw [e2]
        intro p hp
        split at hp
        · simp at hp; rw [hp]
        · simp at hp) 1000 0 0 (Nat.zero_le _) (by omega)
      rw [show haywainlaw16_LinkAcked.l487 1000 n (tickS b) 1000 (0, 0) = _ from e4]
      simp only [Option.bind_some, Sum.elim_inl]
      have h4 : (tickS b).1.f3 = b.f3 := by rw [e3]
      obtain ⟨c, hc, e5⟩ := ih (i + 1) (tickS b).1 r2 (by rw [h4]; exact hb) (by omega) (by omega) (by
        rw [e3]
        simp only
        intro hz
        have := h3 hz
        have : ¬ b.f2 = 0 := fun h => hs ⟨hz, h⟩
        rw [if_pos (by omega)]
        omega)
      refine ⟨c, by rw [hc, h4], ?_⟩
      rw [e5, h4]
theorem none_loop (n : Int) (x : S24 × ByteArray × Bool) (hl : x.1.f3.length ≤ 200) (h : ∀ s ∈ x.1.f3, n < s.f0) : ∀ (k i : Nat), i ≤ x.1.f3.length → x.1.f3.length < k + i → haywainlaw16_LinkAcked.l506 1000 n x k i = some (.inl ()) := by
  intro k
  induction k with
  | zero => intro i h1 h2; omega
  | succ k ih =>
    intro i h1 h2
    rw [haywainlaw16_LinkAcked.l506]
    by_cases hi : i < x.1.f3.length
    · have hx : x.1.f3[i]? = some x.1.f3[i] := List.getElem?_eq_getElem hi
      have hlt : ((i : Int) < (x.1.f3.length : Int)) := by omega
      have hp := h _ (List.getElem_mem hi)
      have hp1 : ¬ x.1.f3[i].f0 ≤ n := by omega
      simp only [hlt, decide_true, cond_true, idxN, hx, Option.bind_some, hp1, decide_false, cond_false]
      rw [wrapI (x := (i : Int) + 1) (by omega) (by omega)]
      have e : ((i : Int) + 1) = ((i + 1 : Nat) : Int) := by omega
      rw [e, ih (i + 1) hi (by omega)]
    · have hlt : ¬ ((i : Int) < (x.1.f3.length : Int)) := by omega
      simp only [hlt, decide_false, cond_false]
theorem LinkAcked : haywainlaw16_LinkAcked.Pure := by
  intro a n hw hn
  refine ⟨1000, ?_⟩
  rw [haywainlaw16_LinkAcked.f]
  simp only [knows_f]
  by_cases hl : (a.f3.length : Int) > 300
  · simp [hl]
  simp only [hl, decide_false, cond_false]
  rw [as_f (Nat.le_refl _) (by omega), Option.bind_some, rright_f (Nat.le_refl _) (by omega), Option.bind_some]
  by_cases r : R a
  case neg => simp [r]
  simp only [r, decide_true, Bool.not_true, cond_false]
  rw [take_f (Nat.le_refl _), own_of r]
  simp only [Option.bind_some]
  have rt := take_R (p := ⟨0, n, ⟨#[]⟩⟩) r
  have hl1 := r.l1
  by_cases h1 : n < 0
  · have e : takeS a ⟨0, n, ⟨#[]⟩⟩ = (a, ⟨#[]⟩, false) := by unfold takeS; rw [if_pos (by simp only; omega)]
    rw [e]
    simp only [h1, as_f (K := 1000) (Nat.le_refl _) (show a.f3.length ≤ 300 by omega), Option.bind_some, same_f (K := 1000) (Nat.le_refl _) (show (A a).f3.length ≤ 300 by rw [A_len]; omega)]
    simp
  by_cases h2 : n ≥ a.f0
  · have e : takeS a ⟨0, n, ⟨#[]⟩⟩ = (a, ⟨#[]⟩, false) := by unfold takeS; rw [if_pos (by simp only; omega)]
    rw [e]
    simp only [h1, h2, as_f (K := 1000) (Nat.le_refl _) (show a.f3.length ≤ 300 by omega), Option.bind_some, same_f (K := 1000) (Nat.le_refl _) (show (A a).f3.length ≤ 300 by rw [A_len]; omega)]
    simp
  have e : takeS a ⟨0, n, ⟨#[]⟩⟩ = (⟨a.f0, a.f1, if 0 < gone a n then 0 else a.f2, a.f3.drop (gone a n), a.f4⟩, ⟨#[]⟩, false) := by unfold takeS; rw [if_neg (by simp only; omega), if_pos rfl]
  rw [e] at rt ⊢
  generalize hc : (⟨a.f0, a.f1, if 0 < gone a n then 0 else a.f2, a.f3.drop (gone a n), a.f4⟩ : S24) = c at rt
  replace rt : R c := rt
  have c2 := rt.c2
  have cl := rt.l1
  have e3 : c.f3 = a.f3.drop (gone a n) := by rw [← hc]
  have hb : ∀ s ∈ c.f3, n < s.f0 := by
    intro s hs
    obtain ⟨i, hi, rfl⟩ := List.mem_iff_getElem.1 hs
    have hx : c.f3[i]? = some c.f3[i] := List.getElem?_eq_getElem hi
    have ho := rt.ok i _ (Nat.zero_le _) hx
    have hf : c.f0 = a.f0 := by rw [← hc]
    have hlen : c.f3.length = a.f3.length - gone a n := by rw [e3]; simp
    unfold gone at hlen
    omega
  rw [show haywainlaw16_LinkAcked.l506 1000 n (c, ⟨#[]⟩, false) 1000 0 = _ from none_loop n (c, ⟨#[]⟩, false) cl hb 1000 0 (Nat.zero_le _) (by simp only; omega)]
  obtain ⟨d, hd, e5⟩ := acked_loop n (by omega) 1000 0 c rt hb (by omega) (by omega) (by omega)
  simp only [h1, h2, decide_false, cond_false, Option.bind_some, Sum.elim_inl]
  rw [show haywainlaw16_LinkAcked.l264 1000 n 1000 (0, 0, c.f0, c.f1, c.f2, c.f3, c.f4) = _ from e5]
  simp only [Option.bind_some, Sum.elim_inl, hd]
  by_cases h8 : (c.f3.length : Int) > 8
  · have : min 8 c.f3.length = 8 := by omega
    simp [h8, this]
  · have : min 8 c.f3.length = c.f3.length := by omega
    simp [h8, this]
end Go.Proofs.Ytndccmilcffedaa.Pure
