/- Checkpoints, in plain Lean: what changes do, as the document says. -/
import Derived.Test.YtkcpbehgjbionaaCk3r
import Derived.Test.YtkcpbehgjbionaaCk0
set_option linter.unusedVariables false
set_option linter.unusedSimpArgs false
namespace Go.Proofs.Ytkcpbehgjbionaa.Pure
open Go Go.RowKit Go.Hw Go.Proofs.Ytkcpbehgjbionaa.G
theorem great_loop (K : Nat) (l : List S70) (hl : l.length ≤ 1000000) : ∀ (k i : Nat), i ≤ l.length → l.length < k + i → ∃ g, haywainlaw14_great.l2 K ⟨l⟩ k (i : Int) = some g := by
  intro k
  induction k with
  | zero => intro i h1 h2; omega
  | succ k ih =>
    intro i h1 h2
    rw [haywainlaw14_great.l2]
    by_cases hi : i < l.length
    · have hx : l[i]? = some l[i] := List.getElem?_eq_getElem hi
      have hlt : ((i : Int) < (l.length : Int)) := by omega
      simp only [condD, if_pos hlt, idxN, hx, Option.bind_some, step1 (show i < 1000000000 by omega)]
      obtain ⟨g, hg⟩ := ih (i + 1) hi (by omega)
      rw [hg]
      split
      · exact ⟨_, rfl⟩
      · split
        · exact ⟨_, rfl⟩
        · exact ⟨_, rfl⟩
    · have hlt : ¬ ((i : Int) < (l.length : Int)) := by omega
      simp only [condD, if_neg hlt]
      exact ⟨_, rfl⟩
theorem great_f {K : Nat} (hK : 30000 ≤ K) (l : List S70) : ∃ g, haywainlaw14_great.f K ⟨l⟩ = some g ∧ (g = false → l.length ≤ 100) := by
  rw [haywainlaw14_great.f, condD]
  by_cases h : (l.length : Int) > 100
  · rw [if_pos h]
    exact ⟨true, rfl, fun h => by cases h⟩
  · obtain ⟨g, hg⟩ := great_loop K l (by omega) K 0 (by omega) (by omega)
    rw [if_neg h]
    exact ⟨g, hg, fun _ => by omega⟩
theorem rone_f {K : Nat} (hK : 30000 ≤ K) {l : List S70} (hl : l.length ≤ 1000) {c : S48} (hc : c.f2.length ≤ 1000000000) : haywainref14_one.f K (A l) (asC c) = some (A (doC l c).1, (doC l c).2) := by
  rw [haywainref14_one.f, condB, condB, condB]
  have e0 : (asC c).f0 = c.f0 := rfl
  have e1 : (asC c).f1 = c.f1 := rfl
  have e2 : (asC c).f2 = c.f2 := rfl
  rw [e0, e1, e2]
  unfold doC
  by_cases k1 : c.f0 = 1
  · rw [if_pos k1, if_pos k1, rdrop_f hl (by omega)]
    rfl
  · by_cases k2 : c.f0 = 2
    · rw [if_neg k1, if_pos k2, if_neg k1, if_pos k2, rput_f hl (by omega) hc]
      rfl
    · by_cases k3 : c.f0 = 3
      · rw [if_neg k1, if_neg k2, if_pos k3, if_neg k1, if_neg k2, if_pos k3, rsync_f hl (by omega)]
        rfl
      · rw [if_neg k1, if_neg k2, if_neg k3, if_neg k1, if_neg k2, if_neg k3]
theorem rdo_loop {K : Nat} (hK : 30000 ≤ K) (cs : List S48) (fuel : Int) (hcs : cs.length ≤ 1000) (hp : ∀ c ∈ cs, c.f2.length ≤ 1000000000) : ∀ (k n : Nat) (l : List S70), n ≤ cs.length → cs.length < k + n → l.length ≤ 1000 →
    haywainref14_Do.l1 K (cs.map asC) fuel k (A l, (n : Int)) = some (A (doR fuel n l (cs.drop n)).1, ((doR fuel n l (cs.drop n)).2 : Int)) := by
  intro k
  induction k with
  | zero => intro n l h1 h2; omega
  | succ k ih =>
    intro n l h1 h2 hl
    rw [haywainref14_Do.l1]
    by_cases hi : n < cs.length
    · have hx : (cs.map asC)[n]? = some (asC cs[n]) := by rw [List.getElem?_map, List.getElem?_eq_getElem hi]; rfl
      have hlt : ((n : Int) < ((cs.map asC).length : Int)) := by rw [List.length_map]; omega
      rw [List.drop_eq_getElem_cons hi, doR]
      simp only [condD, if_pos hlt]
      by_cases cf : (n : Int) < fuel
      · have cf' : ¬ ((n : Int) ≥ fuel) := by omega
        rw [if_pos cf, if_neg cf']
        simp only [idxN, hx, Option.bind_some, step1 (show n < 1000000000 by omega), condN, rone_f hK hl (hp _ (List.getElem_mem hi))]
        by_cases c0 : (doC l cs[n]).2 = 0
        · rw [if_pos c0, if_pos c0, ih (n + 1) _ hi (by omega) (doC_len hl _)]
        · rw [if_neg c0, if_neg c0]
      · have cf' : ((n : Int) ≥ fuel) := by omega
        rw [if_neg cf, if_pos cf']
    · have hlt : ¬ ((n : Int) < ((cs.map asC).length : Int)) := by rw [List.length_map]; omega
      have hn : n = cs.length := by omega
      simp only [condD, if_neg hlt, List.drop_eq_nil_of_le (show cs.length ≤ n by omega), doR]
      rw [List.length_map, hn]
theorem rdo_f {K : Nat} (hK : 30000 ≤ K) {l : List S70} (hl : l.length ≤ 1000) {cs : List S48} (hcs : cs.length ≤ 1000) (hp : ∀ c ∈ cs, c.f2.length ≤ 1000000000) (fuel : Int) : haywainref14_Do.f K (A l) (cs.map asC) fuel = some (A (doR fuel 0 l cs).1, ((doR fuel 0 l cs).2 : Int)) := by
  have := rdo_loop hK cs fuel hcs hp K 0 l (by omega) (by omega) hl
  rw [List.drop_zero] at this
  exact this
theorem rdL_whole {all : Int} : ∀ (k : Nat) (last : Int) (b : List Int), Bytes b → (b.length : Int) ≤ all → (rdL all k last b).2.2.2 = true → 0 ≤ (rdL all k last b).2.1 ∧ (rdL all k last b).2.1 ≤ all ∧ (rdL all k last b).2.2.1 = all := by
  intro k
  induction k with
  | zero => intro last b _ _ h; cases h
  | succ k ih =>
    intro last b hb hle h
    rw [rdL] at h ⊢
    by_cases c : (takeS b).2.2 = 0
    · obtain ⟨hp, hr, hl, _⟩ := take_rest hb c
      have hnc : ¬ (takeS b).2.2 ≠ 0 := fun h => h c
      rw [if_neg hnc] at h ⊢
      split at h
      · cases h
      · rename_i h8
        rw [if_neg h8]
        split at h
        · rename_i hf
          rw [if_pos hf]
          exact ih _ _ hr (by omega) h
        · cases h
    · rw [if_pos c]
      exact ⟨by simp only; omega, by simp only; omega, rfl⟩
theorem getB_cons {l : List S70} {n : ByteArray} (h : 0 < (getB l n).length) : ∃ x r, mi n.toList l = x :: r ∧ getB l n = x.f1 := by
  unfold getB getS at h ⊢
  cases hm : mi n.toList l with
  | nil => rw [hm] at h; simp at h
  | cons x r => exact ⟨x, r, rfl, rfl⟩
theorem cut_ok {l : List S70} (hl : RD l) (hb : BD l) (hr : (rdD l).2.2.2 = true) (hne : (rdD l).2.1 ≠ (rdD l).2.2.1) : ∃ x r, mi mN.toList l = x :: r ∧ getB l mN = x.f1 ∧ 0 ≤ (rdD l).2.1 ∧ (rdD l).2.1 < x.f1.length ∧ cutS l mN (rdD l).2.1 = (repl l mN ⟨x.f0, x.f1.take (rdD l).2.1.toNat, (rdD l).2.1⟩, 0) := by
  obtain ⟨w1, w2, w3⟩ := rdL_whole _ _ _ (getB_bytes hb mN) (Int.le_refl _) hr
  have w1' : 0 ≤ (rdD l).2.1 := w1
  have w2' : (rdD l).2.1 ≤ ((getB l mN).length : Int) := w2
  have w3' : (rdD l).2.2.1 = ((getB l mN).length : Int) := w3
  obtain ⟨x, r, hm, hx⟩ := getB_cons (l := l) (n := mN) (by omega)
  rw [hx] at w2' w3'
  refine ⟨x, r, hm, hx, w1', by omega, ?_⟩
  unfold cutS
  rw [hm]
  simp only
  rw [if_neg (by omega)]
theorem ropen_f {K : Nat} (hK : 30000 ≤ K) {l : List S70} (hl : l.length ≤ 1000) (hb : BD l) : haywainref14_Open.f K (A l) = some (A (openS l).1, (openS l).2) := by
  obtain ⟨L, e, hL0, hL1, hL2⟩ := rlist_f hK hl hb
  rw [haywainref14_Open.f, e, Option.bind_some, condB', openS, hL1]
  by_cases c1 : (rdD (own l)).2.2.2 = false
  · rw [if_pos c1, if_pos c1]
  have c1' : (rdD (own l)).2.2.2 = true := by simpa using c1
  obtain ⟨q1, q2, q3⟩ := hL2 c1'
  obtain ⟨w1, w2, w3⟩ := rdL_whole _ _ _ (getB_bytes (BD_own hb) mN) (Int.le_refl _) c1'
  have w2' : (rdD (own l)).2.1 ≤ ((getB (own l) mN).length : Int) := w2
  have w3' : (rdD (own l)).2.2.1 = ((getB (own l) mN).length : Int) := w3
  rw [if_neg c1, if_neg c1, q3, condD]
  by_cases c2 : (rdD (own l)).2.1 = (rdD (own l)).2.2.1
  · have c2' : ¬ (rdD (own l)).2.1 < (rdD (own l)).2.2.1 := by omega
    rw [if_pos c2, if_neg c2']
  · have c2' : (rdD (own l)).2.1 < (rdD (own l)).2.2.1 := by omega
    obtain ⟨x, r, _, _, _, _, hcut⟩ := cut_ok (own_RD l) (BD_own hb) c1' c2
    rw [if_neg c2, if_pos c2', q2, rcut_f hl (by omega), Option.bind_some, hcut]
theorem BD_of {a : S24} (h : wf24 a) : BD a.f0 := fun x hx => Bytes.of_wf (h.2 x hx).2.1.2
theorem own_len (l : List S70) : (own l).length ≤ 1000 := by have := (own_RD l).len; omega
theorem chg_len (l : List S70) (num : Int) (p : List Int) : (saveS (own l) num p).1.length ≤ 100 := by
  have h0 := (own_RD l).len
  unfold saveS
  split
  · simp
  · split
    · simp
    · split
      · simp
      · split
        · simp
        · have h1 := nameOut_len (fileB num) (own l)
          have h2 := gone_len (fileB num) (own l)
          simp only [chg, core, List.length_append, List.length_cons, List.length_nil]
          omega
theorem BD_repl {l : List S70} (h : BD l) {n : ByteArray} {x : S70} (hx : Bytes x.f1) : BD (repl l n x) := by
  intro y hy
  simp only [repl, List.mem_append, List.mem_singleton] at hy
  rcases hy with (hy | hy) | hy
  · exact h y (lo_mem hy)
  · rw [hy]; exact hx
  · exact h y (hi_mem hy)
theorem BD_doC {l : List S70} (h : BD l) {c : S48} (hc : Bytes c.f2) : BD (doC l c).1 := by
  have ho := BD_own h
  unfold doC
  split
  · unfold dropS
    split
    · exact ho
    · intro y hy
      rcases List.mem_append.1 hy with hy | hy
      · exact ho y (lo_mem hy)
      · exact ho y (hi_mem hy)
  · split
    · unfold putS
      split
      · exact ho
      · split
        · split
          · exact ho
          · exact BD_repl ho hc
        · rename_i x r e
          split
          · exact ho
          · exact BD_repl ho ((ho x (mi_mem (n := c.f1.toList) (by rw [e]; exact List.mem_cons_self))).append hc)
    · split
      · unfold syncS
        split
        · exact ho
        · rename_i x r e
          exact BD_repl ho (ho x (mi_mem (n := c.f1.toList) (by rw [e]; exact List.mem_cons_self)))
      · exact h
theorem doR_inv {fuel : Int} : ∀ (cs : List S48) (n : Nat) (l : List S70), (∀ c ∈ cs, Bytes c.f2) → BD l → l.length ≤ 1000 → BD (doR fuel n l cs).1 ∧ (doR fuel n l cs).1.length ≤ 1000 := by
  intro cs
  induction cs with
  | nil => intro n l _ h h2; exact ⟨h, h2⟩
  | cons c cs ih =>
    intro n l hc h h2
    rw [doR]
    split
    · split
      · exact ih _ _ (fun d hd => hc d (List.mem_cons_of_mem _ hd)) (BD_doC h (hc c List.mem_cons_self)) (doC_len h2 c)
      · exact ⟨h, h2⟩
    · exact ⟨h, h2⟩
theorem openS_inv {l : List S70} (h : BD l) (hl : l.length ≤ 1000) : BD (openS l).1 ∧ (openS l).1.length ≤ 1000 := by
  unfold openS
  split
  · exact ⟨h, hl⟩
  · split
    · exact ⟨h, hl⟩
    · refine ⟨?_, by have := (RD_cut (own_RD l) mN (rdD (own l)).2.1).len; omega⟩
      have ho := BD_own h
      unfold cutS
      split
      · exact ho
      · rename_i x r e
        split
        · exact ho
        · exact BD_repl ho ((ho x (mi_mem (n := mN.toList) (by rw [e]; exact List.mem_cons_self))).take _)
end Go.Proofs.Ytkcpbehgjbionaa.Pure
