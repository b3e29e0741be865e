/- Checkpoints, in plain Lean: the changes by which one is kept, and what they do. -/
import Derived.Test.YtkcpbehgjbionaaCk1
set_option linter.unusedVariables false
set_option linter.unusedSimpArgs false
namespace Go.Proofs.Ytkcpbehgjbionaa.Pure
open Go Go.RowKit Go.Hw Go.Proofs.Ytkcpbehgjbionaa.G
def isC (s : ByteArray) : Bool := s.toList.head? == some 99
theorem sidx0 {s : ByteArray} (h : 1 ≤ s.size) : ∃ b : Int, sidxO s 0 = some b ∧ (b = 99 ↔ isC s = true) := by
  have hl := toList_size s
  cases hs : s.toList with
  | nil => rw [hs] at hl; simp at hl; omega
  | cons x r =>
    have e : s[(0 : Nat)]? = some x := by
      have : s.toList = s.data.toList := ByteArray.toList_eq s
      rw [this] at hs
      have h0 : s.data[0]? = some x := by rw [← Array.getElem?_toList, hs]; rfl
      have hlt : 0 < s.size := by omega
      have : s[(0 : Nat)]? = s.data[0]? := by
        rw [getElem?_pos s 0 hlt, getElem?_pos s.data 0 hlt]
        rfl
      rw [this, h0]
    refine ⟨(x.toNat : Int), ?_, ?_⟩
    · show (if (0 : Int) ≤ 0 then (s[(0 : Int).toNat]?).map (fun b => (b.toNat : Int)) else none) = _
      rw [if_pos (by omega), show (0 : Int).toNat = 0 from rfl, e]
      rfl
    · unfold isC
      rw [hs]
      simp only [List.head?_cons, beq_iff_eq, Option.some.injEq]
      constructor
      · intro hx
        apply UInt8.toNat_inj.1
        have : x.toNat = 99 := by omega
        rw [this]; rfl
      · rintro rfl; rfl
def dropC (x : S70) : S48 := ⟨1, x.f0, []⟩
def nameOut (n : ByteArray) (l : List S70) : List S48 := (l.filter (fun x => key x == n.toList)).map dropC
def gone (n : ByteArray) (l : List S70) : List S48 := (l.filter (fun x => !(key x == n.toList) && isC x.f0)).map dropC
def core (n : ByteArray) (f mark : List Int) : List S48 := [⟨2, n, f⟩, ⟨3, n, []⟩, ⟨2, mN, mark⟩, ⟨3, mN, []⟩]
def markB (num : Int) : List Int := frameS (be8 num)
def chg (l : List S70) (num : Int) (p : List Int) : List S48 := nameOut (fileB num) l ++ core (fileB num) (frameS p) (markB num) ++ gone (fileB num) l
def saveS (l : List S70) (num : Int) (p : List Int) : List S48 × Int :=
  if ¬ Fr num then ([], 1) else if 4000 < p.length then ([], 3) else if (rdD l).2.2.2 = false then ([], 2) else if (rdD l).2.1 < (rdD l).2.2.1 ∨ num ≤ (rdD l).1 then ([], 6) else (chg l num p, 0)
theorem save_loop {K : Nat} (l : List S70) (n : ByteArray) (hl : l.length ≤ 1000) (ho : ∀ x ∈ l, 1 ≤ x.f0.size) : ∀ (k i : Nat) (o g : List S48), i ≤ l.length → l.length < k + i → o.length ≤ i → g.length ≤ i →
    ckpt_Save.l17 K n (l.map (·.f0)) k (o, g, (i : Int)) = some (o ++ nameOut n (l.drop i), g ++ gone n (l.drop i)) := by
  intro k
  induction k with
  | zero => intro i o g h1 h2; omega
  | succ k ih =>
    intro i o g h1 h2 h3 h4
    rw [ckpt_Save.l17]
    by_cases hi : i < l.length
    · have hx : (l.map (·.f0))[i]? = some l[i].f0 := by rw [List.getElem?_map, List.getElem?_eq_getElem hi]; rfl
      have hlt : ((i : Int) < ((l.map (·.f0)).length : Int)) := by rw [List.length_map]; omega
      obtain ⟨b, e1, e2⟩ := sidx0 (ho _ (List.getElem_mem hi))
      simp only [condD, if_pos hlt, idxN, hx, Option.bind_some, step1 (show i < 1000000000 by omega)]
      rw [appN (by simp only [List.length_cons, List.length_nil]; omega), Option.bind_some, List.drop_eq_getElem_cons hi]
      cases hc : (l[i].f0.toList == n.toList) with
      | true =>
        have f1 : nameOut n (l[i] :: l.drop (i + 1)) = dropC l[i] :: nameOut n (l.drop (i + 1)) := by
          unfold nameOut; rw [List.filter_cons_of_pos (p := fun x : S70 => key x == n.toList) hc]; rfl
        have f2 : gone n (l[i] :: l.drop (i + 1)) = gone n (l.drop (i + 1)) := by
          unfold gone; rw [List.filter_cons_of_neg (by simp [key, hc])]
        rw [cond_true, ih (i + 1) _ _ hi (by omega) (by simp only [List.length_append, List.length_cons, List.length_nil]; omega) (by omega), f1, f2, List.append_assoc]
        rfl
      | false =>
        have f1 : nameOut n (l[i] :: l.drop (i + 1)) = nameOut n (l.drop (i + 1)) := by
          unfold nameOut; rw [List.filter_cons_of_neg (by simp [key, hc])]
        rw [cond_false, e1, Option.bind_some, condB, f1]
        by_cases h99 : b = 99
        · have hC := e2.1 h99
          have f2 : gone n (l[i] :: l.drop (i + 1)) = dropC l[i] :: gone n (l.drop (i + 1)) := by
            unfold gone; rw [List.filter_cons_of_pos (p := fun x : S70 => !(key x == n.toList) && isC x.f0) (by simp [key, hc, hC])]; rfl
          rw [if_pos h99, appN (by simp only [List.length_cons, List.length_nil]; omega), Option.bind_some, ih (i + 1) _ _ hi (by omega) (by omega) (by simp only [List.length_append, List.length_cons, List.length_nil]; omega), f2, List.append_assoc]
          rfl
        · have hC : isC l[i].f0 = false := by
            cases hh : isC l[i].f0 with
            | false => rfl
            | true => exact absurd (e2.2 hh) h99
          have f2 : gone n (l[i] :: l.drop (i + 1)) = gone n (l.drop (i + 1)) := by
            unfold gone; rw [List.filter_cons_of_neg (by simp [hC])]
          rw [if_neg h99, ih (i + 1) _ _ hi (by omega) (by omega) (by omega), f2]
    · have hlt : ¬ ((i : Int) < ((l.map (·.f0)).length : Int)) := by rw [List.length_map]; omega
      simp only [condD, if_neg hlt, List.drop_eq_nil_of_le (show l.length ≤ i by omega)]
      simp [nameOut, gone]
theorem nameOut_len (n : ByteArray) (l : List S70) : (nameOut n l).length ≤ l.length := by
  unfold nameOut
  rw [List.length_map]
  exact List.length_filter_le _ _
theorem gone_len (n : ByteArray) (l : List S70) : (gone n l).length ≤ l.length := by
  unfold gone
  rw [List.length_map]
  exact List.length_filter_le _ _
theorem save_f {K : Nat} (hK : 30000 ≤ K) {l : List S70} (hl : l.length ≤ 1000) (hb : BD l) (num : Int) {p : List Int} (hp : Bytes p) : ckpt_Save.f K ⟨l⟩ num p = some (saveS (own l) num p) := by
  have hR := own_RD l
  have hlo := hR.len
  rw [ckpt_Save.f, fair_f, Option.bind_some, saveS]
  by_cases c1 : Fr num
  · have c1' : ¬ ¬ Fr num := fun h => h c1
    rw [decide_eq_true c1, if_neg c1']
    simp only [Bool.not_true, cond_false]
    by_cases c2 : 4000 < p.length
    · rw [frame_full c2, Option.bind_some, if_pos c2]
      rfl
    · rw [frame_f hp (by omega) (by omega), Option.bind_some, if_neg c2, condN]
      simp only [if_true]
      rw [read_f hK hl hb, Option.bind_some, condB']
      by_cases c3 : (rdD (own l)).2.2.2 = false
      · rw [if_pos c3, if_pos c3]
      rw [if_neg c3, if_neg c3, condD, condD]
      by_cases c4 : (rdD (own l)).2.1 < (rdD (own l)).2.2.1
      · rw [if_pos c4, if_pos (.inl c4)]
      · rw [if_neg c4]
        by_cases c5 : num ≤ (rdD (own l)).1
        · rw [if_pos c5, if_pos (.inr c5)]
        · have c6 : ¬ ((rdD (own l)).2.1 < (rdD (own l)).2.2.1 ∨ num ≤ (rdD (own l)).1) := by omega
          have hloop := save_loop (K := K) (own l) (fileB num) (by omega) (fun x hx => (hR.ok x hx).1.1) K 0 [] [] (by omega) (by omega) (by simp) (by simp)
          rw [List.drop_zero, List.nil_append, List.nil_append] at hloop
          have hloop' : ckpt_Save.l17 K (fileB num) ((own l).map (·.f0)) K ([], [], 0) = some (nameOut (fileB num) (own l), gone (fileB num) (own l)) := hloop
          have n1 := nameOut_len (fileB num) (own l)
          have n2 := gone_len (fileB num) (own l)
          rw [if_neg c5, if_neg c6, file_f hK, Option.bind_some, names_f hl (by omega), Option.bind_some, hloop', Option.bind_some, num_f _ (by omega), Option.bind_some, frame_f (be8_bytes _) (by simp [be8, be4]) (by omega), Option.bind_some]
          rw [appN (by simp only [List.length_cons, List.length_nil]; omega), Option.bind_some, appN (by simp only [List.length_append, List.length_cons, List.length_nil]; omega), Option.bind_some]
          rfl
  · rw [decide_eq_false c1, if_pos c1]
    rfl
/-! What changes do. -/
noncomputable def doC (l : List S70) (c : S48) : List S70 × Int :=
  if c.f0 = 1 then dropS (own l) c.f1 else if c.f0 = 2 then putS (own l) c.f1 c.f2 else if c.f0 = 3 then syncS (own l) c.f1 else (l, 1)
noncomputable def doR (fuel : Int) : Nat → List S70 → List S48 → List S70 × Nat
  | n, l, [] => (l, n)
  | n, l, c :: cs => if (n : Int) < fuel then (if (doC l c).2 = 0 then doR fuel (n + 1) (doC l c).1 cs else (l, n)) else (l, n)
theorem doC_len {l : List S70} (hl : l.length ≤ 1000) (c : S48) : (doC l c).1.length ≤ 1000 := by
  unfold doC
  split
  · have := (RD_drop (own_RD l) c.f1).len; omega
  · split
    · have := (RD_put (own_RD l) c.f1 c.f2).len; omega
    · split
      · have := (RD_sync (own_RD l) c.f1).len; omega
      · exact hl
theorem do_loop {K : Nat} (hK : 30000 ≤ K) (cs : List S48) (fuel : Int) (hcs : cs.length ≤ 1000) (hp : ∀ c ∈ cs, c.f2.length ≤ 1000000000) : ∀ (k n : Nat) (l : List S70), n ≤ cs.length → cs.length < k + n → l.length ≤ 1000 →
    ckpt_Do.l1 K cs fuel k ((n : Int), l) = some (⟨(doR fuel n l (cs.drop n)).1⟩, ((doR fuel n l (cs.drop n)).2 : Int)) := by
  intro k
  induction k with
  | zero => intro n l h1 h2; omega
  | succ k ih =>
    intro n l h1 h2 hl
    rw [ckpt_Do.l1]
    by_cases hi : n < cs.length
    · have hx : cs[n]? = some cs[n] := List.getElem?_eq_getElem hi
      have hlt : ((n : Int) < (cs.length : Int)) := by omega
      have hpn := hp _ (List.getElem_mem hi)
      rw [List.drop_eq_getElem_cons hi, doR]
      simp only [condD, if_pos hlt]
      by_cases cf : (n : Int) < fuel
      · simp only [if_pos cf, idxN, hx, Option.bind_some, step1 (show n < 1000000000 by omega), condB, condN]
        have hlen := doC_len hl cs[n]
        by_cases k1 : cs[n].f0 = 1
        · have e : doC l cs[n] = dropS (own l) cs[n].f1 := by unfold doC; rw [if_pos k1]
          rw [if_pos k1, ckpt_Change__drop_f46.f, drop_f hl (by omega)]
          simp only [Option.bind_some]
          rw [← e]
          by_cases c0 : (doC l cs[n]).2 = 0
          · rw [if_pos c0, if_pos c0, ih (n + 1) _ hi (by omega) hlen]
          · rw [if_neg c0, if_neg c0]
        · by_cases k2 : cs[n].f0 = 2
          · have e : doC l cs[n] = putS (own l) cs[n].f1 cs[n].f2 := by unfold doC; rw [if_neg k1, if_pos k2]
            rw [if_neg k1, if_pos k2, ckpt_Change__put_f47.f, put_f hl (by omega) hpn]
            simp only [Option.bind_some]
            rw [← e]
            by_cases c0 : (doC l cs[n]).2 = 0
            · rw [if_pos c0, if_pos c0, ih (n + 1) _ hi (by omega) hlen]
            · rw [if_neg c0, if_neg c0]
          · by_cases k3 : cs[n].f0 = 3
            · have e : doC l cs[n] = syncS (own l) cs[n].f1 := by unfold doC; rw [if_neg k1, if_neg k2, if_pos k3]
              rw [if_neg k1, if_neg k2, if_pos k3, ckpt_Change__sync_f48.f, sync_f hl (by omega)]
              simp only [Option.bind_some]
              rw [← e]
              by_cases c0 : (doC l cs[n]).2 = 0
              · rw [if_pos c0, if_pos c0, ih (n + 1) _ hi (by omega) hlen]
              · rw [if_neg c0, if_neg c0]
            · have e : (doC l cs[n]).2 = 1 := by unfold doC; rw [if_neg k1, if_neg k2, if_neg k3]
              have c0 : ¬ (doC l cs[n]).2 = 0 := by rw [e]; decide
              rw [if_neg k1, if_neg k2, if_neg k3, if_neg c0]
      · simp only [if_neg cf]
    · have hlt : ¬ ((n : Int) < (cs.length : Int)) := by omega
      simp only [condD, if_neg hlt, List.drop_eq_nil_of_le (show cs.length ≤ n by omega), doR]
theorem do_f {K : Nat} (hK : 30000 ≤ K) {l : List S70} (hl : l.length ≤ 1000) {cs : List S48} (hcs : cs.length ≤ 1000) (hp : ∀ c ∈ cs, c.f2.length ≤ 1000000000) (fuel : Int) : ckpt_Do.f K ⟨l⟩ cs fuel = some (⟨(doR fuel 0 l cs).1⟩, ((doR fuel 0 l cs).2 : Int)) := by
  have := do_loop hK cs fuel hcs hp K 0 l (by omega) (by omega) hl
  rw [List.drop_zero] at this
  exact this
noncomputable def openS (l : List S70) : List S70 × Int :=
  if (rdD (own l)).2.2.2 = false then (l, 2) else if (rdD (own l)).2.1 = (rdD (own l)).2.2.1 then (l, 0) else cutS (own l) mN (rdD (own l)).2.1
theorem open_f {K : Nat} (hK : 30000 ≤ K) {l : List S70} (hl : l.length ≤ 1000) (hb : BD l) : ckpt_Open.f K ⟨l⟩ = some (⟨(openS l).1⟩, (openS l).2) := by
  rw [ckpt_Open.f, read_f hK hl hb, Option.bind_some, condB', openS]
  by_cases c1 : (rdD (own l)).2.2.2 = false
  · rw [if_pos c1, if_pos c1]
  rw [if_neg c1, if_neg c1, condB]
  by_cases c2 : (rdD (own l)).2.1 = (rdD (own l)).2.2.1
  · rw [if_pos c2, if_pos c2]
  · rw [if_neg c2, if_neg c2, cut_f hl (by omega), Option.bind_some]
end Go.Proofs.Ytkcpbehgjbionaa.Pure
