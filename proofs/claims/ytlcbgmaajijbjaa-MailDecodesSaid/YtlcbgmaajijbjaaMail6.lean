/- Mails, in plain Lean: the document's reader reads what the numbers say. -/
import Derived.Test.YtlcbgmaajijbjaaMail5
set_option linter.unusedVariables false
set_option linter.unusedSimpArgs false
namespace Go.Proofs.Ytlcbgmaajijbjaa.Pure
open Go Go.RowKit Go.Hw Go.Proofs.Ytlcbgmaajijbjaa.G
def B (l : List Int) : Option ((Int × Int × List Int × List Bool × List S77 × List S77) × List Int) :=
  (nm 1099511627776 l).bind fun p => (nm 1099511627776 p.2).bind fun s => (nm 24 s.2).bind fun n => (rp an n.1.toNat n.2).bind fun vs => (rp bt n.1.toNat vs.2).bind fun bs => (mgs bs.2).bind fun ins => (mgs ins.2).bind fun ou => some ((p.1, s.1, vs.1, bs.1, ins.1, ou.1), ou.2)
def bodyA (m : S34) : Option ((Int × Int × List Int × List Bool × List S77 × List S77) × List Int) → S34 × Bool
  | some ((p, s, vs, bs, ins, ou), []) => (⟨m.f0, m.f1, m.f2, m.f3, m.f4, m.f5, m.f6, m.f7, m.f8, m.f9, m.f10, ⟨p, s, vs, bs, ins⟩, ou⟩, true)
  | _ => (Z', false)
theorem nm_lt {b : Int} {l r : List Int} {x : Int} {i : Nat} (h : nm b (l.drop i) = some (x, r)) : i < l.length := by
  rcases Nat.lt_or_ge i l.length with g | g
  · exact g
  · rw [List.drop_eq_nil_of_le g] at h; cases h
theorem mgs_rest {l r : List Int} {xs : List S77} {i : Nat} (h : mgs (l.drop i) = some (xs, r)) : r = l.drop (i + 1 + 2 * xs.length) ∧ i + 1 + 2 * xs.length ≤ l.length ∧ xs.length ≤ 24 := by
  obtain ⟨⟨_, g⟩, e⟩ := (mgs_inv _ _ _).1 h
  have hl : (mn xs).length = 1 + 2 * xs.length := by rw [mn, List.length_cons, mf_length]; omega
  refine ⟨?_, ?_, g⟩
  · rw [show i + 1 + 2 * xs.length = i + (1 + 2 * xs.length) by omega, ← List.drop_drop, e, ← hl, List.drop_left]
  · have := congrArg List.length e
    rw [List.length_drop, List.length_append, hl] at this
    omega
theorem body_f {K : Nat} (hK : 2000 ≤ K) {l : List Int} {fr : Nat} {m : S34} (hf : fr ≤ 5000) (h2 : m.f11.f2 = []) (h3 : m.f11.f3 = []) : haywainref15_body.f K l fr m = some (bodyA m (B (l.drop fr))) := by
  have w1 : IntKind.wrap .i64 ((fr : Int) + 1) = ((fr + 1 : Nat) : Int) := by rw [wrapI (by omega) (by omega)]; omega
  have w2 : IntKind.wrap .i64 ((fr : Int) + 2) = ((fr + 2 : Nat) : Int) := by rw [wrapI (by omega) (by omega)]; omega
  have w3 : IntKind.wrap .i64 ((fr : Int) + 3) = ((fr + 3 : Nat) : Int) := by rw [wrapI (by omega) (by omega)]; omega
  rw [haywainref15_body.f, w1, w2, w3, small_f, small_f, small_f, h2, h3]
  simp only [Option.bind_some, condD]
  unfold B
  cases hp : nm 1099511627776 (l.drop fr) with
  | none =>
    have : smS 1099511627776 (l.drop fr) < 0 := by rw [sm_none hp]; omega
    rw [if_pos this]
    rfl
  | some p =>
  obtain ⟨p, r1⟩ := p
  obtain ⟨hr, g1, g2⟩ := nm_rest hp
  subst hr
  have : ¬ smS 1099511627776 (l.drop fr) < 0 := by rw [sm_some hp]; omega
  rw [if_neg this, sm_some hp, Option.bind_some]
  simp only
  cases hs : nm 1099511627776 (l.drop (fr + 1)) with
  | none =>
    have : smS 1099511627776 (l.drop (fr + 1)) < 0 := by rw [sm_none hs]; omega
    rw [if_pos this]
    rfl
  | some s =>
  obtain ⟨s, r2⟩ := s
  obtain ⟨hr, g3, g4⟩ := nm_rest hs
  subst hr
  have : ¬ smS 1099511627776 (l.drop (fr + 1)) < 0 := by rw [sm_some hs]; omega
  rw [if_neg this, sm_some hs, Option.bind_some]
  simp only
  rw [show fr + 1 + 1 = fr + 2 from rfl]
  cases hn : nm 24 (l.drop (fr + 2)) with
  | none =>
    have : smS 24 (l.drop (fr + 2)) < 0 := by rw [sm_none hn]; omega
    rw [if_pos this]
    rfl
  | some n =>
  obtain ⟨n, r3⟩ := n
  obtain ⟨hr, g5, g6⟩ := nm_rest hn
  have hlt := nm_lt hn
  subst hr
  obtain ⟨n, rfl⟩ : ∃ k : Nat, n = (k : Int) := ⟨n.toNat, by omega⟩
  have : ¬ smS 24 (l.drop (fr + 2)) < 0 := by rw [sm_some hn]; omega
  have w4 : IntKind.wrap .i64 (2 * (n : Int)) = ((2 * n : Nat) : Int) := by rw [wrapI (by omega) (by omega)]; omega
  have w5 : IntKind.wrap .i64 (((fr + 3 : Nat) : Int) + ((2 * n : Nat) : Int)) = ((fr + 3 + 2 * n : Nat) : Int) := by rw [wrapI (by omega) (by omega)]; omega
  rw [if_neg this, sm_some hn, Option.bind_some, w4, w5]
  simp only [Int.toNat_natCast]
  rw [show fr + 2 + 1 = fr + 3 from rfl]
  by_cases c : ((fr + 3 + 2 * n : Nat) : Int) > (l.length : Int)
  · rw [if_pos c]
    cases hv : rp an n (l.drop (fr + 3)) with
    | none => rfl
    | some v =>
    obtain ⟨vs, r⟩ := v
    obtain ⟨k1, e1⟩ := (rpa _ _ _ _).1 hv
    rw [Option.bind_some]
    simp only
    cases hb : rp bt n r with
    | none => rfl
    | some b =>
    obtain ⟨bs, r'⟩ := b
    obtain ⟨k2, e2⟩ := (rpb _ _ _ _).1 hb
    exfalso
    have := congrArg List.length e1
    rw [e2] at this
    simp only [id, List.length_drop, List.length_append, List.length_map] at this
    omega
  rw [if_neg c]
  have hv : rp an n (l.drop (fr + 3)) = some ((l.drop (fr + 3)).take n, l.drop (fr + 3 + n)) := by
    have e : l.drop (fr + 3 + n) = (l.drop (fr + 3)).drop n := List.drop_drop.symm
    refine (rpa n _ _ _).2 ⟨by show ((l.drop (fr + 3)).take n).length = n; rw [List.length_take, List.length_drop]; omega, ?_⟩
    rw [e]
    exact (List.take_append_drop n _).symm
  have hloop := body_loop (K := K) l fr n (by omega) (by omega) (by omega) K 0 [] [] (by omega) (by omega) (by simp) (by simp)
  simp only [Nat.add_zero, Nat.sub_zero, List.nil_append] at hloop
  have hloop' := hloop
  rw [show ((0 : Nat) : Int) = 0 from rfl] at hloop'
  rw [hloop', hv]
  simp only [Option.bind_some]
  cases hb : rp bt n (l.drop (fr + 3 + n)) with
  | none => rfl
  | some b =>
  obtain ⟨bs, r'⟩ := b
  obtain ⟨k2, e2⟩ := (rpb _ _ _ _).1 hb
  have er : r' = l.drop (fr + 3 + 2 * n) := by
    rw [show fr + 3 + 2 * n = fr + 3 + n + n by omega, ← List.drop_drop, e2]
    have : (bs.map b2i).length = n := by rw [List.length_map]; exact k2
    rw [← this, List.drop_left]
  subst er
  simp only [Option.bind_some, Sum.elim_inl]
  rw [taken_f hK (show fr + 3 + 2 * n ≤ 10000 by omega), Option.bind_some]
  cases hi : mgs (l.drop (fr + 3 + 2 * n)) with
  | none => rfl
  | some i =>
  obtain ⟨ins, r4⟩ := i
  obtain ⟨hr4, hl4, hc4⟩ := mgs_rest hi
  subst hr4
  simp only [tkA, Bool.not_true, cond_false, Option.bind_some]
  rw [taken_f hK (show fr + 3 + 2 * n + 1 + 2 * ins.length ≤ 10000 by omega), Option.bind_some]
  cases ho : mgs (l.drop (fr + 3 + 2 * n + 1 + 2 * ins.length)) with
  | none => rfl
  | some o =>
  obtain ⟨ou, r5⟩ := o
  obtain ⟨hr5, hl5, hc5⟩ := mgs_rest ho
  subst hr5
  simp only [tkA, Bool.not_true, cond_false, Option.bind_some, condN]
  by_cases cl : ((fr + 3 + 2 * n + 1 + 2 * ins.length + 1 + 2 * ou.length : Nat) : Int) = (l.length : Int)
  · rw [if_pos cl, List.drop_eq_nil_of_le (show l.length ≤ fr + 3 + 2 * n + 1 + 2 * ins.length + 1 + 2 * ou.length by omega)]
    rfl
  · rw [if_neg cl]
    have hlt2 : fr + 3 + 2 * n + 1 + 2 * ins.length + 1 + 2 * ou.length < l.length := by omega
    rw [List.drop_eq_getElem_cons hlt2]
    rfl
theorem B_few {l r : List Int} {p s : Int} {vs : List Int} {bs : List Bool} {ins ou : List S77} (h : B l = some ((p, s, vs, bs, ins, ou), r)) : vs.length ≤ 24 ∧ bs.length ≤ 24 ∧ ins.length ≤ 24 ∧ ou.length ≤ 24 := by
  unfold B at h
  obtain ⟨⟨p', l7⟩, h7, h⟩ := Option.bind_eq_some_iff.1 h
  obtain ⟨⟨s', l8⟩, h9, h⟩ := Option.bind_eq_some_iff.1 h
  obtain ⟨⟨n, l9⟩, h10, h⟩ := Option.bind_eq_some_iff.1 h
  obtain ⟨⟨vs', l10⟩, h11, h⟩ := Option.bind_eq_some_iff.1 h
  obtain ⟨⟨bs', l11⟩, h12, h⟩ := Option.bind_eq_some_iff.1 h
  obtain ⟨⟨ins', l12⟩, h13, h⟩ := Option.bind_eq_some_iff.1 h
  obtain ⟨⟨ou', l13⟩, h14, h⟩ := Option.bind_eq_some_iff.1 h
  simp only [Option.some.injEq, Prod.mk.injEq] at h
  obtain ⟨⟨rfl, rfl, rfl, rfl, rfl, rfl⟩, rfl⟩ := h
  obtain ⟨g10, _⟩ := (nm_inv _ _ _ _).1 h10
  obtain ⟨k11, _⟩ := (rpa _ _ _ _).1 h11
  obtain ⟨k12, _⟩ := (rpb _ _ _ _).1 h12
  obtain ⟨⟨_, k13⟩, _⟩ := (mgs_inv _ _ _).1 h13
  obtain ⟨⟨_, k14⟩, _⟩ := (mgs_inv _ _ _).1 h14
  simp only at k11 k12 k13 k14 g10
  refine ⟨by omega, by omega, k13, k14⟩
theorem D_B (l : List Int) : D l = (rp (nm 1099511627776) 8 l).bind fun h => (nm 6 h.2).bind fun o => (rp (nm 1099511627776) o.1.toNat o.2).bind fun os => (nm 5 os.2).bind fun i => (rp (nm 1099511627776) i.1.toNat i.2).bind fun is => (rp (nm 1099511627776) i.1.toNat is.2).bind fun js =>
    (B js.2).bind fun y => some (mkM h.1 os.1 is.1 js.1 y.1.1 y.1.2.1 y.1.2.2.1 y.1.2.2.2.1 y.1.2.2.2.2.1 y.1.2.2.2.2.2, y.2) := by
  unfold D B
  simp only [Option.bind_assoc, Option.bind_some]
theorem rdecode_f {K : Nat} (hK : 2000 ≤ K) {l t : List Int} (ht : t.length < 8) (hl : Rl l) (hn : l.length ≤ 1000) : haywainref15_Decode.f K (Wl l ++ t) = some (fin (if t = [] then dec l else none)) := by
  have hlen : (Wl l ++ t).length = 8 * l.length + t.length := by rw [List.length_append, Wl_length]
  have tm : ((Wl l ++ t).length : Int).tmod 8 = (t.length : Int) := by
    rw [show (8 : Int) = ((8 : Nat) : Int) from rfl, tmodN _ _ (by omega), hlen]; omega
  have rm : remO ((Wl l ++ t).length : Int) 8 = some (t.length : Int) := by rw [remO, if_neg (by omega), tm]
  rw [haywainref15_Decode.f, rm, Option.bind_some, tm, condN]
  by_cases ct : t = []
  · subst ct
    have h0 : ((([] : List Int).length : Nat) : Int) = 0 := rfl
    rw [if_pos h0, if_pos rfl, List.append_nil, condD, Wl_length]
    by_cases c3 : (((8 * l.length : Nat) : Int) > 2400)
    · have : dec l = none := by
        cases hd : dec l with
        | none => rfl
        | some m =>
          obtain ⟨g, e⟩ := (dec_iff l m).1 hd
          have := nums_length g
          rw [← e] at this
          omega
      rw [if_pos c3, this]
      rfl
    rw [if_neg c3]
    have e16 := take_loop hK l hl (by omega) K 0 [] (by omega) (by omega) (by simp)
    rw [List.drop_zero, List.nil_append] at e16
    have e16' : haywainref15_Decode.l16 K (Wl l) K ([], 0) = some l := e16
    rw [e16', Option.bind_some]
    have s1 := rsome_f hK (l := l) (fr := 0) (n := 8) (by omega) (by omega)
    rw [List.drop_zero] at s1
    have s1' : haywainref15_some.f K l 0 8 = some (smA (rp (nm 1099511627776) 8 l)) := s1
    have s2 := small_f (K := K) (l := l) (i := 8) (b := 6)
    have s2' : haywainref15_small.f K l 8 6 = some (smS 6 (l.drop 8)) := s2
    rw [s1', Option.bind_some, s2', Option.bind_some]
    unfold dec
    rw [D_B]
    cases h1 : rp (nm 1099511627776) 8 l with
    | none => rfl
    | some y1 =>
    obtain ⟨h, r1⟩ := y1
    have hr1 := rp_rest (i := 0) (by rw [List.drop_zero]; exact h1)
    obtain ⟨hr1, hl8⟩ := hr1
    rw [Nat.zero_add] at hr1
    subst hr1
    simp only [smA, Bool.not_true, cond_false, condD, Option.bind_some]
    cases h2 : nm 6 (l.drop 8) with
    | none =>
      have : smS 6 (l.drop 8) < 0 := by rw [sm_none h2]; omega
      rw [if_pos this]
      rfl
    | some y2 =>
    obtain ⟨on, r2⟩ := y2
    obtain ⟨hr2, g1, g2⟩ := nm_rest h2
    subst hr2
    obtain ⟨on, rfl⟩ : ∃ k : Nat, on = (k : Int) := ⟨on.toNat, by omega⟩
    have : ¬ smS 6 (l.drop 8) < 0 := by rw [sm_some h2]; omega
    rw [if_neg this, sm_some h2]
    obtain ⟨a0, a1, a2, a3, a4, a5, a6, a7, rfl⟩ := list8 hl8
    have i0 : ∀ (j : Nat) (x : Int), ([a0, a1, a2, a3, a4, a5, a6, a7] : List Int)[j]? = some x → idxO [a0, a1, a2, a3, a4, a5, a6, a7] (j : Int) = some x := fun j x hx => by rw [idxN]; exact hx
    have w0 : idxO [a0, a1, a2, a3, a4, a5, a6, a7] 0 = some a0 := i0 0 a0 rfl
    have w1 : idxO [a0, a1, a2, a3, a4, a5, a6, a7] 1 = some a1 := i0 1 a1 rfl
    have w2 : idxO [a0, a1, a2, a3, a4, a5, a6, a7] 2 = some a2 := i0 2 a2 rfl
    have w3 : idxO [a0, a1, a2, a3, a4, a5, a6, a7] 3 = some a3 := i0 3 a3 rfl
    have w4 : idxO [a0, a1, a2, a3, a4, a5, a6, a7] 4 = some a4 := i0 4 a4 rfl
    have w5 : idxO [a0, a1, a2, a3, a4, a5, a6, a7] 5 = some a5 := i0 5 a5 rfl
    have w6 : idxO [a0, a1, a2, a3, a4, a5, a6, a7] 6 = some a6 := i0 6 a6 rfl
    have w7 : idxO [a0, a1, a2, a3, a4, a5, a6, a7] 7 = some a7 := i0 7 a7 rfl
    rw [w0, Option.bind_some]
    rw [w1, Option.bind_some]
    rw [w2, Option.bind_some]
    rw [w3, Option.bind_some]
    rw [w4, Option.bind_some]
    rw [w5, Option.bind_some]
    rw [w6, Option.bind_some]
    rw [w7, Option.bind_some]
    have s3 := rsome_f hK (l := l) (fr := 9) (n := on) (by omega) (by omega)
    have s3' : haywainref15_some.f K l 9 (on : Int) = some (smA (rp (nm 1099511627776) on (l.drop 9))) := s3
    have v1 : IntKind.wrap .i64 (9 + (on : Int)) = ((9 + on : Nat) : Int) := by rw [wrapI (by omega) (by omega)]; omega
    have v2 : IntKind.wrap .i64 (10 + (on : Int)) = ((9 + on + 1 : Nat) : Int) := by rw [wrapI (by omega) (by omega)]; omega
    rw [s3', Option.bind_some, v1, v2, small_f, Option.bind_some]
    simp only [Option.bind_some, Int.toNat_natCast]
    rw [show 8 + 1 = 9 from rfl]
    cases h3 : rp (nm 1099511627776) on (l.drop 9) with
    | none => rfl
    | some y3 =>
    obtain ⟨os, r3⟩ := y3
    obtain ⟨hr3, hlo⟩ := rp_rest h3
    subst hr3
    simp only [smA, Bool.not_true, cond_false, Option.bind_some]
    cases h4 : nm 5 (l.drop (9 + on)) with
    | none =>
      have : smS 5 (l.drop (9 + on)) < 0 := by rw [sm_none h4]; omega
      rw [if_pos this]
      rfl
    | some y4 =>
    obtain ⟨iN, r4⟩ := y4
    obtain ⟨hr4, g3, g4⟩ := nm_rest h4
    subst hr4
    obtain ⟨iN, rfl⟩ : ∃ k : Nat, iN = (k : Int) := ⟨iN.toNat, by omega⟩
    have : ¬ smS 5 (l.drop (9 + on)) < 0 := by rw [sm_some h4]; omega
    have v3 : IntKind.wrap .i64 (((9 + on + 1 : Nat) : Int) + (iN : Int)) = ((9 + on + 1 + iN : Nat) : Int) := by rw [wrapI (by omega) (by omega)]; omega
    have v4 : IntKind.wrap .i64 (2 * (iN : Int)) = ((2 * iN : Nat) : Int) := by rw [wrapI (by omega) (by omega)]; omega
    have v5 : IntKind.wrap .i64 (((9 + on + 1 : Nat) : Int) + ((2 * iN : Nat) : Int)) = ((9 + on + 1 + iN + iN : Nat) : Int) := by rw [wrapI (by omega) (by omega)]; omega
    rw [if_neg this, sm_some h4, rsome_f hK (show 9 + on + 1 ≤ 10000 by omega) (show iN ≤ 1000 by omega), Option.bind_some, v3, v4, v5, rsome_f hK (show 9 + on + 1 + iN ≤ 10000 by omega) (show iN ≤ 1000 by omega), Option.bind_some]
    simp only [Option.bind_some, Int.toNat_natCast]
    cases h5 : rp (nm 1099511627776) iN (l.drop (9 + on + 1)) with
    | none => rfl
    | some y5 =>
    obtain ⟨is, r5⟩ := y5
    obtain ⟨hr5, hli⟩ := rp_rest h5
    subst hr5
    simp only [smA, Bool.not_true, cond_false, Option.bind_some]
    cases h6 : rp (nm 1099511627776) iN (l.drop (9 + on + 1 + iN)) with
    | none => rfl
    | some y6 =>
    obtain ⟨js, r6⟩ := y6
    obtain ⟨hr6, hlj⟩ := rp_rest h6
    subst hr6
    simp only [smA, Bool.not_true, cond_false, Option.bind_some]
    rw [body_f hK (show 9 + on + 1 + iN + iN ≤ 5000 by omega) rfl rfl, Option.bind_some]
    cases h7 : B (l.drop (9 + on + 1 + iN + iN)) with
    | none => rfl
    | some y7 =>
    obtain ⟨⟨p, s, vs, bs, ins, ou⟩, r7⟩ := y7
    obtain ⟨f1, f2, f3, f4⟩ := B_few h7
    simp only [Option.bind_some]
    cases r7 with
    | cons x r7 =>
      have hno : ¬ (x :: r7 = [] ∧ RR (mkM [a0, a1, a2, a3, a4, a5, a6, a7] os is js p s vs bs ins ou)) := fun k => by cases k.1
      rw [if_neg hno]
      rfl
    | nil =>
      simp only [bodyA, Bool.not_true, cond_false]
      have hfew : Few (mkM [a0, a1, a2, a3, a4, a5, a6, a7] os is js p s vs bs ins ou) := ⟨by show os.length ≤ 1000; omega, by show is.length ≤ 1000; omega, by show js.length ≤ 1000; omega, by show vs.length ≤ 1000; omega, by show bs.length ≤ 1000; omega, by show ins.length ≤ 1000; omega, by show ou.length ≤ 1000; omega⟩
      have hq := rright_f hfew hK
      have hq' : haywainref15_Right.f K ⟨a0, a1, a2, a3, a4, a5, a6, a7, os, is, js, ⟨p, s, vs, bs, ins⟩, ou⟩ = some (decide (RR (mkM [a0, a1, a2, a3, a4, a5, a6, a7] os is js p s vs bs ins ou))) := hq
      rw [hq', Option.bind_some]
      by_cases cR : RR (mkM [a0, a1, a2, a3, a4, a5, a6, a7] os is js p s vs bs ins ou)
      · rw [decide_eq_true cR, if_pos ⟨trivial, cR⟩]
        rfl
      · have hno : ¬ (True ∧ RR (mkM [a0, a1, a2, a3, a4, a5, a6, a7] os is js p s vs bs ins ou)) := fun k => cR k.2
        rw [decide_eq_false cR, if_neg hno]
        rfl
  · have hne : ¬ ((t.length : Int) = 0) := fun h => ct (List.eq_nil_of_length_eq_zero (by omega))
    rw [if_neg hne, if_neg ct]
    rfl
end Go.Proofs.Ytlcbgmaajijbjaa.Pure
