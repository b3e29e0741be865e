/- Functions of the program as plain Lean, with their contracts (part 0); printed by a program of this session. -/
import Derived.Test.YtkcpbehgjbionaaHw
import Derived.Test.YtkcpbehgjbionaaProg
set_option linter.unusedVariables false
set_option linter.unusedSimpArgs false
namespace Go.Proofs.Ytkcpbehgjbionaa.G
open Go Go.RowKit Go.Hw
structure S70 where
  f0 : ByteArray
  f1 : List Int
  f2 : Int
def kd70 : Kd S70 where
  sz := 3
  K := fun w x cs => ∃ h1 : Hd, cs = [.string x.f0, .slice h1.1 x.f1.length h1.2, .int .i64 x.f2] ∧ Rd (Kd.int .u8) h1.1 h1.2 x.f1 w
  len := by rintro w x cs ⟨h1, rfl, g1⟩; rfl
  one := by rintro w x cs ⟨h1, rfl, g1⟩ u hu; simp at hu; rcases hu with rfl | rfl | rfl <;> rfl
  mono := by rintro w w' x cs hw ⟨h1, rfl, g1⟩; exact ⟨h1, rfl, g1.mono hw⟩
theorem op70 (x : S70) : Lay kd70 x (fun i : Hd => [.string x.f0, .slice i.1 x.f1.length i.2, .int .i64 x.f2]) (fun i => [Rd (Kd.int .u8) i.1 i.2 x.f1]) := by
  intro X w cs h
  obtain ⟨h1, rfl, _⟩ := h w (Away.refl _ _)
  refine ⟨h1, rfl, fun f hf w' hw => ?_⟩
  obtain ⟨k1, e, g1⟩ := h w' hw
  simp only [List.cons.injEq, Value.slice.injEq, and_true, true_and] at e
  obtain ⟨e1, e1'⟩ := e
  obtain rfl : k1 = h1 := Prod.ext e1.symm e1'.symm
  simp only [List.mem_cons, List.not_mem_nil, or_false] at hf
  rcases hf with rfl
  · exact g1
def wf70 (x : S70) : Prop := (x.f0.size ≤ 140737488351232) ∧ (x.f1.length * 1 ≤ 140737488351232 ∧ ∀ x_ ∈ x.f1, (Lit.int .u8 x_).wf = true) ∧ ((Lit.int .i64 x.f2).wf = true)
structure S24 where
  f0 : List S70
def kd24 : Kd S24 where
  sz := 1
  K := fun w x cs => ∃ h0 : Hd, cs = [.slice h0.1 x.f0.length h0.2] ∧ Rd kd70 h0.1 h0.2 x.f0 w
  len := by rintro w x cs ⟨h0, rfl, g0⟩; rfl
  one := by rintro w x cs ⟨h0, rfl, g0⟩ u hu; simp at hu; rcases hu with rfl <;> rfl
  mono := by rintro w w' x cs hw ⟨h0, rfl, g0⟩; exact ⟨h0, rfl, g0.mono hw⟩
theorem op24 (x : S24) : Lay kd24 x (fun i : Hd => [.slice i.1 x.f0.length i.2]) (fun i => [Rd kd70 i.1 i.2 x.f0]) := by
  intro X w cs h
  obtain ⟨h0, rfl, _⟩ := h w (Away.refl _ _)
  refine ⟨h0, rfl, fun f hf w' hw => ?_⟩
  obtain ⟨k0, e, g0⟩ := h w' hw
  simp only [List.cons.injEq, Value.slice.injEq, and_true, true_and] at e
  obtain ⟨e0, e0'⟩ := e
  obtain rfl : k0 = h0 := Prod.ext e0.symm e0'.symm
  simp only [List.mem_cons, List.not_mem_nil, or_false] at hf
  rcases hf with rfl
  · exact g0
def wf24 (x : S24) : Prop := (x.f0.length * 48 ≤ 140737488351232 ∧ ∀ x_ ∈ x.f0, wf70 x_)
structure S48 where
  f0 : Int
  f1 : ByteArray
  f2 : List Int
def kd48 : Kd S48 where
  sz := 3
  K := fun w x cs => ∃ h2 : Hd, cs = [.int .i64 x.f0, .string x.f1, .slice h2.1 x.f2.length h2.2] ∧ Rd (Kd.int .u8) h2.1 h2.2 x.f2 w
  len := by rintro w x cs ⟨h2, rfl, g2⟩; rfl
  one := by rintro w x cs ⟨h2, rfl, g2⟩ u hu; simp at hu; rcases hu with rfl | rfl | rfl <;> rfl
  mono := by rintro w w' x cs hw ⟨h2, rfl, g2⟩; exact ⟨h2, rfl, g2.mono hw⟩
theorem op48 (x : S48) : Lay kd48 x (fun i : Hd => [.int .i64 x.f0, .string x.f1, .slice i.1 x.f2.length i.2]) (fun i => [Rd (Kd.int .u8) i.1 i.2 x.f2]) := by
  intro X w cs h
  obtain ⟨h2, rfl, _⟩ := h w (Away.refl _ _)
  refine ⟨h2, rfl, fun f hf w' hw => ?_⟩
  obtain ⟨k2, e, g2⟩ := h w' hw
  simp only [List.cons.injEq, Value.slice.injEq, and_true, true_and] at e
  obtain ⟨e2, e2'⟩ := e
  obtain rfl : k2 = h2 := Prod.ext e2.symm e2'.symm
  simp only [List.mem_cons, List.not_mem_nil, or_false] at hf
  rcases hf with rfl
  · exact g2
def wf48 (x : S48) : Prop := ((Lit.int .i64 x.f0).wf = true) ∧ (x.f1.size ≤ 140737488351232) ∧ (x.f2.length * 1 ≤ 140737488351232 ∧ ∀ x_ ∈ x.f2, (Lit.int .u8 x_).wf = true)
/-! ### haywain/ckpt.fair: function 38 -/
def ckpt_fair.f (K : Nat) (a0 : Int) : Option Bool := cond (decide (a0 ≥ 1)) (some ((decide (a0 ≤ 1099511627776)))) (some (false))
set_option maxRecDepth 100000 in
set_option maxHeartbeats 1000000 in
theorem ckpt_fair.con (K : Nat) (a0 : Int) (r : Bool) (X : Nat → Nat → Prop) (w : World) (hS : St X w [] [] [] [] [] w) (H : ckpt_fair.f K a0 = some r) :
    Cn Try.prog 38 [.int .i64 a0] X w [] (fun i : Unit => .bool r) (fun i => []) (fun i => []) (fun i => []) := by
 refine Cn.of Try.func38 (by kernel_rfl) hS ?_
 unfold ckpt_fair.f at H
 refine J.seq (by kernel_rfl) ?_
 refine J.region (by kernel_rfl) ?_
 refine O.pure 1 [] [0] [] (fr' := [(0, .int .i64 a0)]) (bx' := []) (by kernel_rfl) ?_
 refine O.nil (by kernel_rfl) ?_
 refine J.seq (by kernel_rfl) ?_
 rcases condE H with ⟨hc1, H⟩ | ⟨hc1, H⟩
 ·refine J.region (by kernel_rfl) ?_
  refine O.pure 1 [] [0, 3] [] (fr' := [(0, .int .i64 a0), (3, .int .i64 a0)]) (bx' := []) (by kernel_rfl) ?_
  refine O.q (v := .bool true) (some 4) (Qu.eqv (u := .bool (decide (a0 ≥ 1))) (v := .bool true) (0, 0) [] (by kernel_rfl) (congrArg Value.bool hc1)) (by kernel_rfl) ?_
  refine O.pure 5 [] [2] [] (fr' := [(2, .bool (decide (a0 ≤ 1099511627776)))]) (bx' := []) (by kernel_rfl) ?_
  refine O.nil (by kernel_rfl) ?_
  obtain rfl := Option.some.inj H
  exact J.doneS [] [] [] [] [] () (vs := [.bool (decide (a0 ≤ 1099511627776))]) (by kernel_rfl) (by kernel_rfl) (by kernel_rfl) (by kernel_rfl) (by kernel_rfl) (by decide)
 ·refine J.region (by kernel_rfl) ?_
  refine O.pure 1 [] [0, 3] [] (fr' := [(0, .int .i64 a0), (3, .int .i64 a0)]) (bx' := []) (by kernel_rfl) ?_
  refine O.q (v := .bool false) (some 4) (Qu.eqv (u := .bool (decide (a0 ≥ 1))) (v := .bool false) (0, 0) [] (by kernel_rfl) (congrArg Value.bool hc1)) (by kernel_rfl) ?_
  refine O.pure 5 [] [2] [] (fr' := [(2, .bool false)]) (bx' := []) (by kernel_rfl) ?_
  refine O.nil (by kernel_rfl) ?_
  obtain rfl := Option.some.inj H
  exact J.doneS [] [] [] [] [] () (vs := [.bool false]) (by kernel_rfl) (by kernel_rfl) (by kernel_rfl) (by kernel_rfl) (by kernel_rfl) (by decide)
/-! ### haywain/code.put: function 63 -/
def code_put.l1 (K : Nat) (a0 : Int) (a1 : Int) : Nat → ((List Int) × Int) → Option (List Int)
  | 0, _ => none
  | k + 1, s1 => cond (decide (s1.2 < a1)) ((shO (IntKind.wrap .i64 (8 * s1.2))).bind fun z5_8 => (idxO s1.1 (IntKind.wrap .i64 ((IntKind.wrap .i64 (a1 - 1)) - s1.2))).bind fun x5_10 => code_put.l1 K a0 a1 k ((s1.1.set ((IntKind.wrap .i64 ((IntKind.wrap .i64 (a1 - 1)) - s1.2)).toNat) (IntKind.wrap .u8 (shrI .u64 a0 (IntKind.wrap .i64 (8 * s1.2))))), (IntKind.wrap .i64 (s1.2 + 1)))) (some (s1.1))
def code_put.f (K : Nat) (a0 : Int) (a1 : Int) : Option (List Int) := (makO 1 a1).bind fun z1_1 => code_put.l1 K a0 a1 K ((List.replicate a1.toNat 0 : List Int), 0)
set_option maxRecDepth 100000 in
set_option maxHeartbeats 1000000 in
theorem code_put.con (K : Nat) (a0 : Int) (a1 : Int) (r : (List Int)) (X : Nat → Nat → Prop) (w : World) (hS : St X w [] [] [] [] [] w) (H : code_put.f K a0 a1 = some r) :
    Cn Try.prog 63 [.int .u64 a0, .int .i64 a1] X w [] (fun i : Hd => .slice i.1 r.length i.2) (fun i => []) (fun i => [mkRow (Kd.int .u8) 5 (.slice i.1 r.length i.2) r]) (fun i => []) := by
 refine Cn.of Try.func63 (by kernel_rfl) hS ?_
 unfold code_put.f at H
 refine J.seq (by kernel_rfl) ?_
 refine J.region (by kernel_rfl) ?_
 refine O.pure 1 [] [0, 1] [] (fr' := [(0, .int .u64 a0), (1, .int .i64 a1)]) (bx' := []) (by kernel_rfl) ?_
 refine O.nil (by kernel_rfl) ?_
 refine J.seq (by kernel_rfl) ?_
 obtain ⟨z1_1, hz1_1, H⟩ := bindE H
 obtain ⟨hz1_1a, hz1_1b⟩ := makE hz1_1
 refine J.region (by kernel_rfl) ?_
 refine O.pure 1 [] [0, 1, 7] [] (fr' := [(0, .int .u64 a0), (1, .int .i64 a1), (7, .int .i64 a1)]) (bx' := []) (by kernel_rfl) ?_
 refine O.e (some 8) (Ev.make (t := 27) (e := 5) (d := (Kd.int .u8)) (x := .tmp 7) (y := .tmp 7) (kl := .i64) (kc := .i64) (m := a1) (bytes := 1) (cz := [.int .u8 0]) 0 (by kernel_rfl) (by kernel_rfl) (by kernel_rfl) (by kernel_rfl) (by kernel_rfl) (by decide) hz1_1a hz1_1b (fun w' => rfl)) (by kernel_rfl) (fun p1_1 => ?_)
 refine O.pure 1 [] [0, 1, 5] [] (fr' := [(0, .int .u64 a0), (1, .int .i64 a1), (5, .slice ((some ⟨p1_1, 0, none⟩, a1.toNat) : Hd).1 a1.toNat ((some ⟨p1_1, 0, none⟩, a1.toNat) : Hd).2)]) (bx' := []) (by kernel_rfl) ?_
 refine O.nil (by kernel_rfl) ?_
 refine J.renS [0, 1, 5] (fr1 := [(0, .int .u64 a0), (1, .int .i64 a1), (5, .slice ((some ⟨p1_1, 0, none⟩, a1.toNat) : Hd).1 a1.toNat ((some ⟨p1_1, 0, none⟩, a1.toNat) : Hd).2)]) (bx1 := []) (rw1 := [mkRow (Kd.int .u8) 5 (.slice ((some ⟨p1_1, 0, none⟩, a1.toNat) : Hd).1 a1.toNat ((some ⟨p1_1, 0, none⟩, a1.toNat) : Hd).2) (List.replicate a1.toNat 0 : List Int)]) (fr' := [(0, .int .u64 a0), (1, .int .i64 a1), (5, .slice ((some ⟨p1_1, 0, none⟩, a1.toNat) : Hd).1 (List.replicate a1.toNat 0 : List Int).length ((some ⟨p1_1, 0, none⟩, a1.toNat) : Hd).2)]) (bx' := []) (rw' := [mkRow (Kd.int .u8) 5 (.slice ((some ⟨p1_1, 0, none⟩, a1.toNat) : Hd).1 (List.replicate a1.toNat 0 : List Int).length ((some ⟨p1_1, 0, none⟩, a1.toNat) : Hd).2) (List.replicate a1.toNat 0 : List Int)]) (by kernel_rfl) (by kernel_rfl) (by simp only [List.length_set, List.length_replicate]) ?_
 refine J.seq (by kernel_rfl) ?_
 refine J.seq (by kernel_rfl) ?_
 refine J.region (by kernel_rfl) ?_
 refine O.pure 2 [] [0, 1, 5, 9, 10] [] (fr' := [(0, .int .u64 a0), (1, .int .i64 a1), (5, .slice ((some ⟨p1_1, 0, none⟩, a1.toNat) : Hd).1 (List.replicate a1.toNat 0 : List Int).length ((some ⟨p1_1, 0, none⟩, a1.toNat) : Hd).2), (9, .int .i64 a1), (10, .int .i64 0)]) (bx' := []) (by kernel_rfl) ?_
 refine O.nil (by kernel_rfl) ?_
 refine J.block (id := 0) (by kernel_rfl) ?_
 refine J.loopI (σ := (List Int) × Int) (γ := Hd) (f := fun m_ s_ => code_put.l1 K a0 a1 m_ s_) (fun s1 g1 => [(0, .int .u64 a0), (1, .int .i64 a1), (5, .slice g1.1 s1.1.length g1.2), (9, .int .i64 a1), (10, .int .i64 s1.2)]) (fun s1 g1 => St X w [] [] [mkRow (Kd.int .u8) 5 (.slice g1.1 s1.1.length g1.2) s1.1] [] []) K ((List.replicate a1.toNat 0 : List Int), 0) ((some ⟨p1_1, 0, none⟩, a1.toNat) : Hd) (by kernel_rfl) H (fun _ => rfl) (fun m_ s1 H ih1 g1 => ?_) (fun h_ => ?_)
 ·unfold code_put.l1 at H
  refine J.seq (by kernel_rfl) ?_
  refine J.region (by kernel_rfl) ?_
  refine O.pure 1 [] [0, 1, 5, 9, 10, 11] [] (fr' := [(0, .int .u64 a0), (1, .int .i64 a1), (5, .slice g1.1 s1.1.length g1.2), (9, .int .i64 a1), (10, .int .i64 s1.2), (11, .bool (decide (s1.2 < a1)))]) (bx' := []) (by kernel_rfl) ?_
  refine O.nil (by kernel_rfl) ?_
  refine J.seq (by kernel_rfl) ?_
  rcases condE H with ⟨hc4, H⟩ | ⟨hc4, H⟩
  ·refine J.condT (x := .tmp 11) (t := (decide (s1.2 < a1))) (by kernel_rfl) (by kernel_rfl) hc4 ?_
   refine J.skip (by kernel_rfl) ?_
   refine J.seq (by kernel_rfl) ?_
   refine J.block (id := 1) (by kernel_rfl) ?_
   refine J.seq (by kernel_rfl) ?_
   refine J.region (by kernel_rfl) ?_
   refine O.pure 2 [] [0, 1, 5, 6, 9, 10] [] (fr' := [(0, .int .u64 a0), (1, .int .i64 a1), (5, .slice g1.1 s1.1.length g1.2), (6, .int .i64 s1.2), (9, .int .i64 a1), (10, .int .i64 s1.2)]) (bx' := []) (by kernel_rfl) ?_
   refine O.nil (by kernel_rfl) ?_
   obtain ⟨z5_8, hz5_8, H⟩ := bindE H
   have hz5_8a := shE hz5_8
   obtain ⟨x5_10, hx5_10, H⟩ := bindE H
   obtain ⟨hx5_10a, hx5_10⟩ := idxE hx5_10
   refine J.region (by kernel_rfl) ?_
   refine O.pure 8 [] [0, 1, 5, 9, 10, 13, 17, 18, 20] [] (fr' := [(0, .int .u64 a0), (1, .int .i64 a1), (5, .slice g1.1 s1.1.length g1.2), (9, .int .i64 a1), (10, .int .i64 s1.2), (13, .slice g1.1 s1.1.length g1.2), (17, .int .i64 (IntKind.wrap .i64 ((IntKind.wrap .i64 (a1 - 1)) - s1.2))), (18, .int .u64 a0), (20, .int .i64 (IntKind.wrap .i64 (8 * s1.2)))]) (bx' := []) (by kernel_rfl) ?_
   refine O.q (v := .int .u64 (shrI .u64 a0 (IntKind.wrap .i64 (8 * s1.2)))) (some 21) (Qu.shr (t := 105) (t' := 3) (x := .tmp 18) (y := .tmp 20) (k := .u64) (k' := .i64) (a := a0) (b := (IntKind.wrap .i64 (8 * s1.2))) (by kernel_rfl) (by kernel_rfl) (by kernel_rfl) hz5_8a) (by kernel_rfl) ?_
   refine O.pure 1 [] [0, 1, 5, 9, 10, 13, 17, 22] [] (fr' := [(0, .int .u64 a0), (1, .int .i64 a1), (5, .slice g1.1 s1.1.length g1.2), (9, .int .i64 a1), (10, .int .i64 s1.2), (13, .slice g1.1 s1.1.length g1.2), (17, .int .i64 (IntKind.wrap .i64 ((IntKind.wrap .i64 (a1 - 1)) - s1.2))), (22, .int .u8 (IntKind.wrap .u8 (shrI .u64 a0 (IntKind.wrap .i64 (8 * s1.2)))))]) (bx' := []) (by kernel_rfl) ?_
   refine O.mono (fun w hS => hS.pk) ?_
   refine O.peek (d := (Kd.int .u8)) (hh := g1) (m := s1.1.length) (i := (IntKind.wrap .i64 ((IntKind.wrap .i64 (a1 - 1)) - s1.2))) (by simpa only [List.length_set] using hx5_10) (Lay.int _ _) (fun p5_10 hp5_10A => ?_)
   refine O.q (v := .pointer (some ⟨p5_10.1, 0 + (IntKind.wrap .i64 ((IntKind.wrap .i64 (a1 - 1)) - s1.2)).toNat * 1, none⟩)) (some 23) (Qu.idx (t := 27) (x := .tmp 13) (y := .tmp 17) (len := s1.1.length) (c := g1.2) (kk := .i64) (sz := 1) (by kernel_rfl) (by kernel_rfl) (by kernel_rfl) (by kernel_rfl) hx5_10a (by have := idx_lt hx5_10; simpa only [List.length_set, List.length_replicate] using this) hp5_10A) (by kernel_rfl) ?_
   refine O.e none (Ev.storeR (t := 5) (x := .tmp 23) (y := .tmp 22) (hh := g1) (m := s1.1.length) (g := p5_10.1) (i := (IntKind.wrap .i64 ((IntKind.wrap .i64 (a1 - 1)) - s1.2)).toNat) (f := 0) (s := 1) (u := .pointer (some ⟨p5_10.1, 0 + (IntKind.wrap .i64 ((IntKind.wrap .i64 (a1 - 1)) - s1.2)).toNat * 1, none⟩)) (z := .int .u8 (IntKind.wrap .u8 (shrI .u64 a0 (IntKind.wrap .i64 (8 * s1.2))))) (cs := []) (ncs := [.int .u8 (IntKind.wrap .u8 (shrI .u64 a0 (IntKind.wrap .i64 (8 * s1.2))))]) (IntKind.wrap .u8 (shrI .u64 a0 (IntKind.wrap .i64 (8 * s1.2)))) none (by kernel_rfl) (by kernel_rfl) rfl (by kernel_rfl) hp5_10A (by have := idx_lt hx5_10; simpa only [List.length_set] using this) ⟨by kernel_rfl, by kernel_rfl, by kernel_rfl, by kernel_rfl⟩ ⟨rfl, rfl, rfl⟩ (by kernel_rfl) (fun w' hφ => rfl)) (by kernel_rfl) (fun _ => ?_)
   refine O.nil (by kernel_rfl) ?_
   refine J.mono (fun w hS => hS.unpk) ?_
   refine J.renS [0, 1, 5, 9, 10] (fr1 := [(0, .int .u64 a0), (1, .int .i64 a1), (5, .slice g1.1 s1.1.length g1.2), (9, .int .i64 a1), (10, .int .i64 s1.2)]) (bx1 := []) (rw1 := [mkRow (Kd.int .u8) 5 (.slice g1.1 s1.1.length g1.2) (s1.1.set ((IntKind.wrap .i64 ((IntKind.wrap .i64 (a1 - 1)) - s1.2)).toNat) (IntKind.wrap .u8 (shrI .u64 a0 (IntKind.wrap .i64 (8 * s1.2)))))]) (fr' := [(0, .int .u64 a0), (1, .int .i64 a1), (5, .slice g1.1 (s1.1.set ((IntKind.wrap .i64 ((IntKind.wrap .i64 (a1 - 1)) - s1.2)).toNat) (IntKind.wrap .u8 (shrI .u64 a0 (IntKind.wrap .i64 (8 * s1.2))))).length g1.2), (9, .int .i64 a1), (10, .int .i64 s1.2)]) (bx' := []) (rw' := [mkRow (Kd.int .u8) 5 (.slice g1.1 (s1.1.set ((IntKind.wrap .i64 ((IntKind.wrap .i64 (a1 - 1)) - s1.2)).toNat) (IntKind.wrap .u8 (shrI .u64 a0 (IntKind.wrap .i64 (8 * s1.2))))).length g1.2) (s1.1.set ((IntKind.wrap .i64 ((IntKind.wrap .i64 (a1 - 1)) - s1.2)).toNat) (IntKind.wrap .u8 (shrI .u64 a0 (IntKind.wrap .i64 (8 * s1.2)))))]) (by kernel_rfl) (by kernel_rfl) (by simp only [List.length_set, List.length_replicate]) ?_
   refine J.out ?_
   refine J.region (by kernel_rfl) ?_
   refine O.pure 2 [] [0, 1, 5, 9, 10] [] (fr' := [(0, .int .u64 a0), (1, .int .i64 a1), (5, .slice g1.1 (s1.1.set ((IntKind.wrap .i64 ((IntKind.wrap .i64 (a1 - 1)) - s1.2)).toNat) (IntKind.wrap .u8 (shrI .u64 a0 (IntKind.wrap .i64 (8 * s1.2))))).length g1.2), (9, .int .i64 a1), (10, .int .i64 (IntKind.wrap .i64 (s1.2 + 1)))]) (bx' := []) (by kernel_rfl) ?_
   refine O.nil (by kernel_rfl) ?_
   exact J.conv2 [0, 1, 5, 9, 10] [] [] [0] (by kernel_rfl) (by kernel_rfl) (by kernel_rfl) (by kernel_rfl) (by decide) (ih1 ((s1.1.set ((IntKind.wrap .i64 ((IntKind.wrap .i64 (a1 - 1)) - s1.2)).toNat) (IntKind.wrap .u8 (shrI .u64 a0 (IntKind.wrap .i64 (8 * s1.2))))), (IntKind.wrap .i64 (s1.2 + 1))) g1 H)
  ·refine J.condF (x := .tmp 11) (t := (decide (s1.2 < a1))) (by kernel_rfl) (by kernel_rfl) hc4 ?_
   refine J.exit (id := 0) (by kernel_rfl) rfl ?_
   refine J.seq (by kernel_rfl) ?_
   refine J.region (by kernel_rfl) ?_
   refine O.pure 2 [] [4] [] (fr' := [(4, .slice g1.1 s1.1.length g1.2)]) (bx' := []) (by kernel_rfl) ?_
   refine O.nil (by kernel_rfl) ?_
   obtain rfl := Option.some.inj H
   exact J.doneS [] [] [] [] [0] g1 (vs := [.slice g1.1 s1.1.length g1.2]) (by kernel_rfl) (by kernel_rfl) (by kernel_rfl) (by kernel_rfl) (by kernel_rfl) (by decide)
 ·exact J.conv2 [0, 1, 5, 9, 10] [] [] [0] (by kernel_rfl) (by kernel_rfl) (by kernel_rfl) (by kernel_rfl) (by decide) h_
/-! ### haywain/code.rest: function 59 -/
def code_rest.f (K : Nat) (a0 : List Int) : Option (List Int) := (appO 1 ([] : List Int) a0).bind fun y1_2 => some ((([] : List Int) ++ a0))
set_option maxRecDepth 100000 in
set_option maxHeartbeats 1000000 in
theorem code_rest.con (K : Nat) (a0 : List Int) (h0 : Hd) (r : (List Int)) (X : Nat → Nat → Prop) (w : World) (hS : St X w [] [] [] [] [Rd (Kd.int .u8) h0.1 h0.2 a0] w) (H : code_rest.f K a0 = some r) :
    Cn Try.prog 59 [.slice h0.1 a0.length h0.2] X w [] (fun i : Hd => .slice i.1 r.length i.2) (fun i => []) (fun i => [mkRow (Kd.int .u8) 5 (.slice i.1 r.length i.2) r]) (fun i => []) := by
 refine Cn.of Try.func59 (by kernel_rfl) hS ?_
 unfold code_rest.f at H
 refine J.seq (by kernel_rfl) ?_
 refine J.region (by kernel_rfl) ?_
 refine O.pure 1 [] [0] [] (fr' := [(0, .slice h0.1 a0.length h0.2)]) (bx' := []) (by kernel_rfl) ?_
 refine O.nil (by kernel_rfl) ?_
 refine J.seq (by kernel_rfl) ?_
 obtain ⟨y1_2, hy1_2, H⟩ := bindE H
 have hy1_2a := (appE hy1_2).1
 refine J.region (by kernel_rfl) ?_
 refine O.e (some 3) (Ev.lit (t := 27) (len := 0) (parts := #[]) (ps := []) (cs := []) (e := 5) (Kd.int .u8) ([] : List Int) (by kernel_rfl) (by kernel_rfl) (by kernel_rfl) (by kernel_rfl) (by kernel_rfl) (by decide) (fun w' hφ => (Els.nil _ _ _))) (by kernel_rfl) (fun p1_0 => ?_)
 refine O.pure 1 [] [3, 4] [] (fr' := [(3, .slice ((some ⟨p1_0, 0, none⟩, 0) : Hd).1 ([] : List Int).length ((some ⟨p1_0, 0, none⟩, 0) : Hd).2), (4, .slice h0.1 a0.length h0.2)]) (bx' := []) (by kernel_rfl) ?_
 refine O.e (some 5) (Ev.appSl (d := (Kd.int .u8)) (ys := a0) (A := h0.1) (c := h0.2) (x := .tmp 3) (y := .tmp 4) (t := 27) (bytes := 1) 0 (by kernel_rfl) (by kernel_rfl) (by kernel_rfl) rfl (by kernel_rfl) (by decide) hy1_2a) (by kernel_rfl) (fun p1_2 => ?_)
 refine O.pure 1 [] [2] [] (fr' := [(2, .slice p1_2.1 (([] : List Int) ++ a0).length p1_2.2)]) (bx' := []) (by kernel_rfl) ?_
 refine O.nil (by kernel_rfl) ?_
 obtain rfl := Option.some.inj H
 exact J.doneS [] [] [] [] [0] p1_2 (vs := [.slice p1_2.1 (([] : List Int) ++ a0).length p1_2.2]) (by kernel_rfl) (by kernel_rfl) (by kernel_rfl) (by kernel_rfl) (by kernel_rfl) (by decide)
/-! ### haywain/code.Sum: function 60 -/
def code_Sum.l80 (K : Nat) : Nat → (Int × Int) → Option Int
  | 0, _ => none
  | k + 1, s80 => cond (decide (s80.2 < 8)) (cond ((andI .u32 s80.1 1) == 1) (code_Sum.l80 K k ((xorI .u32 (shrI .u32 s80.1 1) 3988292384), (IntKind.wrap .i64 (s80.2 + 1)))) (code_Sum.l80 K k ((shrI .u32 s80.1 1), (IntKind.wrap .i64 (s80.2 + 1))))) (some (s80.1))
def code_Sum.l1 (K : Nat) (a0 : List Int) : Nat → (Int × Int) → Option Int
  | 0, _ => none
  | k + 1, s1 => cond (decide (s1.2 < (a0.length : Int))) (((idxO a0 s1.2).bind fun x4_0 => (code_Sum.l80 K K ((xorI .u32 s1.1 (IntKind.wrap .u32 x4_0)), 0) : Option Int).bind fun o73 : Int => some (o73) : Option Int).bind fun o59 : Int => code_Sum.l1 K a0 k (o59, (IntKind.wrap .i64 (s1.2 + 1)))) (some ((notI .u32 s1.1)))
def code_Sum.f (K : Nat) (a0 : List Int) : Option Int := code_Sum.l1 K a0 K (4294967295, 0)
set_option maxRecDepth 100000 in
set_option maxHeartbeats 1000000 in
theorem code_Sum.con (K : Nat) (a0 : List Int) (h0 : Hd) (r : Int) (X : Nat → Nat → Prop) (w : World) (hS : St X w [] [] [] [] [Rd (Kd.int .u8) h0.1 h0.2 a0] w) (H : code_Sum.f K a0 = some r) :
    Cn Try.prog 60 [.slice h0.1 a0.length h0.2] X w [] (fun i : Unit => .int .u32 r) (fun i => []) (fun i => []) (fun i => []) := by
 refine Cn.of Try.func60 (by kernel_rfl) hS ?_
 unfold code_Sum.f at H
 refine J.seq (by kernel_rfl) ?_
 refine J.region (by kernel_rfl) ?_
 refine O.pure 1 [] [0] [] (fr' := [(0, .slice h0.1 a0.length h0.2)]) (bx' := []) (by kernel_rfl) ?_
 refine O.nil (by kernel_rfl) ?_
 refine J.seq (by kernel_rfl) ?_
 refine J.region (by kernel_rfl) ?_
 refine O.pure 1 [] [0, 3] [] (fr' := [(0, .slice h0.1 a0.length h0.2), (3, .int .u32 4294967295)]) (bx' := []) (by kernel_rfl) ?_
 refine O.nil (by kernel_rfl) ?_
 refine J.seq (by kernel_rfl) ?_
 refine J.seq (by kernel_rfl) ?_
 refine J.region (by kernel_rfl) ?_
 refine O.pure 3 [] [3, 7, 8, 9] [] (fr' := [(3, .int .u32 4294967295), (7, .slice h0.1 a0.length h0.2), (8, .int .i64 (a0.length : Int)), (9, .int .i64 0)]) (bx' := []) (by kernel_rfl) ?_
 refine O.nil (by kernel_rfl) ?_
 refine J.block (id := 0) (by kernel_rfl) ?_
 refine J.loopI (σ := Int × Int) (γ := Unit) (f := fun m_ s_ => code_Sum.l1 K a0 m_ s_) (fun s1 g1 => [(3, .int .u32 s1.1), (7, .slice h0.1 a0.length h0.2), (8, .int .i64 (a0.length : Int)), (9, .int .i64 s1.2)]) (fun s1 g1 => St X w [] [] [] [] [Rd (Kd.int .u8) h0.1 h0.2 a0]) K (4294967295, 0) () (by kernel_rfl) H (fun _ => rfl) (fun m_ s1 H ih1 g1 => ?_) (fun h_ => ?_)
 ·unfold code_Sum.l1 at H
  refine J.seq (by kernel_rfl) ?_
  refine J.region (by kernel_rfl) ?_
  refine O.pure 1 [] [3, 7, 8, 9, 10] [] (fr' := [(3, .int .u32 s1.1), (7, .slice h0.1 a0.length h0.2), (8, .int .i64 (a0.length : Int)), (9, .int .i64 s1.2), (10, .bool (decide (s1.2 < (a0.length : Int))))]) (bx' := []) (by kernel_rfl) ?_
  refine O.nil (by kernel_rfl) ?_
  refine J.seq (by kernel_rfl) ?_
  rcases condE H with ⟨hc58, H⟩ | ⟨hc58, H⟩
  ·refine J.condT (x := .tmp 10) (t := (decide (s1.2 < (a0.length : Int)))) (by kernel_rfl) (by kernel_rfl) hc58 ?_
   refine J.skip (by kernel_rfl) ?_
   refine J.seq (by kernel_rfl) ?_
   refine J.join (α := Int) (γ := Unit) (fun o59 q59 => [(3, .int .u32 o59), (7, .slice h0.1 a0.length h0.2), (8, .int .i64 (a0.length : Int)), (9, .int .i64 s1.2)]) (fun o59 q59 => St X w [] [] [] [] [Rd (Kd.int .u8) h0.1 h0.2 a0]) H (fun o59 q59 H => ?_) (fun o59 H hj59 => ?_)
   ·refine J.region (by kernel_rfl) ?_
    refine O.pure 2 [] [3, 7, 8, 9] [] (fr' := [(3, .int .u32 o59), (7, .slice h0.1 a0.length h0.2), (8, .int .i64 (a0.length : Int)), (9, .int .i64 (IntKind.wrap .i64 (s1.2 + 1)))]) (bx' := []) (by kernel_rfl) ?_
    refine O.nil (by kernel_rfl) ?_
    exact J.conv2 [3, 7, 8, 9] [0] [] [] (by kernel_rfl) (by kernel_rfl) (by kernel_rfl) (by kernel_rfl) (by decide) (ih1 (o59, (IntKind.wrap .i64 (s1.2 + 1))) () H)
   ·refine J.block (id := 1) (by kernel_rfl) ?_
    refine J.seq (by kernel_rfl) ?_
    obtain ⟨x4_0, hx4_0, H⟩ := bindE H
    obtain ⟨hx4_0a, hx4_0⟩ := idxE hx4_0
    refine J.region (by kernel_rfl) ?_
    refine O.open (d := (Kd.int .u8)) (h := h0) (i := s1.2) 0 rfl hx4_0 (Lay.int _ _) (fun p4_0 hp4_0A => ?_)
    refine O.q (v := .pointer (some ⟨p4_0.1, p4_0.2.1 + s1.2.toNat * 1, none⟩)) (some 11) (Qu.idx (t := 27) (x := .tmp 7) (y := .tmp 9) (c := h0.2) (kk := .i64) (sz := 1) (by kernel_rfl) (by kernel_rfl) (by kernel_rfl) (by kernel_rfl) hx4_0a (idx_lt hx4_0) hp4_0A) (by kernel_rfl) ?_
    refine O.pure 2 [(0, 0)] [3, 5, 7, 8, 9] [p4_0.1, p4_0.2.1 + s1.2.toNat * 1] (fr' := [(3, .int .u32 s1.1), (5, .int .u8 x4_0), (7, .slice h0.1 a0.length h0.2), (8, .int .i64 (a0.length : Int)), (9, .int .i64 s1.2)]) (bx' := []) (by kernel_rfl) ?_
    refine O.nil (by kernel_rfl) ?_
    refine J.seq (by kernel_rfl) ?_
    refine J.region (by kernel_rfl) ?_
    refine O.pure 5 [] [3, 7, 8, 9] [] (fr' := [(3, .int .u32 (xorI .u32 s1.1 (IntKind.wrap .u32 x4_0))), (7, .slice h0.1 a0.length h0.2), (8, .int .i64 (a0.length : Int)), (9, .int .i64 s1.2)]) (bx' := []) (by kernel_rfl) ?_
    refine O.nil (by kernel_rfl) ?_
    refine J.seq (by kernel_rfl) ?_
    refine J.region (by kernel_rfl) ?_
    refine O.pure 1 [] [3, 7, 8, 9, 17] [] (fr' := [(3, .int .u32 (xorI .u32 s1.1 (IntKind.wrap .u32 x4_0))), (7, .slice h0.1 a0.length h0.2), (8, .int .i64 (a0.length : Int)), (9, .int .i64 s1.2), (17, .int .i64 0)]) (bx' := []) (by kernel_rfl) ?_
    refine O.nil (by kernel_rfl) ?_
    refine J.join (α := Int) (γ := Unit) (fun o73 q73 => [(3, .int .u32 o73), (7, .slice h0.1 a0.length h0.2), (8, .int .i64 (a0.length : Int)), (9, .int .i64 s1.2)]) (fun o73 q73 => St X w [] [] [] [] [Rd (Kd.int .u8) h0.1 h0.2 a0]) H (fun o73 q73 H => ?_) (fun o73 H hj73 => ?_)
    ·refine J.out ?_
     obtain rfl := Option.some.inj H
     exact J.conv2 [3, 7, 8, 9] [0] [] [] (by kernel_rfl) (by kernel_rfl) (by kernel_rfl) (by kernel_rfl) (by decide) (hj59 ())
    ·refine J.block (id := 2) (by kernel_rfl) ?_
     refine J.loopI (σ := Int × Int) (γ := Unit) (f := fun m_ s_ => code_Sum.l80 K m_ s_) (fun s80 g80 => [(3, .int .u32 s80.1), (7, .slice h0.1 a0.length h0.2), (8, .int .i64 (a0.length : Int)), (9, .int .i64 s1.2), (17, .int .i64 s80.2)]) (fun s80 g80 => St X w [] [] [] [] [Rd (Kd.int .u8) h0.1 h0.2 a0]) K ((xorI .u32 s1.1 (IntKind.wrap .u32 x4_0)), 0) () (by kernel_rfl) H (fun _ => rfl) (fun m_ s80 H ih80 g80 => ?_) (fun h_ => ?_)
     ·unfold code_Sum.l80 at H
      refine J.seq (by kernel_rfl) ?_
      refine J.region (by kernel_rfl) ?_
      refine O.pure 1 [] [3, 7, 8, 9, 17, 18] [] (fr' := [(3, .int .u32 s80.1), (7, .slice h0.1 a0.length h0.2), (8, .int .i64 (a0.length : Int)), (9, .int .i64 s1.2), (17, .int .i64 s80.2), (18, .bool (decide (s80.2 < 8)))]) (bx' := []) (by kernel_rfl) ?_
      refine O.nil (by kernel_rfl) ?_
      refine J.seq (by kernel_rfl) ?_
      rcases condE H with ⟨hc84, H⟩ | ⟨hc84, H⟩
      ·refine J.condT (x := .tmp 18) (t := (decide (s80.2 < 8))) (by kernel_rfl) (by kernel_rfl) hc84 ?_
       refine J.skip (by kernel_rfl) ?_
       refine J.seq (by kernel_rfl) ?_
       refine J.block (id := 3) (by kernel_rfl) ?_
       refine J.seq (by kernel_rfl) ?_
       refine J.region (by kernel_rfl) ?_
       refine O.pure 3 [] [3, 6, 7, 8, 9, 17] [] (fr' := [(3, .int .u32 s80.1), (6, .int .u32 (andI .u32 s80.1 1)), (7, .slice h0.1 a0.length h0.2), (8, .int .i64 (a0.length : Int)), (9, .int .i64 s1.2), (17, .int .i64 s80.2)]) (bx' := []) (by kernel_rfl) ?_
       refine O.nil (by kernel_rfl) ?_
       refine J.seq (by kernel_rfl) ?_
       refine J.region (by kernel_rfl) ?_
       refine O.pure 1 [] [3, 6, 7, 8, 9, 17, 21] [] (fr' := [(3, .int .u32 s80.1), (6, .int .u32 (andI .u32 s80.1 1)), (7, .slice h0.1 a0.length h0.2), (8, .int .i64 (a0.length : Int)), (9, .int .i64 s1.2), (17, .int .i64 s80.2), (21, .int .u32 s80.1)]) (bx' := []) (by kernel_rfl) ?_
       refine O.q (v := .int .u32 (shrI .u32 s80.1 1)) (some 22) (Qu.shr (t := 107) (t' := 116) (x := .tmp 21) (y := .const (.int .u64 1)) (k := .u32) (k' := .u64) (a := s80.1) (b := 1) (by kernel_rfl) (by kernel_rfl) (by kernel_rfl) (by decide)) (by kernel_rfl) ?_
       refine O.pure 1 [] [3, 6, 7, 8, 9, 17] [] (fr' := [(3, .int .u32 (shrI .u32 s80.1 1)), (6, .int .u32 (andI .u32 s80.1 1)), (7, .slice h0.1 a0.length h0.2), (8, .int .i64 (a0.length : Int)), (9, .int .i64 s1.2), (17, .int .i64 s80.2)]) (bx' := []) (by kernel_rfl) ?_
       refine O.nil (by kernel_rfl) ?_
       refine J.seq (by kernel_rfl) ?_
       refine J.region (by kernel_rfl) ?_
       refine O.pure 2 [] [3, 7, 8, 9, 17, 24] [] (fr' := [(3, .int .u32 (shrI .u32 s80.1 1)), (7, .slice h0.1 a0.length h0.2), (8, .int .i64 (a0.length : Int)), (9, .int .i64 s1.2), (17, .int .i64 s80.2), (24, .bool ((andI .u32 s80.1 1) == 1))]) (bx' := []) (by kernel_rfl) ?_
       refine O.nil (by kernel_rfl) ?_
       rcases condE H with ⟨hc85, H⟩ | ⟨hc85, H⟩
       ·refine J.condT (x := .tmp 24) (t := ((andI .u32 s80.1 1) == 1)) (by kernel_rfl) (by kernel_rfl) hc85 ?_
        refine J.region (by kernel_rfl) ?_
        refine O.pure 3 [] [3, 7, 8, 9, 17] [] (fr' := [(3, .int .u32 (xorI .u32 (shrI .u32 s80.1 1) 3988292384)), (7, .slice h0.1 a0.length h0.2), (8, .int .i64 (a0.length : Int)), (9, .int .i64 s1.2), (17, .int .i64 s80.2)]) (bx' := []) (by kernel_rfl) ?_
        refine O.nil (by kernel_rfl) ?_
        refine J.out ?_
        refine J.region (by kernel_rfl) ?_
        refine O.pure 2 [] [3, 7, 8, 9, 17] [] (fr' := [(3, .int .u32 (xorI .u32 (shrI .u32 s80.1 1) 3988292384)), (7, .slice h0.1 a0.length h0.2), (8, .int .i64 (a0.length : Int)), (9, .int .i64 s1.2), (17, .int .i64 (IntKind.wrap .i64 (s80.2 + 1)))]) (bx' := []) (by kernel_rfl) ?_
        refine O.nil (by kernel_rfl) ?_
        exact J.conv2 [3, 7, 8, 9, 17] [0] [] [] (by kernel_rfl) (by kernel_rfl) (by kernel_rfl) (by kernel_rfl) (by decide) (ih80 ((xorI .u32 (shrI .u32 s80.1 1) 3988292384), (IntKind.wrap .i64 (s80.2 + 1))) () H)
       ·refine J.condF (x := .tmp 24) (t := ((andI .u32 s80.1 1) == 1)) (by kernel_rfl) (by kernel_rfl) hc85 ?_
        refine J.skip (by kernel_rfl) ?_
        refine J.out ?_
        refine J.region (by kernel_rfl) ?_
        refine O.pure 2 [] [3, 7, 8, 9, 17] [] (fr' := [(3, .int .u32 (shrI .u32 s80.1 1)), (7, .slice h0.1 a0.length h0.2), (8, .int .i64 (a0.length : Int)), (9, .int .i64 s1.2), (17, .int .i64 (IntKind.wrap .i64 (s80.2 + 1)))]) (bx' := []) (by kernel_rfl) ?_
        refine O.nil (by kernel_rfl) ?_
        exact J.conv2 [3, 7, 8, 9, 17] [0] [] [] (by kernel_rfl) (by kernel_rfl) (by kernel_rfl) (by kernel_rfl) (by decide) (ih80 ((shrI .u32 s80.1 1), (IntKind.wrap .i64 (s80.2 + 1))) () H)
      ·refine J.condF (x := .tmp 18) (t := (decide (s80.2 < 8))) (by kernel_rfl) (by kernel_rfl) hc84 ?_
       refine J.exit (id := 2) (by kernel_rfl) rfl ?_
       obtain rfl := Option.some.inj H
       exact J.conv2 [3, 7, 8, 9] [0] [] [] (by kernel_rfl) (by kernel_rfl) (by kernel_rfl) (by kernel_rfl) (by decide) (hj73 ())
     ·exact J.conv2 [3, 7, 8, 9, 17] [0] [] [] (by kernel_rfl) (by kernel_rfl) (by kernel_rfl) (by kernel_rfl) (by decide) h_
  ·refine J.condF (x := .tmp 10) (t := (decide (s1.2 < (a0.length : Int)))) (by kernel_rfl) (by kernel_rfl) hc58 ?_
   refine J.exit (id := 0) (by kernel_rfl) rfl ?_
   refine J.seq (by kernel_rfl) ?_
   refine J.region (by kernel_rfl) ?_
   refine O.pure 3 [] [2] [] (fr' := [(2, .int .u32 (notI .u32 s1.1))]) (bx' := []) (by kernel_rfl) ?_
   refine O.nil (by kernel_rfl) ?_
   obtain rfl := Option.some.inj H
   exact J.doneS [] [] [] [] [] () (vs := [.int .u32 (notI .u32 s1.1)]) (by kernel_rfl) (by kernel_rfl) (by kernel_rfl) (by kernel_rfl) (by kernel_rfl) (by decide)
 ·exact J.conv2 [3, 7, 8, 9] [0] [] [] (by kernel_rfl) (by kernel_rfl) (by kernel_rfl) (by kernel_rfl) (by decide) h_
/-! ### haywain/code.Frame: function 41 -/
def code_Frame.f (K : Nat) (a0 : List Int) : Option ((List Int) × Int) := cond (decide ((a0.length : Int) > 4000)) (some ((([] : List Int), 3))) ((code_put.f K (IntKind.wrap .u64 (a0.length : Int)) 4).bind fun x3_3 => (code_rest.f K x3_3).bind fun x4_1 => (appO 1 x4_1 a0).bind fun y4_3 => (code_Sum.f K (x4_1 ++ a0)).bind fun x4_4 => (code_put.f K (IntKind.wrap .u64 x4_4) 4).bind fun x5_3 => (appO 1 x3_3 x5_3).bind fun y5_4 => (appO 1 (x3_3 ++ x5_3) a0).bind fun y5_6 => some ((((x3_3 ++ x5_3) ++ a0), 0)))
set_option maxRecDepth 100000 in
set_option maxHeartbeats 1000000 in
theorem code_Frame.con (K : Nat) (a0 : List Int) (h0 : Hd) (r : ((List Int) × Int)) (X : Nat → Nat → Prop) (w : World) (hS : St X w [] [] [] [] [Rd (Kd.int .u8) h0.1 h0.2 a0] w) (H : code_Frame.f K a0 = some r) :
    Cn Try.prog 41 [.slice h0.1 a0.length h0.2] X w [] (fun i : Hd => .tuple #[.slice i.1 r.1.length i.2, .int .i64 r.2]) (fun i => []) (fun i => [mkRow (Kd.int .u8) 5 (.slice i.1 r.1.length i.2) r.1]) (fun i => []) := by
 refine Cn.of Try.func41 (by kernel_rfl) hS ?_
 unfold code_Frame.f at H
 refine J.seq (by kernel_rfl) ?_
 refine J.region (by kernel_rfl) ?_
 refine O.pure 2 [] [0] [] (fr' := [(0, .slice h0.1 a0.length h0.2)]) (bx' := []) (by kernel_rfl) ?_
 refine O.nil (by kernel_rfl) ?_
 refine J.seq (by kernel_rfl) ?_
 refine J.seq (by kernel_rfl) ?_
 refine J.region (by kernel_rfl) ?_
 refine O.pure 3 [] [0, 8] [] (fr' := [(0, .slice h0.1 a0.length h0.2), (8, .bool (decide ((a0.length : Int) > 4000)))]) (bx' := []) (by kernel_rfl) ?_
 refine O.nil (by kernel_rfl) ?_
 rcases condE H with ⟨hc1, H⟩ | ⟨hc1, H⟩
 ·refine J.condT (x := .tmp 8) (t := (decide ((a0.length : Int) > 4000))) (by kernel_rfl) (by kernel_rfl) hc1 ?_
  refine J.seq (by kernel_rfl) ?_
  refine J.region (by kernel_rfl) ?_
  refine O.pure 2 [] [2, 3] [] (fr' := [(2, .slice none 0 0), (3, .int .i64 3)]) (bx' := []) (by kernel_rfl) ?_
  refine O.nil (by kernel_rfl) ?_
  obtain rfl := Option.some.inj H
  refine J.nilrow (Kd.int .u8) 5 ?_
  exact J.doneS [] [] [] [] [0] (none, 0) (vs := [.slice none 0 0, .int .i64 3]) (by kernel_rfl) (by kernel_rfl) (by kernel_rfl) (by kernel_rfl) (by kernel_rfl) (by decide)
 ·refine J.condF (x := .tmp 8) (t := (decide ((a0.length : Int) > 4000))) (by kernel_rfl) (by kernel_rfl) hc1 ?_
  refine J.skip (by kernel_rfl) ?_
  refine J.seq (by kernel_rfl) ?_
  obtain ⟨x3_3, hx3_3, H⟩ := bindE H
  refine J.region (by kernel_rfl) ?_
  refine O.pure 3 [] [0, 11] [] (fr' := [(0, .slice h0.1 a0.length h0.2), (11, .int .u64 (IntKind.wrap .u64 (a0.length : Int)))]) (bx' := []) (by kernel_rfl) ?_
  refine O.e (some 12) (Ev.call0 (xs := [.tmp 11, .const (.int .i64 4)]) [] (by kernel_rfl) (by kernel_rfl) (fun w hS => code_put.con K (IntKind.wrap .u64 (a0.length : Int)) 4  _ _ w hS hx3_3)) (by kernel_rfl) (fun p3_3 => ?_)
  refine O.pure 1 [] [0, 4] [] (fr' := [(0, .slice h0.1 a0.length h0.2), (4, .slice p3_3.1 x3_3.length p3_3.2)]) (bx' := []) (by kernel_rfl) ?_
  refine O.nil (by kernel_rfl) ?_
  refine J.seq (by kernel_rfl) ?_
  obtain ⟨x4_1, hx4_1, H⟩ := bindE H
  obtain ⟨y4_3, hy4_3, H⟩ := bindE H
  have hy4_3a := (appE hy4_3).1
  obtain ⟨x4_4, hx4_4, H⟩ := bindE H
  refine J.region (by kernel_rfl) ?_
  refine O.pure 1 [] [0, 4, 13] [] (fr' := [(0, .slice h0.1 a0.length h0.2), (4, .slice p3_3.1 x3_3.length p3_3.2), (13, .slice p3_3.1 x3_3.length p3_3.2)]) (bx' := []) (by kernel_rfl) ?_
  refine O.e (some 14) (Ev.callLb (xs1 := [.tmp 13]) [0] (fun w hS => (hS.rowsel [0] rfl (by decide)).freezeL (hh := p3_3) (m := x3_3.length) (xs := x3_3) rfl) (by kernel_rfl) (by kernel_rfl) (fun _ q hq _ _ _ h => by obtain rfl := List.mem_singleton.1 hq; exact h) (fun w hS => code_rest.con K x3_3 p3_3  _ _ w hS hx4_1)) (by kernel_rfl) (fun p4_1 => ?_)
  refine O.pure 1 [] [0, 4, 14, 15] [] (fr' := [(0, .slice h0.1 a0.length h0.2), (4, .slice p3_3.1 x3_3.length p3_3.2), (14, .slice p4_1.1 x4_1.length p4_1.2), (15, .slice h0.1 a0.length h0.2)]) (bx' := []) (by kernel_rfl) ?_
  refine O.e (some 16) (Ev.appSl (d := (Kd.int .u8)) (ys := a0) (A := h0.1) (c := h0.2) (x := .tmp 14) (y := .tmp 15) (t := 27) (bytes := 1) 0 (by kernel_rfl) (by kernel_rfl) (by kernel_rfl) rfl (by kernel_rfl) (by decide) hy4_3a) (by kernel_rfl) (fun p4_3 => ?_)
  refine O.e (some 17) (Ev.callLb (xs1 := [.tmp 16]) [0] (fun w hS => (hS.rowsel [0, 1] rfl (by decide)).freezeL (hh := p4_3) (m := (x4_1 ++ a0).length) (xs := (x4_1 ++ a0)) rfl) (by kernel_rfl) (by kernel_rfl) (fun _ q hq => by cases hq) (fun w hS => code_Sum.con K (x4_1 ++ a0) p4_3  _ _ w hS hx4_4)) (by kernel_rfl) (fun _ => ?_)
  refine O.pure 1 [] [0, 4, 5] [] (fr' := [(0, .slice h0.1 a0.length h0.2), (4, .slice p3_3.1 x3_3.length p3_3.2), (5, .int .u32 x4_4)]) (bx' := []) (by kernel_rfl) ?_
  refine O.nil (by kernel_rfl) ?_
  refine J.seq (by kernel_rfl) ?_
  obtain ⟨x5_3, hx5_3, H⟩ := bindE H
  obtain ⟨y5_4, hy5_4, H⟩ := bindE H
  have hy5_4a := (appE hy5_4).1
  obtain ⟨y5_6, hy5_6, H⟩ := bindE H
  have hy5_6a := (appE hy5_6).1
  refine J.region (by kernel_rfl) ?_
  refine O.pure 3 [] [0, 18, 20] [] (fr' := [(0, .slice h0.1 a0.length h0.2), (18, .slice p3_3.1 x3_3.length p3_3.2), (20, .int .u64 (IntKind.wrap .u64 x4_4))]) (bx' := []) (by kernel_rfl) ?_
  refine O.e (some 21) (Ev.call0 (xs := [.tmp 20, .const (.int .i64 4)]) [] (by kernel_rfl) (by kernel_rfl) (fun w hS => code_put.con K (IntKind.wrap .u64 x4_4) 4  _ _ w hS hx5_3)) (by kernel_rfl) (fun p5_3 => ?_)
  refine O.e (some 22) (Ev.mono (fun w hS => hS.freezeH (h := p5_3) (xs := x5_3)) (Ev.mono (fun w hS => hS.rowsel [1, 0] rfl (by decide)) (Ev.appSl (d := (Kd.int .u8)) (ys := x5_3) (A := p5_3.1) (c := p5_3.2) (x := .tmp 18) (y := .tmp 21) (t := 27) (bytes := 1) 0 (by kernel_rfl) (by kernel_rfl) (by kernel_rfl) rfl (by kernel_rfl) (by decide) hy5_4a))) (by kernel_rfl) (fun p5_4 => ?_)
  refine O.pure 1 [] [22, 23] [] (fr' := [(22, .slice p5_4.1 (x3_3 ++ x5_3).length p5_4.2), (23, .slice h0.1 a0.length h0.2)]) (bx' := []) (by kernel_rfl) ?_
  refine O.e (some 24) (Ev.appSl (d := (Kd.int .u8)) (ys := a0) (A := h0.1) (c := h0.2) (x := .tmp 22) (y := .tmp 23) (t := 27) (bytes := 1) 1 (by kernel_rfl) (by kernel_rfl) (by kernel_rfl) rfl (by kernel_rfl) (by decide) hy5_6a) (by kernel_rfl) (fun p5_6 => ?_)
  refine O.pure 2 [] [2, 3] [] (fr' := [(2, .slice p5_6.1 ((x3_3 ++ x5_3) ++ a0).length p5_6.2), (3, .int .i64 0)]) (bx' := []) (by kernel_rfl) ?_
  refine O.nil (by kernel_rfl) ?_
  obtain rfl := Option.some.inj H
  exact J.doneS [] [] [] [] [0] p5_6 (vs := [.slice p5_6.1 ((x3_3 ++ x5_3) ++ a0).length p5_6.2, .int .i64 0]) (by kernel_rfl) (by kernel_rfl) (by kernel_rfl) (by kernel_rfl) (by kernel_rfl) (by decide)
/-! ### haywain/disk.named: function 53 -/
def disk_named.f (K : Nat) (a0 : ByteArray) : Option Bool := cond (decide ((a0.size : Int) ≥ 1)) (some ((decide ((a0.size : Int) ≤ 16)))) (some (false))
set_option maxRecDepth 100000 in
set_option maxHeartbeats 1000000 in
theorem disk_named.con (K : Nat) (a0 : ByteArray) (r : Bool) (X : Nat → Nat → Prop) (w : World) (hS : St X w [] [] [] [] [] w) (H : disk_named.f K a0 = some r) :
    Cn Try.prog 53 [.string a0] X w [] (fun i : Unit => .bool r) (fun i => []) (fun i => []) (fun i => []) := by
 refine Cn.of Try.func53 (by kernel_rfl) hS ?_
 unfold disk_named.f at H
 refine J.seq (by kernel_rfl) ?_
 refine J.region (by kernel_rfl) ?_
 refine O.pure 1 [] [0] [] (fr' := [(0, .string a0)]) (bx' := []) (by kernel_rfl) ?_
 refine O.nil (by kernel_rfl) ?_
 refine J.seq (by kernel_rfl) ?_
 rcases condE H with ⟨hc1, H⟩ | ⟨hc1, H⟩
 ·refine J.region (by kernel_rfl) ?_
  refine O.pure 2 [] [0, 4] [] (fr' := [(0, .string a0), (4, .int .i64 (a0.size : Int))]) (bx' := []) (by kernel_rfl) ?_
  refine O.q (v := .bool true) (some 5) (Qu.eqv (u := .bool (decide ((a0.size : Int) ≥ 1))) (v := .bool true) (0, 0) [] (by kernel_rfl) (congrArg Value.bool hc1)) (by kernel_rfl) ?_
  refine O.pure 6 [] [2] [] (fr' := [(2, .bool (decide ((a0.size : Int) ≤ 16)))]) (bx' := []) (by kernel_rfl) ?_
  refine O.nil (by kernel_rfl) ?_
  obtain rfl := Option.some.inj H
  exact J.doneS [] [] [] [] [] () (vs := [.bool (decide ((a0.size : Int) ≤ 16))]) (by kernel_rfl) (by kernel_rfl) (by kernel_rfl) (by kernel_rfl) (by kernel_rfl) (by decide)
 ·refine J.region (by kernel_rfl) ?_
  refine O.pure 2 [] [0, 4] [] (fr' := [(0, .string a0), (4, .int .i64 (a0.size : Int))]) (bx' := []) (by kernel_rfl) ?_
  refine O.q (v := .bool false) (some 5) (Qu.eqv (u := .bool (decide ((a0.size : Int) ≥ 1))) (v := .bool false) (0, 0) [] (by kernel_rfl) (congrArg Value.bool hc1)) (by kernel_rfl) ?_
  refine O.pure 6 [] [2] [] (fr' := [(2, .bool false)]) (bx' := []) (by kernel_rfl) ?_
  refine O.nil (by kernel_rfl) ?_
  obtain rfl := Option.some.inj H
  exact J.doneS [] [] [] [] [] () (vs := [.bool false]) (by kernel_rfl) (by kernel_rfl) (by kernel_rfl) (by kernel_rfl) (by kernel_rfl) (by decide)
/-! ### haywain/disk.Right: function 72 -/
def disk_Right.l1 (K : Nat) (a0 : S24) : Nat → (ByteArray × Int) → Option Bool
  | 0, _ => none
  | k + 1, s1 => cond (decide (s1.2 < (a0.f0.length : Int))) ((idxO a0.f0 s1.2).bind fun x4_0 => (disk_named.f K x4_0.f0).bind fun x5_2 => cond (!x5_2) (some (false)) (cond ((Op.bytesLess x4_0.f0.toList s1.1.toList) || (x4_0.f0.toList == s1.1.toList)) (some (false)) (cond (decide ((x4_0.f1.length : Int) > 20000)) (some (false)) (cond (decide (x4_0.f2 < 0)) (some (false)) (cond (decide (x4_0.f2 > (x4_0.f1.length : Int))) (some (false)) (disk_Right.l1 K a0 k (x4_0.f0, (IntKind.wrap .i64 (s1.2 + 1))))))))) (some ((decide ((a0.f0.length : Int) ≤ 40))))
def disk_Right.f (K : Nat) (a0 : S24) : Option Bool := disk_Right.l1 K a0 K ((⟨#[]⟩ : ByteArray), 0)
set_option maxRecDepth 100000 in
set_option maxHeartbeats 1000000 in
theorem disk_Right.con (K : Nat) (a0 : S24) (h0 : Hd) (r : Bool) (X : Nat → Nat → Prop) (w : World) (hS : St X w [] [] [] [] [Rd kd70 h0.1 h0.2 a0.f0] w) (H : disk_Right.f K a0 = some r) :
    Cn Try.prog 72 [.agg #[.slice h0.1 a0.f0.length h0.2]] X w [] (fun i : Unit => .bool r) (fun i => []) (fun i => []) (fun i => []) := by
 refine Cn.of Try.func72 (by kernel_rfl) hS ?_
 unfold disk_Right.f at H
 refine J.seq (by kernel_rfl) ?_
 refine J.region (by kernel_rfl) ?_
 refine O.e (some 1) (Ev.box (t := 24) (x := .tmp 0) (v := .agg #[.slice h0.1 a0.f0.length h0.2]) (by kernel_rfl) (by kernel_rfl)) (by kernel_rfl) (fun p0_0 => ?_)
 refine O.pure 1 [] [1] [] (fr' := [(1, .pointer (some ⟨p0_0, 0, none⟩))]) (bx' := [⟨p0_0, [.slice h0.1 a0.f0.length h0.2], 24⟩]) (by kernel_rfl) ?_
 refine O.nil (by kernel_rfl) ?_
 refine J.seq (by kernel_rfl) ?_
 refine J.region (by kernel_rfl) ?_
 refine O.pure 1 [] [1, 3] [] (fr' := [(1, .pointer (some ⟨p0_0, 0, none⟩)), (3, .string (⟨#[]⟩ : ByteArray))]) (bx' := [⟨p0_0, [.slice h0.1 a0.f0.length h0.2], 24⟩]) (by kernel_rfl) ?_
 refine O.nil (by kernel_rfl) ?_
 refine J.seq (by kernel_rfl) ?_
 refine J.seq (by kernel_rfl) ?_
 refine J.region (by kernel_rfl) ?_
 refine O.pure 4 [(0, 0)] [1, 3, 7, 8, 9] [p0_0, 0] (fr' := [(1, .pointer (some ⟨p0_0, 0, none⟩)), (3, .string (⟨#[]⟩ : ByteArray)), (7, .slice h0.1 a0.f0.length h0.2), (8, .int .i64 (a0.f0.length : Int)), (9, .int .i64 0)]) (bx' := [⟨p0_0, [.slice h0.1 a0.f0.length h0.2], 24⟩]) (by kernel_rfl) ?_
 refine O.nil (by kernel_rfl) ?_
 refine J.block (id := 0) (by kernel_rfl) ?_
 refine J.loopI (σ := ByteArray × Int) (γ := Unit) (f := fun m_ s_ => disk_Right.l1 K a0 m_ s_) (fun s1 g1 => [(1, .pointer (some ⟨p0_0, 0, none⟩)), (3, .string s1.1), (7, .slice h0.1 a0.f0.length h0.2), (8, .int .i64 (a0.f0.length : Int)), (9, .int .i64 s1.2)]) (fun s1 g1 => St X w [] [⟨p0_0, [.slice h0.1 a0.f0.length h0.2], 24⟩] [] [] [Rd kd70 h0.1 h0.2 a0.f0]) K ((⟨#[]⟩ : ByteArray), 0) () (by kernel_rfl) H (fun _ => rfl) (fun m_ s1 H ih1 g1 => ?_) (fun h_ => ?_)
 ·unfold disk_Right.l1 at H
  refine J.seq (by kernel_rfl) ?_
  refine J.region (by kernel_rfl) ?_
  refine O.pure 1 [] [1, 3, 7, 8, 9, 10] [] (fr' := [(1, .pointer (some ⟨p0_0, 0, none⟩)), (3, .string s1.1), (7, .slice h0.1 a0.f0.length h0.2), (8, .int .i64 (a0.f0.length : Int)), (9, .int .i64 s1.2), (10, .bool (decide (s1.2 < (a0.f0.length : Int))))]) (bx' := [⟨p0_0, [.slice h0.1 a0.f0.length h0.2], 24⟩]) (by kernel_rfl) ?_
  refine O.nil (by kernel_rfl) ?_
  refine J.seq (by kernel_rfl) ?_
  rcases condE H with ⟨hc14, H⟩ | ⟨hc14, H⟩
  ·refine J.condT (x := .tmp 10) (t := (decide (s1.2 < (a0.f0.length : Int)))) (by kernel_rfl) (by kernel_rfl) hc14 ?_
   refine J.skip (by kernel_rfl) ?_
   refine J.seq (by kernel_rfl) ?_
   refine J.block (id := 1) (by kernel_rfl) ?_
   refine J.seq (by kernel_rfl) ?_
   obtain ⟨x4_0, hx4_0, H⟩ := bindE H
   obtain ⟨hx4_0a, hx4_0⟩ := idxE hx4_0
   refine J.region (by kernel_rfl) ?_
   refine O.open (d := kd70) (h := h0) (i := s1.2) 0 rfl hx4_0 (op70 _) (fun p4_0 hp4_0A => ?_)
   refine O.q (v := .pointer (some ⟨p4_0.1, p4_0.2.1 + s1.2.toNat * 3, none⟩)) (some 11) (Qu.idx (t := 22) (x := .tmp 7) (y := .tmp 9) (c := h0.2) (kk := .i64) (sz := 3) (by kernel_rfl) (by kernel_rfl) (by kernel_rfl) (by kernel_rfl) hx4_0a (idx_lt hx4_0) hp4_0A) (by kernel_rfl) ?_
   refine O.pure 1 [(1, 0)] [1, 3, 7, 8, 9, 12] [p4_0.1, p4_0.2.1 + s1.2.toNat * 3] (fr' := [(1, .pointer (some ⟨p0_0, 0, none⟩)), (3, .string s1.1), (7, .slice h0.1 a0.f0.length h0.2), (8, .int .i64 (a0.f0.length : Int)), (9, .int .i64 s1.2), (12, .agg #[.string x4_0.f0, .slice p4_0.2.2.1 x4_0.f1.length p4_0.2.2.2, .int .i64 x4_0.f2])]) (bx' := [⟨p0_0, [.slice h0.1 a0.f0.length h0.2], 24⟩]) (by kernel_rfl) ?_
   refine O.e (some 5) (Ev.alloc (t := 70) (z := .agg #[.string (⟨#[]⟩ : ByteArray), .slice none 0 0, .int .i64 0]) (by kernel_rfl) (by kernel_rfl)) (by kernel_rfl) (fun p4_2 => ?_)
   refine O.pure 1 [(0, 0)] [1, 3, 5, 7, 8, 9] [p4_2, 0] (fr' := [(1, .pointer (some ⟨p0_0, 0, none⟩)), (3, .string s1.1), (5, .pointer (some ⟨p4_2, 0, none⟩)), (7, .slice h0.1 a0.f0.length h0.2), (8, .int .i64 (a0.f0.length : Int)), (9, .int .i64 s1.2)]) (bx' := [⟨p4_2, [.string x4_0.f0, .slice p4_0.2.2.1 x4_0.f1.length p4_0.2.2.2, .int .i64 x4_0.f2], 70⟩, ⟨p0_0, [.slice h0.1 a0.f0.length h0.2], 24⟩]) (by kernel_rfl) ?_
   refine O.nil (by kernel_rfl) ?_
   refine J.seq (by kernel_rfl) ?_
   refine J.seq (by kernel_rfl) ?_
   obtain ⟨x5_2, hx5_2, H⟩ := bindE H
   rcases condE H with ⟨hc15, H⟩ | ⟨hc15, H⟩
   ·refine J.region (by kernel_rfl) ?_
    refine O.pure 2 [(0, 0)] [1, 3, 5, 7, 8, 9, 14] [p4_2, 0] (fr' := [(1, .pointer (some ⟨p0_0, 0, none⟩)), (3, .string s1.1), (5, .pointer (some ⟨p4_2, 0, none⟩)), (7, .slice h0.1 a0.f0.length h0.2), (8, .int .i64 (a0.f0.length : Int)), (9, .int .i64 s1.2), (14, .string x4_0.f0)]) (bx' := [⟨p4_2, [.string x4_0.f0, .slice p4_0.2.2.1 x4_0.f1.length p4_0.2.2.2, .int .i64 x4_0.f2], 70⟩, ⟨p0_0, [.slice h0.1 a0.f0.length h0.2], 24⟩]) (by kernel_rfl) ?_
    refine O.e (some 15) (Ev.call0 (xs := [.tmp 14]) [] (by kernel_rfl) (by kernel_rfl) (fun w hS => disk_named.con K x4_0.f0  _ _ w hS hx5_2)) (by kernel_rfl) (fun _ => ?_)
    refine O.q (v := .bool true) (some 16) (Qu.eqv (u := .bool (!x5_2)) (v := .bool true) (0, 0) [] (by kernel_rfl) (congrArg Value.bool hc15)) (by kernel_rfl) ?_
    refine O.pure 25 [] [1, 5, 7, 8, 9, 18, 19, 20, 21, 24, 25, 26, 27, 30, 31, 32, 35, 36, 37, 38, 39, 40, 41] [] (fr' := [(1, .pointer (some ⟨p0_0, 0, none⟩)), (5, .pointer (some ⟨p4_2, 0, none⟩)), (7, .slice h0.1 a0.f0.length h0.2), (8, .int .i64 (a0.f0.length : Int)), (9, .int .i64 s1.2), (18, undef), (19, undef), (20, undef), (21, undef), (24, undef), (25, undef), (26, undef), (27, undef), (30, undef), (31, undef), (32, undef), (35, undef), (36, undef), (37, undef), (38, undef), (39, undef), (40, undef), (41, .bool true)]) (bx' := [⟨p4_2, [.string x4_0.f0, .slice p4_0.2.2.1 x4_0.f1.length p4_0.2.2.2, .int .i64 x4_0.f2], 70⟩, ⟨p0_0, [.slice h0.1 a0.f0.length h0.2], 24⟩]) (by kernel_rfl) ?_
    refine O.nil (by kernel_rfl) ?_
    refine J.cond (o := .tmp 41) true (by kernel_rfl) (by kernel_rfl) ?_
    refine J.seq (by kernel_rfl) ?_
    refine J.region (by kernel_rfl) ?_
    refine O.pure 1 [] [2] [] (fr' := [(2, .bool false)]) (bx' := [⟨p4_2, [.string x4_0.f0, .slice p4_0.2.2.1 x4_0.f1.length p4_0.2.2.2, .int .i64 x4_0.f2], 70⟩, ⟨p0_0, [.slice h0.1 a0.f0.length h0.2], 24⟩]) (by kernel_rfl) ?_
    refine O.nil (by kernel_rfl) ?_
    obtain rfl := Option.some.inj H
    exact J.doneS [] [] [] [] [] () (vs := [.bool false]) (by kernel_rfl) (by kernel_rfl) (by kernel_rfl) (by kernel_rfl) (by kernel_rfl) (by decide)
   ·rcases condE H with ⟨hc16, H⟩ | ⟨hc16, H⟩
    ·refine J.region (by kernel_rfl) ?_
     refine O.pure 2 [(0, 0)] [1, 3, 5, 7, 8, 9, 14] [p4_2, 0] (fr' := [(1, .pointer (some ⟨p0_0, 0, none⟩)), (3, .string s1.1), (5, .pointer (some ⟨p4_2, 0, none⟩)), (7, .slice h0.1 a0.f0.length h0.2), (8, .int .i64 (a0.f0.length : Int)), (9, .int .i64 s1.2), (14, .string x4_0.f0)]) (bx' := [⟨p4_2, [.string x4_0.f0, .slice p4_0.2.2.1 x4_0.f1.length p4_0.2.2.2, .int .i64 x4_0.f2], 70⟩, ⟨p0_0, [.slice h0.1 a0.f0.length h0.2], 24⟩]) (by kernel_rfl) ?_
     refine O.e (some 15) (Ev.call0 (xs := [.tmp 14]) [] (by kernel_rfl) (by kernel_rfl) (fun w hS => disk_named.con K x4_0.f0  _ _ w hS hx5_2)) (by kernel_rfl) (fun _ => ?_)
     refine O.q (v := .bool false) (some 16) (Qu.eqv (u := .bool (!x5_2)) (v := .bool false) (0, 0) [] (by kernel_rfl) (congrArg Value.bool hc15)) (by kernel_rfl) ?_
     refine O.pure 4 [(0, 0)] [1, 5, 7, 8, 9, 17, 18, 19, 20] [p4_2, 0] (fr' := [(1, .pointer (some ⟨p0_0, 0, none⟩)), (5, .pointer (some ⟨p4_2, 0, none⟩)), (7, .slice h0.1 a0.f0.length h0.2), (8, .int .i64 (a0.f0.length : Int)), (9, .int .i64 s1.2), (17, .bool false), (18, .pointer (some ⟨p4_2, 0, none⟩)), (19, .string x4_0.f0), (20, .string s1.1)]) (bx' := [⟨p4_2, [.string x4_0.f0, .slice p4_0.2.2.1 x4_0.f1.length p4_0.2.2.2, .int .i64 x4_0.f2], 70⟩, ⟨p0_0, [.slice h0.1 a0.f0.length h0.2], 24⟩]) (by kernel_rfl) ?_
     refine O.q (v := .bool true) (some 21) (Qu.eqv (u := .bool ((Op.bytesLess x4_0.f0.toList s1.1.toList) || (x4_0.f0.toList == s1.1.toList))) (v := .bool true) (0, 0) [] (by kernel_rfl) (congrArg Value.bool hc16)) (by kernel_rfl) ?_
     refine O.pure 20 [] [1, 5, 7, 8, 9, 18, 19, 20, 21, 24, 25, 26, 27, 30, 31, 32, 35, 36, 37, 38, 39, 40, 41] [] (fr' := [(1, .pointer (some ⟨p0_0, 0, none⟩)), (5, .pointer (some ⟨p4_2, 0, none⟩)), (7, .slice h0.1 a0.f0.length h0.2), (8, .int .i64 (a0.f0.length : Int)), (9, .int .i64 s1.2), (18, .pointer (some ⟨p4_2, 0, none⟩)), (19, .string x4_0.f0), (20, .string s1.1), (21, .bool true), (24, undef), (25, undef), (26, undef), (27, undef), (30, undef), (31, undef), (32, undef), (35, undef), (36, undef), (37, undef), (38, undef), (39, undef), (40, undef), (41, .bool true)]) (bx' := [⟨p4_2, [.string x4_0.f0, .slice p4_0.2.2.1 x4_0.f1.length p4_0.2.2.2, .int .i64 x4_0.f2], 70⟩, ⟨p0_0, [.slice h0.1 a0.f0.length h0.2], 24⟩]) (by kernel_rfl) ?_
     refine O.nil (by kernel_rfl) ?_
     refine J.cond (o := .tmp 41) true (by kernel_rfl) (by kernel_rfl) ?_
     refine J.seq (by kernel_rfl) ?_
     refine J.region (by kernel_rfl) ?_
     refine O.pure 1 [] [2] [] (fr' := [(2, .bool false)]) (bx' := [⟨p4_2, [.string x4_0.f0, .slice p4_0.2.2.1 x4_0.f1.length p4_0.2.2.2, .int .i64 x4_0.f2], 70⟩, ⟨p0_0, [.slice h0.1 a0.f0.length h0.2], 24⟩]) (by kernel_rfl) ?_
     refine O.nil (by kernel_rfl) ?_
     obtain rfl := Option.some.inj H
     exact J.doneS [] [] [] [] [] () (vs := [.bool false]) (by kernel_rfl) (by kernel_rfl) (by kernel_rfl) (by kernel_rfl) (by kernel_rfl) (by decide)
    ·rcases condE H with ⟨hc17, H⟩ | ⟨hc17, H⟩
     ·refine J.region (by kernel_rfl) ?_
      refine O.pure 2 [(0, 0)] [1, 3, 5, 7, 8, 9, 14] [p4_2, 0] (fr' := [(1, .pointer (some ⟨p0_0, 0, none⟩)), (3, .string s1.1), (5, .pointer (some ⟨p4_2, 0, none⟩)), (7, .slice h0.1 a0.f0.length h0.2), (8, .int .i64 (a0.f0.length : Int)), (9, .int .i64 s1.2), (14, .string x4_0.f0)]) (bx' := [⟨p4_2, [.string x4_0.f0, .slice p4_0.2.2.1 x4_0.f1.length p4_0.2.2.2, .int .i64 x4_0.f2], 70⟩, ⟨p0_0, [.slice h0.1 a0.f0.length h0.2], 24⟩]) (by kernel_rfl) ?_
      refine O.e (some 15) (Ev.call0 (xs := [.tmp 14]) [] (by kernel_rfl) (by kernel_rfl) (fun w hS => disk_named.con K x4_0.f0  _ _ w hS hx5_2)) (by kernel_rfl) (fun _ => ?_)
      refine O.q (v := .bool false) (some 16) (Qu.eqv (u := .bool (!x5_2)) (v := .bool false) (0, 0) [] (by kernel_rfl) (congrArg Value.bool hc15)) (by kernel_rfl) ?_
      refine O.pure 4 [(0, 0)] [1, 5, 7, 8, 9, 17, 18, 19, 20] [p4_2, 0] (fr' := [(1, .pointer (some ⟨p0_0, 0, none⟩)), (5, .pointer (some ⟨p4_2, 0, none⟩)), (7, .slice h0.1 a0.f0.length h0.2), (8, .int .i64 (a0.f0.length : Int)), (9, .int .i64 s1.2), (17, .bool false), (18, .pointer (some ⟨p4_2, 0, none⟩)), (19, .string x4_0.f0), (20, .string s1.1)]) (bx' := [⟨p4_2, [.string x4_0.f0, .slice p4_0.2.2.1 x4_0.f1.length p4_0.2.2.2, .int .i64 x4_0.f2], 70⟩, ⟨p0_0, [.slice h0.1 a0.f0.length h0.2], 24⟩]) (by kernel_rfl) ?_
      refine O.q (v := .bool false) (some 21) (Qu.eqv (u := .bool ((Op.bytesLess x4_0.f0.toList s1.1.toList) || (x4_0.f0.toList == s1.1.toList))) (v := .bool false) (0, 0) [] (by kernel_rfl) (congrArg Value.bool hc16)) (by kernel_rfl) ?_
      refine O.pure 5 [(0, 1)] [1, 5, 7, 8, 9, 18, 19, 20, 21, 23, 24, 25, 26] [p4_2, 1] (fr' := [(1, .pointer (some ⟨p0_0, 0, none⟩)), (5, .pointer (some ⟨p4_2, 0, none⟩)), (7, .slice h0.1 a0.f0.length h0.2), (8, .int .i64 (a0.f0.length : Int)), (9, .int .i64 s1.2), (18, .pointer (some ⟨p4_2, 0, none⟩)), (19, .string x4_0.f0), (20, .string s1.1), (21, .bool false), (23, .bool false), (24, .pointer (some ⟨p4_2, 1, none⟩)), (25, .slice p4_0.2.2.1 x4_0.f1.length p4_0.2.2.2), (26, .int .i64 (x4_0.f1.length : Int))]) (bx' := [⟨p4_2, [.string x4_0.f0, .slice p4_0.2.2.1 x4_0.f1.length p4_0.2.2.2, .int .i64 x4_0.f2], 70⟩, ⟨p0_0, [.slice h0.1 a0.f0.length h0.2], 24⟩]) (by kernel_rfl) ?_
      refine O.q (v := .bool true) (some 27) (Qu.eqv (u := .bool (decide ((x4_0.f1.length : Int) > 20000))) (v := .bool true) (0, 0) [] (by kernel_rfl) (congrArg Value.bool hc17)) (by kernel_rfl) ?_
      refine O.pure 14 [] [1, 5, 7, 8, 9, 18, 19, 20, 21, 24, 25, 26, 27, 30, 31, 32, 35, 36, 37, 38, 39, 40, 41] [] (fr' := [(1, .pointer (some ⟨p0_0, 0, none⟩)), (5, .pointer (some ⟨p4_2, 0, none⟩)), (7, .slice h0.1 a0.f0.length h0.2), (8, .int .i64 (a0.f0.length : Int)), (9, .int .i64 s1.2), (18, .pointer (some ⟨p4_2, 0, none⟩)), (19, .string x4_0.f0), (20, .string s1.1), (21, .bool false), (24, .pointer (some ⟨p4_2, 1, none⟩)), (25, .slice p4_0.2.2.1 x4_0.f1.length p4_0.2.2.2), (26, .int .i64 (x4_0.f1.length : Int)), (27, .bool true), (30, undef), (31, undef), (32, undef), (35, undef), (36, undef), (37, undef), (38, undef), (39, undef), (40, undef), (41, .bool true)]) (bx' := [⟨p4_2, [.string x4_0.f0, .slice p4_0.2.2.1 x4_0.f1.length p4_0.2.2.2, .int .i64 x4_0.f2], 70⟩, ⟨p0_0, [.slice h0.1 a0.f0.length h0.2], 24⟩]) (by kernel_rfl) ?_
      refine O.nil (by kernel_rfl) ?_
      refine J.cond (o := .tmp 41) true (by kernel_rfl) (by kernel_rfl) ?_
      refine J.seq (by kernel_rfl) ?_
      refine J.region (by kernel_rfl) ?_
      refine O.pure 1 [] [2] [] (fr' := [(2, .bool false)]) (bx' := [⟨p4_2, [.string x4_0.f0, .slice p4_0.2.2.1 x4_0.f1.length p4_0.2.2.2, .int .i64 x4_0.f2], 70⟩, ⟨p0_0, [.slice h0.1 a0.f0.length h0.2], 24⟩]) (by kernel_rfl) ?_
      refine O.nil (by kernel_rfl) ?_
      obtain rfl := Option.some.inj H
      exact J.doneS [] [] [] [] [] () (vs := [.bool false]) (by kernel_rfl) (by kernel_rfl) (by kernel_rfl) (by kernel_rfl) (by kernel_rfl) (by decide)
     ·rcases condE H with ⟨hc18, H⟩ | ⟨hc18, H⟩
      ·refine J.region (by kernel_rfl) ?_
       refine O.pure 2 [(0, 0)] [1, 3, 5, 7, 8, 9, 14] [p4_2, 0] (fr' := [(1, .pointer (some ⟨p0_0, 0, none⟩)), (3, .string s1.1), (5, .pointer (some ⟨p4_2, 0, none⟩)), (7, .slice h0.1 a0.f0.length h0.2), (8, .int .i64 (a0.f0.length : Int)), (9, .int .i64 s1.2), (14, .string x4_0.f0)]) (bx' := [⟨p4_2, [.string x4_0.f0, .slice p4_0.2.2.1 x4_0.f1.length p4_0.2.2.2, .int .i64 x4_0.f2], 70⟩, ⟨p0_0, [.slice h0.1 a0.f0.length h0.2], 24⟩]) (by kernel_rfl) ?_
       refine O.e (some 15) (Ev.call0 (xs := [.tmp 14]) [] (by kernel_rfl) (by kernel_rfl) (fun w hS => disk_named.con K x4_0.f0  _ _ w hS hx5_2)) (by kernel_rfl) (fun _ => ?_)
       refine O.q (v := .bool false) (some 16) (Qu.eqv (u := .bool (!x5_2)) (v := .bool false) (0, 0) [] (by kernel_rfl) (congrArg Value.bool hc15)) (by kernel_rfl) ?_
       refine O.pure 4 [(0, 0)] [1, 5, 7, 8, 9, 17, 18, 19, 20] [p4_2, 0] (fr' := [(1, .pointer (some ⟨p0_0, 0, none⟩)), (5, .pointer (some ⟨p4_2, 0, none⟩)), (7, .slice h0.1 a0.f0.length h0.2), (8, .int .i64 (a0.f0.length : Int)), (9, .int .i64 s1.2), (17, .bool false), (18, .pointer (some ⟨p4_2, 0, none⟩)), (19, .string x4_0.f0), (20, .string s1.1)]) (bx' := [⟨p4_2, [.string x4_0.f0, .slice p4_0.2.2.1 x4_0.f1.length p4_0.2.2.2, .int .i64 x4_0.f2], 70⟩, ⟨p0_0, [.slice h0.1 a0.f0.length h0.2], 24⟩]) (by kernel_rfl) ?_
       refine O.q (v := .bool false) (some 21) (Qu.eqv (u := .bool ((Op.bytesLess x4_0.f0.toList s1.1.toList) || (x4_0.f0.toList == s1.1.toList))) (v := .bool false) (0, 0) [] (by kernel_rfl) (congrArg Value.bool hc16)) (by kernel_rfl) ?_
       refine O.pure 5 [(0, 1)] [1, 5, 7, 8, 9, 18, 19, 20, 21, 23, 24, 25, 26] [p4_2, 1] (fr' := [(1, .pointer (some ⟨p0_0, 0, none⟩)), (5, .pointer (some ⟨p4_2, 0, none⟩)), (7, .slice h0.1 a0.f0.length h0.2), (8, .int .i64 (a0.f0.length : Int)), (9, .int .i64 s1.2), (18, .pointer (some ⟨p4_2, 0, none⟩)), (19, .string x4_0.f0), (20, .string s1.1), (21, .bool false), (23, .bool false), (24, .pointer (some ⟨p4_2, 1, none⟩)), (25, .slice p4_0.2.2.1 x4_0.f1.length p4_0.2.2.2), (26, .int .i64 (x4_0.f1.length : Int))]) (bx' := [⟨p4_2, [.string x4_0.f0, .slice p4_0.2.2.1 x4_0.f1.length p4_0.2.2.2, .int .i64 x4_0.f2], 70⟩, ⟨p0_0, [.slice h0.1 a0.f0.length h0.2], 24⟩]) (by kernel_rfl) ?_
       refine O.q (v := .bool false) (some 27) (Qu.eqv (u := .bool (decide ((x4_0.f1.length : Int) > 20000))) (v := .bool false) (0, 0) [] (by kernel_rfl) (congrArg Value.bool hc17)) (by kernel_rfl) ?_
       refine O.pure 4 [(0, 2)] [1, 5, 7, 8, 9, 18, 19, 20, 21, 24, 25, 26, 27, 29, 30, 31] [p4_2, 2] (fr' := [(1, .pointer (some ⟨p0_0, 0, none⟩)), (5, .pointer (some ⟨p4_2, 0, none⟩)), (7, .slice h0.1 a0.f0.length h0.2), (8, .int .i64 (a0.f0.length : Int)), (9, .int .i64 s1.2), (18, .pointer (some ⟨p4_2, 0, none⟩)), (19, .string x4_0.f0), (20, .string s1.1), (21, .bool false), (24, .pointer (some ⟨p4_2, 1, none⟩)), (25, .slice p4_0.2.2.1 x4_0.f1.length p4_0.2.2.2), (26, .int .i64 (x4_0.f1.length : Int)), (27, .bool false), (29, .bool false), (30, .pointer (some ⟨p4_2, 2, none⟩)), (31, .int .i64 x4_0.f2)]) (bx' := [⟨p4_2, [.string x4_0.f0, .slice p4_0.2.2.1 x4_0.f1.length p4_0.2.2.2, .int .i64 x4_0.f2], 70⟩, ⟨p0_0, [.slice h0.1 a0.f0.length h0.2], 24⟩]) (by kernel_rfl) ?_
       refine O.q (v := .bool true) (some 32) (Qu.eqv (u := .bool (decide (x4_0.f2 < 0))) (v := .bool true) (0, 0) [] (by kernel_rfl) (congrArg Value.bool hc18)) (by kernel_rfl) ?_
       refine O.pure 9 [] [1, 5, 7, 8, 9, 18, 19, 20, 21, 24, 25, 26, 27, 30, 31, 32, 35, 36, 37, 38, 39, 40, 41] [] (fr' := [(1, .pointer (some ⟨p0_0, 0, none⟩)), (5, .pointer (some ⟨p4_2, 0, none⟩)), (7, .slice h0.1 a0.f0.length h0.2), (8, .int .i64 (a0.f0.length : Int)), (9, .int .i64 s1.2), (18, .pointer (some ⟨p4_2, 0, none⟩)), (19, .string x4_0.f0), (20, .string s1.1), (21, .bool false), (24, .pointer (some ⟨p4_2, 1, none⟩)), (25, .slice p4_0.2.2.1 x4_0.f1.length p4_0.2.2.2), (26, .int .i64 (x4_0.f1.length : Int)), (27, .bool false), (30, .pointer (some ⟨p4_2, 2, none⟩)), (31, .int .i64 x4_0.f2), (32, .bool true), (35, undef), (36, undef), (37, undef), (38, undef), (39, undef), (40, undef), (41, .bool true)]) (bx' := [⟨p4_2, [.string x4_0.f0, .slice p4_0.2.2.1 x4_0.f1.length p4_0.2.2.2, .int .i64 x4_0.f2], 70⟩, ⟨p0_0, [.slice h0.1 a0.f0.length h0.2], 24⟩]) (by kernel_rfl) ?_
       refine O.nil (by kernel_rfl) ?_
       refine J.cond (o := .tmp 41) true (by kernel_rfl) (by kernel_rfl) ?_
       refine J.seq (by kernel_rfl) ?_
       refine J.region (by kernel_rfl) ?_
       refine O.pure 1 [] [2] [] (fr' := [(2, .bool false)]) (bx' := [⟨p4_2, [.string x4_0.f0, .slice p4_0.2.2.1 x4_0.f1.length p4_0.2.2.2, .int .i64 x4_0.f2], 70⟩, ⟨p0_0, [.slice h0.1 a0.f0.length h0.2], 24⟩]) (by kernel_rfl) ?_
       refine O.nil (by kernel_rfl) ?_
       obtain rfl := Option.some.inj H
       exact J.doneS [] [] [] [] [] () (vs := [.bool false]) (by kernel_rfl) (by kernel_rfl) (by kernel_rfl) (by kernel_rfl) (by kernel_rfl) (by decide)
      ·refine J.region (by kernel_rfl) ?_
       refine O.pure 2 [(0, 0)] [1, 3, 5, 7, 8, 9, 14] [p4_2, 0] (fr' := [(1, .pointer (some ⟨p0_0, 0, none⟩)), (3, .string s1.1), (5, .pointer (some ⟨p4_2, 0, none⟩)), (7, .slice h0.1 a0.f0.length h0.2), (8, .int .i64 (a0.f0.length : Int)), (9, .int .i64 s1.2), (14, .string x4_0.f0)]) (bx' := [⟨p4_2, [.string x4_0.f0, .slice p4_0.2.2.1 x4_0.f1.length p4_0.2.2.2, .int .i64 x4_0.f2], 70⟩, ⟨p0_0, [.slice h0.1 a0.f0.length h0.2], 24⟩]) (by kernel_rfl) ?_
       refine O.e (some 15) (Ev.call0 (xs := [.tmp 14]) [] (by kernel_rfl) (by kernel_rfl) (fun w hS => disk_named.con K x4_0.f0  _ _ w hS hx5_2)) (by kernel_rfl) (fun _ => ?_)
       refine O.q (v := .bool false) (some 16) (Qu.eqv (u := .bool (!x5_2)) (v := .bool false) (0, 0) [] (by kernel_rfl) (congrArg Value.bool hc15)) (by kernel_rfl) ?_
       refine O.pure 4 [(0, 0)] [1, 5, 7, 8, 9, 17, 18, 19, 20] [p4_2, 0] (fr' := [(1, .pointer (some ⟨p0_0, 0, none⟩)), (5, .pointer (some ⟨p4_2, 0, none⟩)), (7, .slice h0.1 a0.f0.length h0.2), (8, .int .i64 (a0.f0.length : Int)), (9, .int .i64 s1.2), (17, .bool false), (18, .pointer (some ⟨p4_2, 0, none⟩)), (19, .string x4_0.f0), (20, .string s1.1)]) (bx' := [⟨p4_2, [.string x4_0.f0, .slice p4_0.2.2.1 x4_0.f1.length p4_0.2.2.2, .int .i64 x4_0.f2], 70⟩, ⟨p0_0, [.slice h0.1 a0.f0.length h0.2], 24⟩]) (by kernel_rfl) ?_
       refine O.q (v := .bool false) (some 21) (Qu.eqv (u := .bool ((Op.bytesLess x4_0.f0.toList s1.1.toList) || (x4_0.f0.toList == s1.1.toList))) (v := .bool false) (0, 0) [] (by kernel_rfl) (congrArg Value.bool hc16)) (by kernel_rfl) ?_
       refine O.pure 5 [(0, 1)] [1, 5, 7, 8, 9, 18, 19, 20, 21, 23, 24, 25, 26] [p4_2, 1] (fr' := [(1, .pointer (some ⟨p0_0, 0, none⟩)), (5, .pointer (some ⟨p4_2, 0, none⟩)), (7, .slice h0.1 a0.f0.length h0.2), (8, .int .i64 (a0.f0.length : Int)), (9, .int .i64 s1.2), (18, .pointer (some ⟨p4_2, 0, none⟩)), (19, .string x4_0.f0), (20, .string s1.1), (21, .bool false), (23, .bool false), (24, .pointer (some ⟨p4_2, 1, none⟩)), (25, .slice p4_0.2.2.1 x4_0.f1.length p4_0.2.2.2), (26, .int .i64 (x4_0.f1.length : Int))]) (bx' := [⟨p4_2, [.string x4_0.f0, .slice p4_0.2.2.1 x4_0.f1.length p4_0.2.2.2, .int .i64 x4_0.f2], 70⟩, ⟨p0_0, [.slice h0.1 a0.f0.length h0.2], 24⟩]) (by kernel_rfl) ?_
       refine O.q (v := .bool false) (some 27) (Qu.eqv (u := .bool (decide ((x4_0.f1.length : Int) > 20000))) (v := .bool false) (0, 0) [] (by kernel_rfl) (congrArg Value.bool hc17)) (by kernel_rfl) ?_
       refine O.pure 4 [(0, 2)] [1, 5, 7, 8, 9, 18, 19, 20, 21, 24, 25, 26, 27, 29, 30, 31] [p4_2, 2] (fr' := [(1, .pointer (some ⟨p0_0, 0, none⟩)), (5, .pointer (some ⟨p4_2, 0, none⟩)), (7, .slice h0.1 a0.f0.length h0.2), (8, .int .i64 (a0.f0.length : Int)), (9, .int .i64 s1.2), (18, .pointer (some ⟨p4_2, 0, none⟩)), (19, .string x4_0.f0), (20, .string s1.1), (21, .bool false), (24, .pointer (some ⟨p4_2, 1, none⟩)), (25, .slice p4_0.2.2.1 x4_0.f1.length p4_0.2.2.2), (26, .int .i64 (x4_0.f1.length : Int)), (27, .bool false), (29, .bool false), (30, .pointer (some ⟨p4_2, 2, none⟩)), (31, .int .i64 x4_0.f2)]) (bx' := [⟨p4_2, [.string x4_0.f0, .slice p4_0.2.2.1 x4_0.f1.length p4_0.2.2.2, .int .i64 x4_0.f2], 70⟩, ⟨p0_0, [.slice h0.1 a0.f0.length h0.2], 24⟩]) (by kernel_rfl) ?_
       refine O.q (v := .bool false) (some 32) (Qu.eqv (u := .bool (decide (x4_0.f2 < 0))) (v := .bool false) (0, 0) [] (by kernel_rfl) (congrArg Value.bool hc18)) (by kernel_rfl) ?_
       refine O.pure 9 [(0, 2), (0, 1)] [1, 5, 7, 8, 9, 18, 19, 20, 21, 24, 25, 26, 27, 30, 31, 32, 35, 36, 37, 38, 39, 40, 41] [p4_2, 2, p4_2, 1] (fr' := [(1, .pointer (some ⟨p0_0, 0, none⟩)), (5, .pointer (some ⟨p4_2, 0, none⟩)), (7, .slice h0.1 a0.f0.length h0.2), (8, .int .i64 (a0.f0.length : Int)), (9, .int .i64 s1.2), (18, .pointer (some ⟨p4_2, 0, none⟩)), (19, .string x4_0.f0), (20, .string s1.1), (21, .bool false), (24, .pointer (some ⟨p4_2, 1, none⟩)), (25, .slice p4_0.2.2.1 x4_0.f1.length p4_0.2.2.2), (26, .int .i64 (x4_0.f1.length : Int)), (27, .bool false), (30, .pointer (some ⟨p4_2, 2, none⟩)), (31, .int .i64 x4_0.f2), (32, .bool false), (35, .pointer (some ⟨p4_2, 2, none⟩)), (36, .int .i64 x4_0.f2), (37, .pointer (some ⟨p4_2, 1, none⟩)), (38, .slice p4_0.2.2.1 x4_0.f1.length p4_0.2.2.2), (39, .int .i64 (x4_0.f1.length : Int)), (40, .bool (decide (x4_0.f2 > (x4_0.f1.length : Int)))), (41, .bool (decide (x4_0.f2 > (x4_0.f1.length : Int))))]) (bx' := [⟨p4_2, [.string x4_0.f0, .slice p4_0.2.2.1 x4_0.f1.length p4_0.2.2.2, .int .i64 x4_0.f2], 70⟩, ⟨p0_0, [.slice h0.1 a0.f0.length h0.2], 24⟩]) (by kernel_rfl) ?_
       refine O.nil (by kernel_rfl) ?_
       rcases condE H with ⟨hc19, H⟩ | ⟨hc19, H⟩
       ·refine J.condT (x := .tmp 41) (t := (decide (x4_0.f2 > (x4_0.f1.length : Int)))) (by kernel_rfl) (by kernel_rfl) hc19 ?_
        refine J.seq (by kernel_rfl) ?_
        refine J.region (by kernel_rfl) ?_
        refine O.pure 1 [] [2] [] (fr' := [(2, .bool false)]) (bx' := [⟨p4_2, [.string x4_0.f0, .slice p4_0.2.2.1 x4_0.f1.length p4_0.2.2.2, .int .i64 x4_0.f2], 70⟩, ⟨p0_0, [.slice h0.1 a0.f0.length h0.2], 24⟩]) (by kernel_rfl) ?_
        refine O.nil (by kernel_rfl) ?_
        obtain rfl := Option.some.inj H
        exact J.doneS [] [] [] [] [] () (vs := [.bool false]) (by kernel_rfl) (by kernel_rfl) (by kernel_rfl) (by kernel_rfl) (by kernel_rfl) (by decide)
       ·refine J.condF (x := .tmp 41) (t := (decide (x4_0.f2 > (x4_0.f1.length : Int)))) (by kernel_rfl) (by kernel_rfl) hc19 ?_
        refine J.skip (by kernel_rfl) ?_
        refine J.region (by kernel_rfl) ?_
        refine O.pure 3 [(0, 0)] [1, 3, 7, 8, 9, 18, 19, 20, 21, 24, 25, 26, 27, 30, 31, 32, 35, 36, 37, 38, 39, 40] [p4_2, 0] (fr' := [(1, .pointer (some ⟨p0_0, 0, none⟩)), (3, .string x4_0.f0), (7, .slice h0.1 a0.f0.length h0.2), (8, .int .i64 (a0.f0.length : Int)), (9, .int .i64 s1.2), (18, .pointer (some ⟨p4_2, 0, none⟩)), (19, .string x4_0.f0), (20, .string s1.1), (21, .bool false), (24, .pointer (some ⟨p4_2, 1, none⟩)), (25, .slice p4_0.2.2.1 x4_0.f1.length p4_0.2.2.2), (26, .int .i64 (x4_0.f1.length : Int)), (27, .bool false), (30, .pointer (some ⟨p4_2, 2, none⟩)), (31, .int .i64 x4_0.f2), (32, .bool false), (35, .pointer (some ⟨p4_2, 2, none⟩)), (36, .int .i64 x4_0.f2), (37, .pointer (some ⟨p4_2, 1, none⟩)), (38, .slice p4_0.2.2.1 x4_0.f1.length p4_0.2.2.2), (39, .int .i64 (x4_0.f1.length : Int)), (40, .bool (decide (x4_0.f2 > (x4_0.f1.length : Int))))]) (bx' := [⟨p4_2, [.string x4_0.f0, .slice p4_0.2.2.1 x4_0.f1.length p4_0.2.2.2, .int .i64 x4_0.f2], 70⟩, ⟨p0_0, [.slice h0.1 a0.f0.length h0.2], 24⟩]) (by kernel_rfl) ?_
        refine O.nil (by kernel_rfl) ?_
        refine J.out ?_
        refine J.region (by kernel_rfl) ?_
        refine O.pure 2 [] [1, 3, 7, 8, 9, 18, 19, 20, 21, 24, 25, 26, 27, 30, 31, 32, 35, 36, 37, 38, 39, 40] [] (fr' := [(1, .pointer (some ⟨p0_0, 0, none⟩)), (3, .string x4_0.f0), (7, .slice h0.1 a0.f0.length h0.2), (8, .int .i64 (a0.f0.length : Int)), (9, .int .i64 (IntKind.wrap .i64 (s1.2 + 1))), (18, .pointer (some ⟨p4_2, 0, none⟩)), (19, .string x4_0.f0), (20, .string s1.1), (21, .bool false), (24, .pointer (some ⟨p4_2, 1, none⟩)), (25, .slice p4_0.2.2.1 x4_0.f1.length p4_0.2.2.2), (26, .int .i64 (x4_0.f1.length : Int)), (27, .bool false), (30, .pointer (some ⟨p4_2, 2, none⟩)), (31, .int .i64 x4_0.f2), (32, .bool false), (35, .pointer (some ⟨p4_2, 2, none⟩)), (36, .int .i64 x4_0.f2), (37, .pointer (some ⟨p4_2, 1, none⟩)), (38, .slice p4_0.2.2.1 x4_0.f1.length p4_0.2.2.2), (39, .int .i64 (x4_0.f1.length : Int)), (40, .bool (decide (x4_0.f2 > (x4_0.f1.length : Int))))]) (bx' := [⟨p4_2, [.string x4_0.f0, .slice p4_0.2.2.1 x4_0.f1.length p4_0.2.2.2, .int .i64 x4_0.f2], 70⟩, ⟨p0_0, [.slice h0.1 a0.f0.length h0.2], 24⟩]) (by kernel_rfl) ?_
        refine O.nil (by kernel_rfl) ?_
        exact J.conv2 [1, 3, 7, 8, 9] [1] [1] [] (by kernel_rfl) (by kernel_rfl) (by kernel_rfl) (by kernel_rfl) (by decide) (ih1 (x4_0.f0, (IntKind.wrap .i64 (s1.2 + 1))) () H)
  ·refine J.condF (x := .tmp 10) (t := (decide (s1.2 < (a0.f0.length : Int)))) (by kernel_rfl) (by kernel_rfl) hc14 ?_
   refine J.exit (id := 0) (by kernel_rfl) rfl ?_
   refine J.seq (by kernel_rfl) ?_
   refine J.region (by kernel_rfl) ?_
   refine O.pure 5 [(0, 0)] [2] [p0_0, 0] (fr' := [(2, .bool (decide ((a0.f0.length : Int) ≤ 40)))]) (bx' := [⟨p0_0, [.slice h0.1 a0.f0.length h0.2], 24⟩]) (by kernel_rfl) ?_
   refine O.nil (by kernel_rfl) ?_
   obtain rfl := Option.some.inj H
   exact J.doneS [] [] [] [] [] () (vs := [.bool (decide ((a0.f0.length : Int) ≤ 40))]) (by kernel_rfl) (by kernel_rfl) (by kernel_rfl) (by kernel_rfl) (by kernel_rfl) (by decide)
 ·exact J.conv2 [1, 3, 7, 8, 9] [0] [0] [] (by kernel_rfl) (by kernel_rfl) (by kernel_rfl) (by kernel_rfl) (by decide) h_
/-! ### haywain/disk.own: function 52 -/
def disk_own.l2 (K : Nat) (a0 : S24) : Nat → (Int × (List S70)) → Option S24
  | 0, _ => none
  | k + 1, s2 => cond (decide (s2.1 < (a0.f0.length : Int))) ((idxO a0.f0 s2.1).bind fun x6_0 => (appO 1 ([] : List Int) x6_0.f1).bind fun y7_3 => (appO 48 s2.2 ([(⟨x6_0.f0, (([] : List Int) ++ x6_0.f1), x6_0.f2⟩ : S70)] : List S70)).bind fun y8_4 => disk_own.l2 K a0 k ((IntKind.wrap .i64 (s2.1 + 1)), (s2.2 ++ ([(⟨x6_0.f0, (([] : List Int) ++ x6_0.f1), x6_0.f2⟩ : S70)] : List S70)))) (some ((⟨s2.2⟩ : S24)))
def disk_own.f (K : Nat) (a0 : S24) : Option S24 := (disk_Right.f K a0).bind fun x1_1 => cond (!x1_1) (some ((⟨([] : List S70)⟩ : S24))) (disk_own.l2 K a0 K (0, ([] : List S70)))
set_option maxRecDepth 100000 in
set_option maxHeartbeats 1000000 in
theorem disk_own.con (K : Nat) (a0 : S24) (h0 : Hd) (r : S24) (X : Nat → Nat → Prop) (w : World) (hS : St X w [] [] [] [] [Rd kd70 h0.1 h0.2 a0.f0] w) (H : disk_own.f K a0 = some r) :
    Cn Try.prog 52 [.agg #[.slice h0.1 a0.f0.length h0.2]] X w [] (fun i : Hd => .agg #[.slice i.1 r.f0.length i.2]) (fun i => []) (fun i => [mkRow kd70 70 (.slice i.1 r.f0.length i.2) r.f0]) (fun i => []) := by
 refine Cn.of Try.func52 (by kernel_rfl) hS ?_
 unfold disk_own.f at H
 refine J.seq (by kernel_rfl) ?_
 refine J.region (by kernel_rfl) ?_
 refine O.e (some 1) (Ev.box (t := 24) (x := .tmp 0) (v := .agg #[.slice h0.1 a0.f0.length h0.2]) (by kernel_rfl) (by kernel_rfl)) (by kernel_rfl) (fun p0_0 => ?_)
 refine O.e (some 2) (Ev.alloc (t := 24) (z := .agg #[.slice none 0 0]) (by kernel_rfl) (by kernel_rfl)) (by kernel_rfl) (fun p0_1 => ?_)
 refine O.nil (by kernel_rfl) ?_
 refine J.seq (by kernel_rfl) ?_
 refine J.seq (by kernel_rfl) ?_
 obtain ⟨x1_1, hx1_1, H⟩ := bindE H
 refine J.region (by kernel_rfl) ?_
 refine O.pure 1 [(1, 0)] [1, 2, 6] [p0_0, 0] (fr' := [(1, .pointer (some ⟨p0_0, 0, none⟩)), (2, .pointer (some ⟨p0_1, 0, none⟩)), (6, .agg #[.slice h0.1 a0.f0.length h0.2])]) (bx' := [⟨p0_1, [.slice none 0 0], 24⟩, ⟨p0_0, [.slice h0.1 a0.f0.length h0.2], 24⟩]) (by kernel_rfl) ?_
 refine O.e (some 7) (Ev.call0 (xs := [.tmp 6]) [0] (by kernel_rfl) (by kernel_rfl) (fun w hS => disk_Right.con K a0 h0  _ _ w hS hx1_1)) (by kernel_rfl) (fun _ => ?_)
 refine O.pure 1 [] [1, 2, 8] [] (fr' := [(1, .pointer (some ⟨p0_0, 0, none⟩)), (2, .pointer (some ⟨p0_1, 0, none⟩)), (8, .bool (!x1_1))]) (bx' := [⟨p0_1, [.slice none 0 0], 24⟩, ⟨p0_0, [.slice h0.1 a0.f0.length h0.2], 24⟩]) (by kernel_rfl) ?_
 refine O.nil (by kernel_rfl) ?_
 rcases condE H with ⟨hc1, H⟩ | ⟨hc1, H⟩
 ·refine J.condT (x := .tmp 8) (t := (!x1_1)) (by kernel_rfl) (by kernel_rfl) hc1 ?_
  refine J.seq (by kernel_rfl) ?_
  refine J.region (by kernel_rfl) ?_
  refine O.pure 2 [(0, 0)] [2] [p0_1, 0] (fr' := [(2, .pointer (some ⟨p0_1, 0, none⟩))]) (bx' := [⟨p0_1, [.slice none 0 0], 24⟩, ⟨p0_0, [.slice h0.1 a0.f0.length h0.2], 24⟩]) (by kernel_rfl) ?_
  refine O.nil (by kernel_rfl) ?_
  obtain rfl := Option.some.inj H
  refine J.nilrow kd70 70 ?_
  exact J.doneS [(0, 0)] [p0_1, 0] [] [] [0] (none, 0) (vs := [.agg #[.slice none 0 0]]) (by kernel_rfl) (by kernel_rfl) (by kernel_rfl) (by kernel_rfl) (by kernel_rfl) (by decide)
 ·refine J.condF (x := .tmp 8) (t := (!x1_1)) (by kernel_rfl) (by kernel_rfl) hc1 ?_
  refine J.skip (by kernel_rfl) ?_
  refine J.seq (by kernel_rfl) ?_
  refine J.region (by kernel_rfl) ?_
  refine O.e (some 3) (Ev.alloc (t := 24) (z := .agg #[.slice none 0 0]) (by kernel_rfl) (by kernel_rfl)) (by kernel_rfl) (fun p3_0 => ?_)
  refine O.nil (by kernel_rfl) ?_
  refine J.seq (by kernel_rfl) ?_
  refine J.seq (by kernel_rfl) ?_
  refine J.region (by kernel_rfl) ?_
  refine O.pure 4 [(2, 0)] [2, 3, 11, 12, 13] [p0_0, 0] (fr' := [(2, .pointer (some ⟨p0_1, 0, none⟩)), (3, .pointer (some ⟨p3_0, 0, none⟩)), (11, .slice h0.1 a0.f0.length h0.2), (12, .int .i64 (a0.f0.length : Int)), (13, .int .i64 0)]) (bx' := [⟨p3_0, [.slice none 0 0], 24⟩, ⟨p0_1, [.slice none 0 0], 24⟩, ⟨p0_0, [.slice h0.1 a0.f0.length h0.2], 24⟩]) (by kernel_rfl) ?_
  refine O.nil (by kernel_rfl) ?_
  refine J.block (id := 0) (by kernel_rfl) ?_
  refine J.loopI (σ := Int × (List S70)) (γ := Hd) (f := fun m_ s_ => disk_own.l2 K a0 m_ s_) (fun s2 g2 => [(2, .pointer (some ⟨p0_1, 0, none⟩)), (3, .pointer (some ⟨p3_0, 0, none⟩)), (11, .slice h0.1 a0.f0.length h0.2), (12, .int .i64 (a0.f0.length : Int)), (13, .int .i64 s2.1)]) (fun s2 g2 => St X w [] [⟨p3_0, [.slice g2.1 s2.2.length g2.2], 24⟩, ⟨p0_1, [.slice none 0 0], 24⟩] [mkRow kd70 70 (.slice g2.1 s2.2.length g2.2) s2.2] [] [Rd kd70 h0.1 h0.2 a0.f0]) K (0, ([] : List S70)) (none, 0) (by kernel_rfl) H (fun _ => rfl) (fun m_ s2 H ih2 g2 => ?_) (fun h_ => ?_)
  ·unfold disk_own.l2 at H
   refine J.seq (by kernel_rfl) ?_
   refine J.region (by kernel_rfl) ?_
   refine O.pure 1 [] [2, 3, 11, 12, 13, 14] [] (fr' := [(2, .pointer (some ⟨p0_1, 0, none⟩)), (3, .pointer (some ⟨p3_0, 0, none⟩)), (11, .slice h0.1 a0.f0.length h0.2), (12, .int .i64 (a0.f0.length : Int)), (13, .int .i64 s2.1), (14, .bool (decide (s2.1 < (a0.f0.length : Int))))]) (bx' := [⟨p3_0, [.slice g2.1 s2.2.length g2.2], 24⟩, ⟨p0_1, [.slice none 0 0], 24⟩]) (by kernel_rfl) ?_
   refine O.nil (by kernel_rfl) ?_
   refine J.seq (by kernel_rfl) ?_
   rcases condE H with ⟨hc5, H⟩ | ⟨hc5, H⟩
   ·refine J.condT (x := .tmp 14) (t := (decide (s2.1 < (a0.f0.length : Int)))) (by kernel_rfl) (by kernel_rfl) hc5 ?_
    refine J.skip (by kernel_rfl) ?_
    refine J.seq (by kernel_rfl) ?_
    refine J.block (id := 1) (by kernel_rfl) ?_
    refine J.seq (by kernel_rfl) ?_
    obtain ⟨x6_0, hx6_0, H⟩ := bindE H
    obtain ⟨hx6_0a, hx6_0⟩ := idxE hx6_0
    refine J.region (by kernel_rfl) ?_
    refine O.open (d := kd70) (h := h0) (i := s2.1) 0 rfl hx6_0 (op70 _) (fun p6_0 hp6_0A => ?_)
    refine O.q (v := .pointer (some ⟨p6_0.1, p6_0.2.1 + s2.1.toNat * 3, none⟩)) (some 15) (Qu.idx (t := 22) (x := .tmp 11) (y := .tmp 13) (c := h0.2) (kk := .i64) (sz := 3) (by kernel_rfl) (by kernel_rfl) (by kernel_rfl) (by kernel_rfl) hx6_0a (idx_lt hx6_0) hp6_0A) (by kernel_rfl) ?_
    refine O.pure 1 [(2, 0)] [2, 3, 11, 12, 13, 16] [p6_0.1, p6_0.2.1 + s2.1.toNat * 3] (fr' := [(2, .pointer (some ⟨p0_1, 0, none⟩)), (3, .pointer (some ⟨p3_0, 0, none⟩)), (11, .slice h0.1 a0.f0.length h0.2), (12, .int .i64 (a0.f0.length : Int)), (13, .int .i64 s2.1), (16, .agg #[.string x6_0.f0, .slice p6_0.2.2.1 x6_0.f1.length p6_0.2.2.2, .int .i64 x6_0.f2])]) (bx' := [⟨p3_0, [.slice g2.1 s2.2.length g2.2], 24⟩, ⟨p0_1, [.slice none 0 0], 24⟩]) (by kernel_rfl) ?_
    refine O.e (some 5) (Ev.alloc (t := 70) (z := .agg #[.string (⟨#[]⟩ : ByteArray), .slice none 0 0, .int .i64 0]) (by kernel_rfl) (by kernel_rfl)) (by kernel_rfl) (fun p6_2 => ?_)
    refine O.pure 1 [(0, 0)] [2, 3, 5, 11, 12, 13] [p6_2, 0] (fr' := [(2, .pointer (some ⟨p0_1, 0, none⟩)), (3, .pointer (some ⟨p3_0, 0, none⟩)), (5, .pointer (some ⟨p6_2, 0, none⟩)), (11, .slice h0.1 a0.f0.length h0.2), (12, .int .i64 (a0.f0.length : Int)), (13, .int .i64 s2.1)]) (bx' := [⟨p6_2, [.string x6_0.f0, .slice p6_0.2.2.1 x6_0.f1.length p6_0.2.2.2, .int .i64 x6_0.f2], 70⟩, ⟨p3_0, [.slice g2.1 s2.2.length g2.2], 24⟩, ⟨p0_1, [.slice none 0 0], 24⟩]) (by kernel_rfl) ?_
    refine O.nil (by kernel_rfl) ?_
    refine J.seq (by kernel_rfl) ?_
    obtain ⟨y7_3, hy7_3, H⟩ := bindE H
    have hy7_3a := (appE hy7_3).1
    refine J.region (by kernel_rfl) ?_
    refine O.e (some 17) (Ev.lit (t := 27) (len := 0) (parts := #[]) (ps := []) (cs := []) (e := 5) (Kd.int .u8) ([] : List Int) (by kernel_rfl) (by kernel_rfl) (by kernel_rfl) (by kernel_rfl) (by kernel_rfl) (by decide) (fun w' hφ => (Els.nil _ _ _))) (by kernel_rfl) (fun p7_0 => ?_)
    refine O.pure 2 [(0, 1)] [2, 3, 5, 11, 12, 13, 17, 19] [p6_2, 1] (fr' := [(2, .pointer (some ⟨p0_1, 0, none⟩)), (3, .pointer (some ⟨p3_0, 0, none⟩)), (5, .pointer (some ⟨p6_2, 0, none⟩)), (11, .slice h0.1 a0.f0.length h0.2), (12, .int .i64 (a0.f0.length : Int)), (13, .int .i64 s2.1), (17, .slice ((some ⟨p7_0, 0, none⟩, 0) : Hd).1 ([] : List Int).length ((some ⟨p7_0, 0, none⟩, 0) : Hd).2), (19, .slice p6_0.2.2.1 x6_0.f1.length p6_0.2.2.2)]) (bx' := [⟨p6_2, [.string x6_0.f0, .slice p6_0.2.2.1 x6_0.f1.length p6_0.2.2.2, .int .i64 x6_0.f2], 70⟩, ⟨p3_0, [.slice g2.1 s2.2.length g2.2], 24⟩, ⟨p0_1, [.slice none 0 0], 24⟩]) (by kernel_rfl) ?_
    refine O.e (some 20) (Ev.appSl (d := (Kd.int .u8)) (ys := x6_0.f1) (A := p6_0.2.2.1) (c := p6_0.2.2.2) (x := .tmp 17) (y := .tmp 19) (t := 27) (bytes := 1) 0 (by kernel_rfl) (by kernel_rfl) (by kernel_rfl) rfl (by kernel_rfl) (by decide) hy7_3a) (by kernel_rfl) (fun p7_3 => ?_)
    refine O.pure 2 [(0, 1)] [2, 3, 5, 11, 12, 13] [p6_2, 1] (fr' := [(2, .pointer (some ⟨p0_1, 0, none⟩)), (3, .pointer (some ⟨p3_0, 0, none⟩)), (5, .pointer (some ⟨p6_2, 0, none⟩)), (11, .slice h0.1 a0.f0.length h0.2), (12, .int .i64 (a0.f0.length : Int)), (13, .int .i64 s2.1)]) (bx' := [⟨p6_2, [.string x6_0.f0, .slice p7_3.1 (([] : List Int) ++ x6_0.f1).length p7_3.2, .int .i64 x6_0.f2], 70⟩, ⟨p3_0, [.slice g2.1 s2.2.length g2.2], 24⟩, ⟨p0_1, [.slice none 0 0], 24⟩]) (by kernel_rfl) ?_
    refine O.nil (by kernel_rfl) ?_
    obtain ⟨y8_4, hy8_4, H⟩ := bindE H
    have hy8_4a := (appE hy8_4).1
    refine J.region (by kernel_rfl) ?_
    refine O.pure 3 [(1, 0), (0, 0)] [2, 3, 11, 12, 13, 23, 24] [p3_0, 0, p6_2, 0] (fr' := [(2, .pointer (some ⟨p0_1, 0, none⟩)), (3, .pointer (some ⟨p3_0, 0, none⟩)), (11, .slice h0.1 a0.f0.length h0.2), (12, .int .i64 (a0.f0.length : Int)), (13, .int .i64 s2.1), (23, .slice g2.1 s2.2.length g2.2), (24, .agg #[.string x6_0.f0, .slice p7_3.1 (([] : List Int) ++ x6_0.f1).length p7_3.2, .int .i64 x6_0.f2])]) (bx' := [⟨p6_2, [.string x6_0.f0, .slice p7_3.1 (([] : List Int) ++ x6_0.f1).length p7_3.2, .int .i64 x6_0.f2], 70⟩, ⟨p3_0, [.slice g2.1 s2.2.length g2.2], 24⟩, ⟨p0_1, [.slice none 0 0], 24⟩]) (by kernel_rfl) ?_
    refine O.e (some 25) (Ev.mono (fun w hS => hS.freezeH (h := p7_3) (xs := (([] : List Int) ++ x6_0.f1))) (Ev.lit (t := 22) (len := 1) (parts := #[(0, .tmp 24)]) (ps := [(0, .agg #[.string x6_0.f0, .slice p7_3.1 (([] : List Int) ++ x6_0.f1).length p7_3.2, .int .i64 x6_0.f2])]) (cs := [.string x6_0.f0, .slice p7_3.1 (([] : List Int) ++ x6_0.f1).length p7_3.2, .int .i64 x6_0.f2]) (e := 70) kd70 ([(⟨x6_0.f0, (([] : List Int) ++ x6_0.f1), x6_0.f2⟩ : S70)] : List S70) (by kernel_rfl) (by kernel_rfl) (by kernel_rfl) (by kernel_rfl) (by kernel_rfl) (by decide) (fun w' hφ => (Els.cons (c := [.string x6_0.f0, .slice p7_3.1 (([] : List Int) ++ x6_0.f1).length p7_3.2, .int .i64 x6_0.f2]) (⟨p7_3, rfl, hφ _ (List.mem_of_getElem? (i := 0) rfl)⟩) (Els.nil _ _ _))))) (by kernel_rfl) (fun p8_3 => ?_)
    refine O.e (some 26) (Ev.appLit (x := .tmp 23) (y := .tmp 25) (t := 22) (bytes := 48) (by kernel_rfl) (by kernel_rfl) (by kernel_rfl) (by kernel_rfl) (by kernel_rfl) (by decide) hy8_4a) (by kernel_rfl) (fun p8_4 => ?_)
    refine O.pure 2 [(1, 0)] [2, 3, 11, 12, 13] [p3_0, 0] (fr' := [(2, .pointer (some ⟨p0_1, 0, none⟩)), (3, .pointer (some ⟨p3_0, 0, none⟩)), (11, .slice h0.1 a0.f0.length h0.2), (12, .int .i64 (a0.f0.length : Int)), (13, .int .i64 s2.1)]) (bx' := [⟨p6_2, [.string x6_0.f0, .slice p7_3.1 (([] : List Int) ++ x6_0.f1).length p7_3.2, .int .i64 x6_0.f2], 70⟩, ⟨p3_0, [.slice p8_4.1 (s2.2 ++ ([(⟨x6_0.f0, (([] : List Int) ++ x6_0.f1), x6_0.f2⟩ : S70)] : List S70)).length p8_4.2], 24⟩, ⟨p0_1, [.slice none 0 0], 24⟩]) (by kernel_rfl) ?_
    refine O.nil (by kernel_rfl) ?_
    refine J.out ?_
    refine J.region (by kernel_rfl) ?_
    refine O.pure 2 [] [2, 3, 11, 12, 13] [] (fr' := [(2, .pointer (some ⟨p0_1, 0, none⟩)), (3, .pointer (some ⟨p3_0, 0, none⟩)), (11, .slice h0.1 a0.f0.length h0.2), (12, .int .i64 (a0.f0.length : Int)), (13, .int .i64 (IntKind.wrap .i64 (s2.1 + 1)))]) (bx' := [⟨p6_2, [.string x6_0.f0, .slice p7_3.1 (([] : List Int) ++ x6_0.f1).length p7_3.2, .int .i64 x6_0.f2], 70⟩, ⟨p3_0, [.slice p8_4.1 (s2.2 ++ ([(⟨x6_0.f0, (([] : List Int) ++ x6_0.f1), x6_0.f2⟩ : S70)] : List S70)).length p8_4.2], 24⟩, ⟨p0_1, [.slice none 0 0], 24⟩]) (by kernel_rfl) ?_
    refine O.nil (by kernel_rfl) ?_
    exact J.conv2 [2, 3, 11, 12, 13] [2] [1, 2] [0] (by kernel_rfl) (by kernel_rfl) (by kernel_rfl) (by kernel_rfl) (by decide) (ih2 ((IntKind.wrap .i64 (s2.1 + 1)), (s2.2 ++ ([(⟨x6_0.f0, (([] : List Int) ++ x6_0.f1), x6_0.f2⟩ : S70)] : List S70))) p8_4 H)
   ·refine J.condF (x := .tmp 14) (t := (decide (s2.1 < (a0.f0.length : Int)))) (by kernel_rfl) (by kernel_rfl) hc5 ?_
    refine J.exit (id := 0) (by kernel_rfl) rfl ?_
    refine J.seq (by kernel_rfl) ?_
    refine J.region (by kernel_rfl) ?_
    refine O.pure 2 [(0, 0), (1, 0)] [2] [p3_0, 0, p0_1, 0] (fr' := [(2, .pointer (some ⟨p0_1, 0, none⟩))]) (bx' := [⟨p3_0, [.slice g2.1 s2.2.length g2.2], 24⟩, ⟨p0_1, [.slice g2.1 s2.2.length g2.2], 24⟩]) (by kernel_rfl) ?_
    refine O.nil (by kernel_rfl) ?_
    obtain rfl := Option.some.inj H
    exact J.doneS [(1, 0)] [p0_1, 0] [] [] [0] g2 (vs := [.agg #[.slice g2.1 s2.2.length g2.2]]) (by kernel_rfl) (by kernel_rfl) (by kernel_rfl) (by kernel_rfl) (by kernel_rfl) (by decide)
  ·refine J.nilrow kd70 70 ?_
   exact J.conv2 [2, 3, 11, 12, 13] [0] [0, 1] [0] (by kernel_rfl) (by kernel_rfl) (by kernel_rfl) (by kernel_rfl) (by decide) h_
/-! ### disk.own once more: where the elements' bytes lie -/
def sh70 : Sh1 S70 where
  sz := 3
  cl := fun x h => [.string x.f0, .slice h.1 x.f1.length h.2, .int .i64 x.f2]
  dat := fun x => x.f1
  len := fun _ _ => rfl
  one := by intro x h u hu; simp at hu; rcases hu with rfl | rfl | rfl <;> rfl
theorem imp70 (lk : S70 → Hd → Prop) : ∀ (w : World) (x : S70) (cs : List Value), (sh70.kd lk (fun _ => True)).K w x cs → kd70.K w x cs := by
  rintro w x cs ⟨h, rfl, _, hr⟩
  exact ⟨h, rfl, hr trivial⟩
theorem opS70 (zs : List (S70 × Hd)) (x : S70) : Lay (sh70.kdS zs) x (fun i : Hd => [.string x.f0, .slice i.1 x.f1.length i.2, .int .i64 x.f2]) (fun i => [Rd (Kd.int .u8) i.1 i.2 x.f1, fun _ => (x, i) ∈ zs ∨ i = (none, 0)]) := by
  intro X w cs h
  obtain ⟨h0, rfl, hl, hr⟩ := h w (Away.refl _ _)
  refine ⟨h0, rfl, fun f hf w' hw => ?_⟩
  obtain ⟨k, e, kl, kr⟩ := h w' hw
  simp only [sh70, List.cons.injEq, Value.slice.injEq, and_true, true_and] at e
  obtain rfl : k = h0 := Prod.ext e.1.symm e.2.symm
  simp only [List.mem_cons, List.not_mem_nil, or_false] at hf
  rcases hf with rfl | rfl
  · exact kr trivial
  · exact kl
theorem opE70 (p : S70 → Prop) (x : S70) : Lay (sh70.kdE p) x (fun i : Hd => [.string x.f0, .slice i.1 x.f1.length i.2, .int .i64 x.f2]) (fun i => []) := by
  intro X w cs h
  obtain ⟨h0, rfl, hl, hr⟩ := h w (Away.refl _ _)
  exact ⟨h0, rfl, fun f hf => by simp at hf⟩
set_option maxRecDepth 100000 in
set_option maxHeartbeats 1000000 in
theorem disk_own.conD (K : Nat) (a0 : S24) (h0 : Hd) (r : S24) (X : Nat → Nat → Prop) (w : World) (hS : St X w [] [] [] [] [Rd kd70 h0.1 h0.2 a0.f0] w) (H : disk_own.f K a0 = some r) :
    Calls Try.prog 52 ([.agg #[.slice h0.1 a0.f0.length h0.2]] : List Value).toArray w fun e w' => ∃ u, e = .returned u ∧ ∃ i : Hd × List (S70 × Hd), u = .agg #[.slice i.1.1 r.f0.length i.1.2] ∧ St X w [] [] [mkRow (sh70.kdS i.2) 70 (.slice i.1.1 r.f0.length i.1.2) r.f0] [] [] w' ∧ Deep w.heap.size 5 i.2 w' ∧ ∀ z ∈ i.2, ∀ b ∈ hdB z.2, b ∉ ownB (.slice i.1.1 r.f0.length i.1.2) := by
  refine Calls.ofQ (Q := fun u w' => ∃ i : Hd × List (S70 × Hd), u = .agg #[.slice i.1.1 r.f0.length i.1.2] ∧ St X w [] [] [mkRow (sh70.kdS i.2) 70 (.slice i.1.1 r.f0.length i.1.2) r.f0] [] [] w' ∧ Deep w.heap.size 5 i.2 w' ∧ ∀ z ∈ i.2, ∀ b ∈ hdB z.2, b ∉ ownB (.slice i.1.1 r.f0.length i.1.2)) Try.func52 (by kernel_rfl) hS ?_
  unfold disk_own.f at H
  refine J.seq (by kernel_rfl) ?_
  refine J.region (by kernel_rfl) ?_
  refine O.e (some 1) (Ev.box (t := 24) (x := .tmp 0) (v := .agg #[.slice h0.1 a0.f0.length h0.2]) (by kernel_rfl) (by kernel_rfl)) (by kernel_rfl) (fun p0_0 => ?_)
  refine O.e (some 2) (Ev.alloc (t := 24) (z := .agg #[.slice none 0 0]) (by kernel_rfl) (by kernel_rfl)) (by kernel_rfl) (fun p0_1 => ?_)
  refine O.nil (by kernel_rfl) ?_
  refine J.seq (by kernel_rfl) ?_
  refine J.seq (by kernel_rfl) ?_
  obtain ⟨x1_1, hx1_1, H⟩ := bindE H
  refine J.region (by kernel_rfl) ?_
  refine O.pure 1 [(1, 0)] [1, 2, 6] [p0_0, 0] (fr' := [(1, .pointer (some ⟨p0_0, 0, none⟩)), (2, .pointer (some ⟨p0_1, 0, none⟩)), (6, .agg #[.slice h0.1 a0.f0.length h0.2])]) (bx' := [⟨p0_1, [.slice none 0 0], 24⟩, ⟨p0_0, [.slice h0.1 a0.f0.length h0.2], 24⟩]) (by kernel_rfl) ?_
  refine O.e (some 7) (Ev.call0 (xs := [.tmp 6]) [0] (by kernel_rfl) (by kernel_rfl) (fun w hS => disk_Right.con K a0 h0  _ _ w hS hx1_1)) (by kernel_rfl) (fun _ => ?_)
  refine O.pure 1 [] [1, 2, 8] [] (fr' := [(1, .pointer (some ⟨p0_0, 0, none⟩)), (2, .pointer (some ⟨p0_1, 0, none⟩)), (8, .bool (!x1_1))]) (bx' := [⟨p0_1, [.slice none 0 0], 24⟩, ⟨p0_0, [.slice h0.1 a0.f0.length h0.2], 24⟩]) (by kernel_rfl) ?_
  refine O.nil (by kernel_rfl) ?_
  rcases condE H with ⟨hc1, H⟩ | ⟨hc1, H⟩
  · refine J.condT (x := .tmp 8) (t := (!x1_1)) (by kernel_rfl) (by kernel_rfl) hc1 ?_
    refine J.seq (by kernel_rfl) ?_
    refine J.region (by kernel_rfl) ?_
    refine O.pure 2 [(0, 0)] [2] [p0_1, 0] (fr' := [(2, .pointer (some ⟨p0_1, 0, none⟩))]) (bx' := [⟨p0_1, [.slice none 0 0], 24⟩, ⟨p0_0, [.slice h0.1 a0.f0.length h0.2], 24⟩]) (by kernel_rfl) ?_
    refine O.nil (by kernel_rfl) ?_
    obtain rfl := Option.some.inj H
    refine J.nilrow (sh70.kdS []) 70 ?_
    refine J.doneQ [(0, 0)] [p0_1, 0] (vs := [.agg #[.slice none 0 0]]) (by kernel_rfl) (by kernel_rfl) (fun w' hS' => ?_)
    refine ⟨((none, 0), []), rfl, ?_, Deep.nil _ _ _, fun z hz => by simp at hz⟩
    exact St.sub (hS'.facts_sel [] rfl).noro (fun p hp => by simp at hp) (fun r hr => hr) (by simp [keys, mkRow, ownB])
  · refine J.condF (x := .tmp 8) (t := (!x1_1)) (by kernel_rfl) (by kernel_rfl) hc1 ?_
    refine J.skip (by kernel_rfl) ?_
    refine J.seq (by kernel_rfl) ?_
    refine J.region (by kernel_rfl) ?_
    refine O.e (some 3) (Ev.alloc (t := 24) (z := .agg #[.slice none 0 0]) (by kernel_rfl) (by kernel_rfl)) (by kernel_rfl) (fun p3_0 => ?_)
    refine O.nil (by kernel_rfl) ?_
    refine J.seq (by kernel_rfl) ?_
    refine J.seq (by kernel_rfl) ?_
    refine J.region (by kernel_rfl) ?_
    refine O.pure 4 [(2, 0)] [2, 3, 11, 12, 13] [p0_0, 0] (fr' := [(2, .pointer (some ⟨p0_1, 0, none⟩)), (3, .pointer (some ⟨p3_0, 0, none⟩)), (11, .slice h0.1 a0.f0.length h0.2), (12, .int .i64 (a0.f0.length : Int)), (13, .int .i64 0)]) (bx' := [⟨p3_0, [.slice none 0 0], 24⟩, ⟨p0_1, [.slice none 0 0], 24⟩, ⟨p0_0, [.slice h0.1 a0.f0.length h0.2], 24⟩]) (by kernel_rfl) ?_
    refine O.nil (by kernel_rfl) ?_
    refine J.block (id := 0) (by kernel_rfl) ?_
    refine J.loopI (σ := Int × (List S70)) (γ := Hd × List (S70 × Hd)) (f := fun m_ s_ => disk_own.l2 K a0 m_ s_) (fun s2 g2 => [(2, .pointer (some ⟨p0_1, 0, none⟩)), (3, .pointer (some ⟨p3_0, 0, none⟩)), (11, .slice h0.1 a0.f0.length h0.2), (12, .int .i64 (a0.f0.length : Int)), (13, .int .i64 s2.1)]) (fun s2 g2 w' => St X w [] [⟨p3_0, [.slice g2.1.1 g2.2.length g2.1.2], 24⟩, ⟨p0_1, [.slice none 0 0], 24⟩] (mkRow sh70.kdH 70 (.slice g2.1.1 g2.2.length g2.1.2) g2.2 :: sh70.inner 5 g2.2) [] [Rd kd70 h0.1 h0.2 a0.f0] w' ∧ g2.2.map (·.1) = s2.2) K (0, ([] : List S70)) ((none, 0), []) (by kernel_rfl) H (fun _ => rfl) (fun m_ s2 H ih2 g2 => ?_) (fun h_ => ?_)
    · refine J.andp (fun hzs => ?_)
      unfold disk_own.l2 at H
      refine J.seq (by kernel_rfl) ?_
      refine J.region (by kernel_rfl) ?_
      refine O.pure 1 [] [2, 3, 11, 12, 13, 14] [] (fr' := [(2, .pointer (some ⟨p0_1, 0, none⟩)), (3, .pointer (some ⟨p3_0, 0, none⟩)), (11, .slice h0.1 a0.f0.length h0.2), (12, .int .i64 (a0.f0.length : Int)), (13, .int .i64 s2.1), (14, .bool (decide (s2.1 < (a0.f0.length : Int))))]) (bx' := [⟨p3_0, [.slice g2.1.1 g2.2.length g2.1.2], 24⟩, ⟨p0_1, [.slice none 0 0], 24⟩]) (by kernel_rfl) ?_
      refine O.nil (by kernel_rfl) ?_
      refine J.seq (by kernel_rfl) ?_
      rcases condE H with ⟨hc5, H⟩ | ⟨hc5, H⟩
      · refine J.condT (x := .tmp 14) (t := (decide (s2.1 < (a0.f0.length : Int)))) (by kernel_rfl) (by kernel_rfl) hc5 ?_
        refine J.skip (by kernel_rfl) ?_
        refine J.seq (by kernel_rfl) ?_
        refine J.block (id := 1) (by kernel_rfl) ?_
        refine J.seq (by kernel_rfl) ?_
        obtain ⟨x6_0, hx6_0, H⟩ := bindE H
        obtain ⟨hx6_0a, hx6_0⟩ := idxE hx6_0
        refine J.region (by kernel_rfl) ?_
        refine O.open (d := kd70) (h := h0) (i := s2.1) 0 rfl hx6_0 (op70 _) (fun p6_0 hp6_0A => ?_)
        refine O.q (v := .pointer (some ⟨p6_0.1, p6_0.2.1 + s2.1.toNat * 3, none⟩)) (some 15) (Qu.idx (t := 22) (x := .tmp 11) (y := .tmp 13) (c := h0.2) (kk := .i64) (sz := 3) (by kernel_rfl) (by kernel_rfl) (by kernel_rfl) (by kernel_rfl) hx6_0a (idx_lt hx6_0) hp6_0A) (by kernel_rfl) ?_
        refine O.pure 1 [(2, 0)] [2, 3, 11, 12, 13, 16] [p6_0.1, p6_0.2.1 + s2.1.toNat * 3] (fr' := [(2, .pointer (some ⟨p0_1, 0, none⟩)), (3, .pointer (some ⟨p3_0, 0, none⟩)), (11, .slice h0.1 a0.f0.length h0.2), (12, .int .i64 (a0.f0.length : Int)), (13, .int .i64 s2.1), (16, .agg #[.string x6_0.f0, .slice p6_0.2.2.1 x6_0.f1.length p6_0.2.2.2, .int .i64 x6_0.f2])]) (bx' := [⟨p3_0, [.slice g2.1.1 g2.2.length g2.1.2], 24⟩, ⟨p0_1, [.slice none 0 0], 24⟩]) (by kernel_rfl) ?_
        refine O.e (some 5) (Ev.alloc (t := 70) (z := .agg #[.string (⟨#[]⟩ : ByteArray), .slice none 0 0, .int .i64 0]) (by kernel_rfl) (by kernel_rfl)) (by kernel_rfl) (fun p6_2 => ?_)
        refine O.pure 1 [(0, 0)] [2, 3, 5, 11, 12, 13] [p6_2, 0] (fr' := [(2, .pointer (some ⟨p0_1, 0, none⟩)), (3, .pointer (some ⟨p3_0, 0, none⟩)), (5, .pointer (some ⟨p6_2, 0, none⟩)), (11, .slice h0.1 a0.f0.length h0.2), (12, .int .i64 (a0.f0.length : Int)), (13, .int .i64 s2.1)]) (bx' := [⟨p6_2, [.string x6_0.f0, .slice p6_0.2.2.1 x6_0.f1.length p6_0.2.2.2, .int .i64 x6_0.f2], 70⟩, ⟨p3_0, [.slice g2.1.1 g2.2.length g2.1.2], 24⟩, ⟨p0_1, [.slice none 0 0], 24⟩]) (by kernel_rfl) ?_
        refine O.nil (by kernel_rfl) ?_
        refine J.seq (by kernel_rfl) ?_
        obtain ⟨y7_3, hy7_3, H⟩ := bindE H
        have hy7_3a := (appE hy7_3).1
        refine J.region (by kernel_rfl) ?_
        refine O.e (some 17) (Ev.lit (t := 27) (len := 0) (parts := #[]) (ps := []) (cs := []) (e := 5) (Kd.int .u8) ([] : List Int) (by kernel_rfl) (by kernel_rfl) (by kernel_rfl) (by kernel_rfl) (by kernel_rfl) (by decide) (fun w' hφ => (Els.nil _ _ _))) (by kernel_rfl) (fun p7_0 => ?_)
        refine O.pure 2 [(0, 1)] [2, 3, 5, 11, 12, 13, 17, 19] [p6_2, 1] (fr' := [(2, .pointer (some ⟨p0_1, 0, none⟩)), (3, .pointer (some ⟨p3_0, 0, none⟩)), (5, .pointer (some ⟨p6_2, 0, none⟩)), (11, .slice h0.1 a0.f0.length h0.2), (12, .int .i64 (a0.f0.length : Int)), (13, .int .i64 s2.1), (17, .slice ((some ⟨p7_0, 0, none⟩, 0) : Hd).1 ([] : List Int).length ((some ⟨p7_0, 0, none⟩, 0) : Hd).2), (19, .slice p6_0.2.2.1 x6_0.f1.length p6_0.2.2.2)]) (bx' := [⟨p6_2, [.string x6_0.f0, .slice p6_0.2.2.1 x6_0.f1.length p6_0.2.2.2, .int .i64 x6_0.f2], 70⟩, ⟨p3_0, [.slice g2.1.1 g2.2.length g2.1.2], 24⟩, ⟨p0_1, [.slice none 0 0], 24⟩]) (by kernel_rfl) ?_
        refine O.e (some 20) (Ev.appSl (d := (Kd.int .u8)) (ys := x6_0.f1) (A := p6_0.2.2.1) (c := p6_0.2.2.2) (x := .tmp 17) (y := .tmp 19) (t := 27) (bytes := 1) 0 (by kernel_rfl) (by kernel_rfl) (by kernel_rfl) rfl (by kernel_rfl) (by decide) hy7_3a) (by kernel_rfl) (fun p7_3 => ?_)
        refine O.pure 2 [(0, 1)] [2, 3, 5, 11, 12, 13] [p6_2, 1] (fr' := [(2, .pointer (some ⟨p0_1, 0, none⟩)), (3, .pointer (some ⟨p3_0, 0, none⟩)), (5, .pointer (some ⟨p6_2, 0, none⟩)), (11, .slice h0.1 a0.f0.length h0.2), (12, .int .i64 (a0.f0.length : Int)), (13, .int .i64 s2.1)]) (bx' := [⟨p6_2, [.string x6_0.f0, .slice p7_3.1 (([] : List Int) ++ x6_0.f1).length p7_3.2, .int .i64 x6_0.f2], 70⟩, ⟨p3_0, [.slice g2.1.1 g2.2.length g2.1.2], 24⟩, ⟨p0_1, [.slice none 0 0], 24⟩]) (by kernel_rfl) ?_
        refine O.nil (by kernel_rfl) ?_
        obtain ⟨y8_4, hy8_4, H⟩ := bindE H
        have hy8_4a := (appE hy8_4).1
        have hlen : (g2.2.length + ([((⟨x6_0.f0, (([] : List Int) ++ x6_0.f1), x6_0.f2⟩ : S70), p7_3)] : List (S70 × Hd)).length) * 48 ≤ 140737488355328 := by
          have : s2.2.length = g2.2.length := by rw [← hzs, List.length_map]
          rw [← this]; exact hy8_4a
        refine J.mono (fun w' hS' => St.perm hS' (List.Perm.swap _ _ _)) ?_
        refine J.region (by kernel_rfl) ?_
        refine O.pure 3 [(1, 0), (0, 0)] [2, 3, 11, 12, 13, 23, 24] [p3_0, 0, p6_2, 0] (fr' := [(2, .pointer (some ⟨p0_1, 0, none⟩)), (3, .pointer (some ⟨p3_0, 0, none⟩)), (11, .slice h0.1 a0.f0.length h0.2), (12, .int .i64 (a0.f0.length : Int)), (13, .int .i64 s2.1), (23, .slice g2.1.1 g2.2.length g2.1.2), (24, .agg #[.string x6_0.f0, .slice p7_3.1 (([] : List Int) ++ x6_0.f1).length p7_3.2, .int .i64 x6_0.f2])]) (bx' := [⟨p6_2, [.string x6_0.f0, .slice p7_3.1 (([] : List Int) ++ x6_0.f1).length p7_3.2, .int .i64 x6_0.f2], 70⟩, ⟨p3_0, [.slice g2.1.1 g2.2.length g2.1.2], 24⟩, ⟨p0_1, [.slice none 0 0], 24⟩]) (by kernel_rfl) ?_
        refine O.e (some 25) (Ev.lit (t := 22) (len := 1) (parts := #[(0, .tmp 24)]) (ps := [(0, .agg #[.string x6_0.f0, .slice p7_3.1 (([] : List Int) ++ x6_0.f1).length p7_3.2, .int .i64 x6_0.f2])]) (cs := [.string x6_0.f0, .slice p7_3.1 (([] : List Int) ++ x6_0.f1).length p7_3.2, .int .i64 x6_0.f2]) (e := 70) sh70.kdH ([((⟨x6_0.f0, (([] : List Int) ++ x6_0.f1), x6_0.f2⟩ : S70), p7_3)] : List (S70 × Hd)) (by kernel_rfl) (by kernel_rfl) (by kernel_rfl) (by kernel_rfl) (by kernel_rfl) (by decide) (fun w' hφ => (Els.cons (c := [.string x6_0.f0, .slice p7_3.1 (([] : List Int) ++ x6_0.f1).length p7_3.2, .int .i64 x6_0.f2]) rfl (Els.nil _ _ _)))) (by kernel_rfl) (fun p8_3 => ?_)
        refine O.e (some 26) (Ev.appLit (x := .tmp 23) (y := .tmp 25) (t := 22) (bytes := 48) (by kernel_rfl) (by kernel_rfl) (by kernel_rfl) (by kernel_rfl) (by kernel_rfl) (by decide) hlen) (by kernel_rfl) (fun p8_4 => ?_)
        refine O.pure 2 [(1, 0)] [2, 3, 11, 12, 13] [p3_0, 0] (fr' := [(2, .pointer (some ⟨p0_1, 0, none⟩)), (3, .pointer (some ⟨p3_0, 0, none⟩)), (11, .slice h0.1 a0.f0.length h0.2), (12, .int .i64 (a0.f0.length : Int)), (13, .int .i64 s2.1)]) (bx' := [⟨p6_2, [.string x6_0.f0, .slice p7_3.1 (([] : List Int) ++ x6_0.f1).length p7_3.2, .int .i64 x6_0.f2], 70⟩, ⟨p3_0, [.slice p8_4.1 (g2.2 ++ ([((⟨x6_0.f0, (([] : List Int) ++ x6_0.f1), x6_0.f2⟩ : S70), p7_3)] : List (S70 × Hd))).length p8_4.2], 24⟩, ⟨p0_1, [.slice none 0 0], 24⟩]) (by kernel_rfl) ?_
        refine O.nil (by kernel_rfl) ?_
        refine J.out ?_
        refine J.region (by kernel_rfl) ?_
        refine O.pure 2 [] [2, 3, 11, 12, 13] [] (fr' := [(2, .pointer (some ⟨p0_1, 0, none⟩)), (3, .pointer (some ⟨p3_0, 0, none⟩)), (11, .slice h0.1 a0.f0.length h0.2), (12, .int .i64 (a0.f0.length : Int)), (13, .int .i64 (IntKind.wrap .i64 (s2.1 + 1)))]) (bx' := [⟨p6_2, [.string x6_0.f0, .slice p7_3.1 (([] : List Int) ++ x6_0.f1).length p7_3.2, .int .i64 x6_0.f2], 70⟩, ⟨p3_0, [.slice p8_4.1 (g2.2 ++ ([((⟨x6_0.f0, (([] : List Int) ++ x6_0.f1), x6_0.f2⟩ : S70), p7_3)] : List (S70 × Hd))).length p8_4.2], 24⟩, ⟨p0_1, [.slice none 0 0], 24⟩]) (by kernel_rfl) ?_
        refine O.nil (by kernel_rfl) ?_
        refine J.mono (fun w' hS' => ⟨?_, ?_⟩) (ih2 ((IntKind.wrap .i64 (s2.1 + 1)), (s2.2 ++ ([(⟨x6_0.f0, (([] : List Int) ++ x6_0.f1), x6_0.f2⟩ : S70)] : List S70))) (p8_4, g2.2 ++ [((⟨x6_0.f0, (([] : List Int) ++ x6_0.f1), x6_0.f2⟩ : S70), p7_3)]) H)
        · have h1 := (hS'.facts_sel [1] rfl).noro
          have h2 : St X w [] [⟨p3_0, [.slice p8_4.1 (g2.2 ++ ([((⟨x6_0.f0, (([] : List Int) ++ x6_0.f1), x6_0.f2⟩ : S70), p7_3)] : List (S70 × Hd))).length p8_4.2], 24⟩, ⟨p0_1, [.slice none 0 0], 24⟩] _ [] [Rd kd70 h0.1 h0.2 a0.f0] w' := h1.sub (fun p hp => List.mem_cons_of_mem _ hp) (fun r hr => hr) (by
            have hn := h1.nodup
            simp only [keys, List.map_cons, List.cons_append, List.nodup_cons] at hn ⊢
            exact hn.2)
          refine h2.perm (List.Perm.cons _ ?_)
          rw [show sh70.inner 5 (g2.2 ++ [((⟨x6_0.f0, (([] : List Int) ++ x6_0.f1), x6_0.f2⟩ : S70), p7_3)]) = sh70.inner 5 g2.2 ++ [mkRow (Kd.int .u8) 5 (.slice p7_3.1 (([] : List Int) ++ x6_0.f1).length p7_3.2) (([] : List Int) ++ x6_0.f1)] from by simp only [Sh1.inner, List.map_append, List.map_cons, List.map_nil, sh70]]
          exact List.perm_append_comm (l₁ := [_])
        · simp only [List.map_append, List.map_cons, List.map_nil, hzs]
      · refine J.condF (x := .tmp 14) (t := (decide (s2.1 < (a0.f0.length : Int)))) (by kernel_rfl) (by kernel_rfl) hc5 ?_
        refine J.exit (id := 0) (by kernel_rfl) rfl ?_
        refine J.seq (by kernel_rfl) ?_
        refine J.region (by kernel_rfl) ?_
        refine O.pure 2 [(0, 0), (1, 0)] [2] [p3_0, 0, p0_1, 0] (fr' := [(2, .pointer (some ⟨p0_1, 0, none⟩))]) (bx' := [⟨p3_0, [.slice g2.1.1 g2.2.length g2.1.2], 24⟩, ⟨p0_1, [.slice g2.1.1 g2.2.length g2.1.2], 24⟩]) (by kernel_rfl) ?_
        refine O.nil (by kernel_rfl) ?_
        obtain rfl := Option.some.inj H
        refine J.doneQ [(1, 0)] [p0_1, 0] (vs := [.agg #[.slice g2.1.1 g2.2.length g2.1.2]]) (by kernel_rfl) (by kernel_rfl) (fun w' hS' => ?_)
        obtain ⟨hS2, hD⟩ := deep_end sh70 hS'
        have hl : s2.2.length = g2.2.length := by rw [← hzs, List.length_map]
        have hnd := hS'.nodup
        refine ⟨g2, by simp only [hl]; rfl, ?_, hD, ?_⟩
        · simp only [hl]
          rw [hzs] at hS2
          refine St.sub (hS2.facts_sel [] rfl).noro (fun p hp => by simp at hp) (fun r hr => hr) ?_
          have hn2 := hS2.nodup
          simp only [keys, List.nodup_append, List.map_nil, List.nil_append] at hn2 ⊢
          exact hn2.2.1
        · intro z hz b hb hb2
          simp only [hl] at hb2
          simp only [keys, List.flatMap_cons, List.nodup_append, inner_keys] at hnd
          exact hnd.2.1.2.2 b hb2 b (List.mem_flatMap.2 ⟨z, hz, hb⟩) rfl
    · refine J.nilrow sh70.kdH 70 ?_
      refine J.mono (fun w' hS' => ⟨?_, rfl⟩) h_
      have h1 := (hS'.facts_sel [0] rfl).noro
      exact h1.sub (fun p hp => by
        rcases List.mem_cons.1 hp with rfl | hp
        · exact List.mem_cons_self
        · rw [List.mem_singleton.1 hp]; exact List.mem_cons_of_mem _ List.mem_cons_self) (fun r hr => hr) (by
        have hn := h1.nodup
        simp only [keys, List.map_cons, List.map_nil, List.cons_append, List.nil_append, List.nodup_cons, List.mem_cons, not_or, Sh1.inner] at hn ⊢
        exact ⟨⟨hn.1.1, hn.1.2.2⟩, hn.2.1.2, hn.2.2.2⟩)
/-! ### haywain/disk.at$1: function 73 -/
def disk_at_1_f73.f (K : Nat) (a0 : S70) (c_0 : ByteArray) : Option Bool := some ((a0.f0.toList == c_0.toList))
set_option maxRecDepth 100000 in
set_option maxHeartbeats 1000000 in
theorem disk_at_1_f73.con (K : Nat) (a0 : S70) (c_0 : ByteArray) (gc_0 : Nat) (h0 : Hd) (r : Bool) (X : Nat → Nat → Prop) (w : World) (hS : St X w [] [] [] [] [Rd (Kd.int .u8) h0.1 h0.2 a0.f1, RowAt (gc_0, 0, [.string c_0])] w) (H : disk_at_1_f73.f K a0 c_0 = some r) :
    Cn Try.prog 73 [.agg #[.string a0.f0, .slice h0.1 a0.f1.length h0.2, .int .i64 a0.f2], .pointer (some ⟨gc_0, 0, none⟩)] X w [] (fun i : Unit => .bool r) (fun i => []) (fun i => []) (fun i => []) := by
 refine Cn.of Try.func73 (by kernel_rfl) hS ?_
 unfold disk_at_1_f73.f at H
 refine J.mono (fun w hS => hS.roF 1 rfl) ?_
 refine J.seq (by kernel_rfl) ?_
 refine J.region (by kernel_rfl) ?_
 refine O.e (some 2) (Ev.box (t := 70) (x := .tmp 0) (v := .agg #[.string a0.f0, .slice h0.1 a0.f1.length h0.2, .int .i64 a0.f2]) (by kernel_rfl) (by kernel_rfl)) (by kernel_rfl) (fun p0_0 => ?_)
 refine O.pure 1 [] [1, 2] [] (fr' := [(1, .pointer (some ⟨gc_0, 0, none⟩)), (2, .pointer (some ⟨p0_0, 0, none⟩))]) (bx' := [⟨p0_0, [.string a0.f0, .slice h0.1 a0.f1.length h0.2, .int .i64 a0.f2], 70⟩]) (by kernel_rfl) ?_
 refine O.nil (by kernel_rfl) ?_
 refine J.seq (by kernel_rfl) ?_
 refine J.region (by kernel_rfl) ?_
 refine O.pure 5 [(0, 0), (1, 0)] [3] [p0_0, 0, gc_0, 0] (fr' := [(3, .bool (a0.f0.toList == c_0.toList))]) (bx' := [⟨p0_0, [.string a0.f0, .slice h0.1 a0.f1.length h0.2, .int .i64 a0.f2], 70⟩]) (by kernel_rfl) ?_
 refine O.nil (by kernel_rfl) ?_
 obtain rfl := Option.some.inj H
 exact J.doneS [] [] [] [] [] () (vs := [.bool (a0.f0.toList == c_0.toList)]) (by kernel_rfl) (by kernel_rfl) (by kernel_rfl) (by kernel_rfl) (by kernel_rfl) (by decide)
/-! ### haywain/disk.find: function 55 -/
def disk_find_f73.l1 (K : Nat) (a0 : S24) (c1_0 : ByteArray) : Nat → Int → Option Int
  | 0, _ => none
  | k + 1, s1 => cond (decide (s1 < (a0.f0.length : Int))) ((idxO a0.f0 s1).bind fun x3_1 => (disk_at_1_f73.f K x3_1 c1_0).bind fun x4_2 => cond x4_2 (some (s1)) (disk_find_f73.l1 K a0 c1_0 k (IntKind.wrap .i64 (s1 + 1)))) (some ((-1)))
def disk_find_f73.f (K : Nat) (a0 : S24) (c1_0 : ByteArray) : Option Int := disk_find_f73.l1 K a0 c1_0 K 0
set_option maxRecDepth 100000 in
set_option maxHeartbeats 1000000 in
theorem disk_find_f73.con (K : Nat) (a0 : S24) (c1_0 : ByteArray) (gc1_0 : Nat) (h0 : Hd) (r : Int) (X : Nat → Nat → Prop) (w : World) (hS : St X w [] [] [] [] [Rd kd70 h0.1 h0.2 a0.f0, RowAt (gc1_0, 0, [.string c1_0])] w) (H : disk_find_f73.f K a0 c1_0 = some r) :
    Cn Try.prog 55 [.agg #[.slice h0.1 a0.f0.length h0.2], .func (.func 73) #[] #[.pointer (some ⟨gc1_0, 0, none⟩)]] X w [] (fun i : Unit => .int .i64 r) (fun i => []) (fun i => []) (fun i => []) := by
 refine Cn.of Try.func55 (by kernel_rfl) hS ?_
 unfold disk_find_f73.f at H
 refine J.seq (by kernel_rfl) ?_
 refine J.region (by kernel_rfl) ?_
 refine O.e (some 2) (Ev.box (t := 24) (x := .tmp 0) (v := .agg #[.slice h0.1 a0.f0.length h0.2]) (by kernel_rfl) (by kernel_rfl)) (by kernel_rfl) (fun p0_0 => ?_)
 refine O.pure 1 [] [1, 2] [] (fr' := [(1, .func (.func 73) #[] #[.pointer (some ⟨gc1_0, 0, none⟩)]), (2, .pointer (some ⟨p0_0, 0, none⟩))]) (bx' := [⟨p0_0, [.slice h0.1 a0.f0.length h0.2], 24⟩]) (by kernel_rfl) ?_
 refine O.nil (by kernel_rfl) ?_
 refine J.seq (by kernel_rfl) ?_
 refine J.seq (by kernel_rfl) ?_
 refine J.region (by kernel_rfl) ?_
 refine O.pure 4 [(0, 0)] [1, 8, 9, 10] [p0_0, 0] (fr' := [(1, .func (.func 73) #[] #[.pointer (some ⟨gc1_0, 0, none⟩)]), (8, .slice h0.1 a0.f0.length h0.2), (9, .int .i64 (a0.f0.length : Int)), (10, .int .i64 0)]) (bx' := [⟨p0_0, [.slice h0.1 a0.f0.length h0.2], 24⟩]) (by kernel_rfl) ?_
 refine O.nil (by kernel_rfl) ?_
 refine J.block (id := 0) (by kernel_rfl) ?_
 refine J.loopI (σ := Int) (γ := Unit) (f := fun m_ s_ => disk_find_f73.l1 K a0 c1_0 m_ s_) (fun s1 g1 => [(1, .func (.func 73) #[] #[.pointer (some ⟨gc1_0, 0, none⟩)]), (8, .slice h0.1 a0.f0.length h0.2), (9, .int .i64 (a0.f0.length : Int)), (10, .int .i64 s1)]) (fun s1 g1 => St X w [] [] [] [] [Rd kd70 h0.1 h0.2 a0.f0, RowAt (gc1_0, 0, [.string c1_0])]) K 0 () (by kernel_rfl) H (fun _ => rfl) (fun m_ s1 H ih1 g1 => ?_) (fun h_ => ?_)
 ·unfold disk_find_f73.l1 at H
  refine J.seq (by kernel_rfl) ?_
  refine J.region (by kernel_rfl) ?_
  refine O.pure 1 [] [1, 8, 9, 10, 11] [] (fr' := [(1, .func (.func 73) #[] #[.pointer (some ⟨gc1_0, 0, none⟩)]), (8, .slice h0.1 a0.f0.length h0.2), (9, .int .i64 (a0.f0.length : Int)), (10, .int .i64 s1), (11, .bool (decide (s1 < (a0.f0.length : Int))))]) (bx' := []) (by kernel_rfl) ?_
  refine O.nil (by kernel_rfl) ?_
  refine J.seq (by kernel_rfl) ?_
  rcases condE H with ⟨hc6, H⟩ | ⟨hc6, H⟩
  ·refine J.condT (x := .tmp 11) (t := (decide (s1 < (a0.f0.length : Int)))) (by kernel_rfl) (by kernel_rfl) hc6 ?_
   refine J.skip (by kernel_rfl) ?_
   refine J.seq (by kernel_rfl) ?_
   refine J.block (id := 1) (by kernel_rfl) ?_
   refine J.seq (by kernel_rfl) ?_
   obtain ⟨x3_1, hx3_1, H⟩ := bindE H
   obtain ⟨hx3_1a, hx3_1⟩ := idxE hx3_1
   refine J.region (by kernel_rfl) ?_
   refine O.pure 1 [] [1, 8, 9, 10, 12] [] (fr' := [(1, .func (.func 73) #[] #[.pointer (some ⟨gc1_0, 0, none⟩)]), (8, .slice h0.1 a0.f0.length h0.2), (9, .int .i64 (a0.f0.length : Int)), (10, .int .i64 s1), (12, .int .i64 s1)]) (bx' := []) (by kernel_rfl) ?_
   refine O.open (d := kd70) (h := h0) (i := s1) 0 rfl hx3_1 (op70 _) (fun p3_1 hp3_1A => ?_)
   refine O.q (v := .pointer (some ⟨p3_1.1, p3_1.2.1 + s1.toNat * 3, none⟩)) (some 13) (Qu.idx (t := 22) (x := .tmp 8) (y := .tmp 10) (c := h0.2) (kk := .i64) (sz := 3) (by kernel_rfl) (by kernel_rfl) (by kernel_rfl) (by kernel_rfl) hx3_1a (idx_lt hx3_1) hp3_1A) (by kernel_rfl) ?_
   refine O.pure 1 [(0, 0)] [1, 8, 9, 10, 12, 14] [p3_1.1, p3_1.2.1 + s1.toNat * 3] (fr' := [(1, .func (.func 73) #[] #[.pointer (some ⟨gc1_0, 0, none⟩)]), (8, .slice h0.1 a0.f0.length h0.2), (9, .int .i64 (a0.f0.length : Int)), (10, .int .i64 s1), (12, .int .i64 s1), (14, .agg #[.string x3_1.f0, .slice p3_1.2.2.1 x3_1.f1.length p3_1.2.2.2, .int .i64 x3_1.f2])]) (bx' := []) (by kernel_rfl) ?_
   refine O.e (some 6) (Ev.alloc (t := 70) (z := .agg #[.string (⟨#[]⟩ : ByteArray), .slice none 0 0, .int .i64 0]) (by kernel_rfl) (by kernel_rfl)) (by kernel_rfl) (fun p3_3 => ?_)
   refine O.pure 2 [(0, 0)] [1, 5, 6, 8, 9, 10] [p3_3, 0] (fr' := [(1, .func (.func 73) #[] #[.pointer (some ⟨gc1_0, 0, none⟩)]), (5, .int .i64 s1), (6, .pointer (some ⟨p3_3, 0, none⟩)), (8, .slice h0.1 a0.f0.length h0.2), (9, .int .i64 (a0.f0.length : Int)), (10, .int .i64 s1)]) (bx' := [⟨p3_3, [.string x3_1.f0, .slice p3_1.2.2.1 x3_1.f1.length p3_1.2.2.2, .int .i64 x3_1.f2], 70⟩]) (by kernel_rfl) ?_
   refine O.nil (by kernel_rfl) ?_
   refine J.seq (by kernel_rfl) ?_
   obtain ⟨x4_2, hx4_2, H⟩ := bindE H
   refine J.region (by kernel_rfl) ?_
   refine O.pure 2 [(0, 0)] [1, 5, 8, 9, 10, 15, 16] [p3_3, 0] (fr' := [(1, .func (.func 73) #[] #[.pointer (some ⟨gc1_0, 0, none⟩)]), (5, .int .i64 s1), (8, .slice h0.1 a0.f0.length h0.2), (9, .int .i64 (a0.f0.length : Int)), (10, .int .i64 s1), (15, .func (.func 73) #[] #[.pointer (some ⟨gc1_0, 0, none⟩)]), (16, .agg #[.string x3_1.f0, .slice p3_1.2.2.1 x3_1.f1.length p3_1.2.2.2, .int .i64 x3_1.f2])]) (bx' := [⟨p3_3, [.string x3_1.f0, .slice p3_1.2.2.1 x3_1.f1.length p3_1.2.2.2, .int .i64 x3_1.f2], 70⟩]) (by kernel_rfl) ?_
   refine O.e (some 17) (Ev.callF (g := 73) (caps := [.pointer (some ⟨gc1_0, 0, none⟩)]) (vs := [.agg #[.string x3_1.f0, .slice p3_1.2.2.1 x3_1.f1.length p3_1.2.2.2, .int .i64 x3_1.f2]]) (xs := [.tmp 16]) [0, 2] (by kernel_rfl) (by kernel_rfl) (fun w hS => disk_at_1_f73.con K x3_1 c1_0 gc1_0 p3_1.2.2  _ _ w hS hx4_2)) (by kernel_rfl) (fun _ => ?_)
   refine O.nil (by kernel_rfl) ?_
   rcases condE H with ⟨hc7, H⟩ | ⟨hc7, H⟩
   ·refine J.condT (x := .tmp 17) (t := x4_2) (by kernel_rfl) (by kernel_rfl) hc7 ?_
    refine J.seq (by kernel_rfl) ?_
    refine J.region (by kernel_rfl) ?_
    refine O.pure 2 [] [4] [] (fr' := [(4, .int .i64 s1)]) (bx' := [⟨p3_3, [.string x3_1.f0, .slice p3_1.2.2.1 x3_1.f1.length p3_1.2.2.2, .int .i64 x3_1.f2], 70⟩]) (by kernel_rfl) ?_
    refine O.nil (by kernel_rfl) ?_
    obtain rfl := Option.some.inj H
    exact J.doneS [] [] [] [] [] () (vs := [.int .i64 s1]) (by kernel_rfl) (by kernel_rfl) (by kernel_rfl) (by kernel_rfl) (by kernel_rfl) (by decide)
   ·refine J.condF (x := .tmp 17) (t := x4_2) (by kernel_rfl) (by kernel_rfl) hc7 ?_
    refine J.skip (by kernel_rfl) ?_
    refine J.out ?_
    refine J.region (by kernel_rfl) ?_
    refine O.pure 2 [] [1, 8, 9, 10] [] (fr' := [(1, .func (.func 73) #[] #[.pointer (some ⟨gc1_0, 0, none⟩)]), (8, .slice h0.1 a0.f0.length h0.2), (9, .int .i64 (a0.f0.length : Int)), (10, .int .i64 (IntKind.wrap .i64 (s1 + 1)))]) (bx' := [⟨p3_3, [.string x3_1.f0, .slice p3_1.2.2.1 x3_1.f1.length p3_1.2.2.2, .int .i64 x3_1.f2], 70⟩]) (by kernel_rfl) ?_
    refine O.nil (by kernel_rfl) ?_
    exact J.conv2 [1, 8, 9, 10] [1, 2] [] [] (by kernel_rfl) (by kernel_rfl) (by kernel_rfl) (by kernel_rfl) (by decide) (ih1 (IntKind.wrap .i64 (s1 + 1)) () H)
  ·refine J.condF (x := .tmp 11) (t := (decide (s1 < (a0.f0.length : Int)))) (by kernel_rfl) (by kernel_rfl) hc6 ?_
   refine J.exit (id := 0) (by kernel_rfl) rfl ?_
   refine J.seq (by kernel_rfl) ?_
   refine J.region (by kernel_rfl) ?_
   refine O.pure 1 [] [4] [] (fr' := [(4, .int .i64 (-1))]) (bx' := []) (by kernel_rfl) ?_
   refine O.nil (by kernel_rfl) ?_
   obtain rfl := Option.some.inj H
   exact J.doneS [] [] [] [] [] () (vs := [.int .i64 (-1)]) (by kernel_rfl) (by kernel_rfl) (by kernel_rfl) (by kernel_rfl) (by kernel_rfl) (by decide)
 ·exact J.conv2 [1, 8, 9, 10] [0, 1] [] [] (by kernel_rfl) (by kernel_rfl) (by kernel_rfl) (by kernel_rfl) (by decide) h_
/-! ### haywain/disk.at: function 54 -/
def disk_at.f (K : Nat) (a0 : S24) (a1 : ByteArray) : Option Int := (disk_find_f73.f K a0 a1).bind fun x1_2 => some (x1_2)
set_option maxRecDepth 100000 in
set_option maxHeartbeats 1000000 in
theorem disk_at.con (K : Nat) (a0 : S24) (a1 : ByteArray) (h0 : Hd) (r : Int) (X : Nat → Nat → Prop) (w : World) (hS : St X w [] [] [] [] [Rd kd70 h0.1 h0.2 a0.f0] w) (H : disk_at.f K a0 a1 = some r) :
    Cn Try.prog 54 [.agg #[.slice h0.1 a0.f0.length h0.2], .string a1] X w [] (fun i : Unit => .int .i64 r) (fun i => []) (fun i => []) (fun i => []) := by
 refine Cn.of Try.func54 (by kernel_rfl) hS ?_
 unfold disk_at.f at H
 refine J.seq (by kernel_rfl) ?_
 refine J.region (by kernel_rfl) ?_
 refine O.e (some 2) (Ev.box (t := 24) (x := .tmp 0) (v := .agg #[.slice h0.1 a0.f0.length h0.2]) (by kernel_rfl) (by kernel_rfl)) (by kernel_rfl) (fun p0_0 => ?_)
 refine O.e (some 3) (Ev.box (t := 9) (x := .tmp 1) (v := .string a1) (by kernel_rfl) (by kernel_rfl)) (by kernel_rfl) (fun p0_1 => ?_)
 refine O.pure 1 [] [2, 3] [] (fr' := [(2, .pointer (some ⟨p0_0, 0, none⟩)), (3, .pointer (some ⟨p0_1, 0, none⟩))]) (bx' := [⟨p0_1, [.string a1], 9⟩, ⟨p0_0, [.slice h0.1 a0.f0.length h0.2], 24⟩]) (by kernel_rfl) ?_
 refine O.nil (by kernel_rfl) ?_
 refine J.seq (by kernel_rfl) ?_
 obtain ⟨x1_2, hx1_2, H⟩ := bindE H
 refine J.region (by kernel_rfl) ?_
 refine O.pure 2 [(1, 0)] [5, 6] [p0_0, 0] (fr' := [(5, .agg #[.slice h0.1 a0.f0.length h0.2]), (6, .func (.func 73) #[] #[.pointer (some ⟨p0_1, 0, none⟩)])]) (bx' := [⟨p0_1, [.string a1], 9⟩, ⟨p0_0, [.slice h0.1 a0.f0.length h0.2], 24⟩]) (by kernel_rfl) ?_
 refine O.e (some 7) (Ev.callLb (xs1 := [.tmp 5, .tmp 6]) [1, 0] (fun w hS => (hS).boxfact 0 [1] rfl rfl (by decide)) (by kernel_rfl) (by kernel_rfl) (fun _ q hq => by cases hq) (fun w hS => disk_find_f73.con K a0 a1 p0_1 h0  _ _ w hS hx1_2)) (by kernel_rfl) (fun _ => ?_)
 refine O.pure 1 [] [4] [] (fr' := [(4, .int .i64 x1_2)]) (bx' := [⟨p0_1, [.string a1], 9⟩, ⟨p0_0, [.slice h0.1 a0.f0.length h0.2], 24⟩]) (by kernel_rfl) ?_
 refine O.nil (by kernel_rfl) ?_
 obtain rfl := Option.some.inj H
 exact J.doneS [] [] [] [] [] () (vs := [.int .i64 x1_2]) (by kernel_rfl) (by kernel_rfl) (by kernel_rfl) (by kernel_rfl) (by kernel_rfl) (by decide)
/-! ### haywain/disk.Get: function 31 -/
def disk_Get.f (K : Nat) (a0 : S24) (a1 : ByteArray) : Option ((List Int) × Int) := (disk_own.f K a0).bind fun x1_1 => (disk_at.f K x1_1 a1).bind fun x2_2 => cond (decide (x2_2 < 0)) (some ((([] : List Int), 4))) ((idxO x1_1.f0 x2_2).bind fun x5_3 => some ((x5_3.f1, 0)))
set_option maxRecDepth 100000 in
set_option maxHeartbeats 1000000 in
theorem disk_Get.con (K : Nat) (a0 : S24) (a1 : ByteArray) (h0 : Hd) (r : ((List Int) × Int)) (X : Nat → Nat → Prop) (w : World) (hS : St X w [] [] [] [] [Rd kd70 h0.1 h0.2 a0.f0] w) (H : disk_Get.f K a0 a1 = some r) :
    Cn Try.prog 31 [.agg #[.slice h0.1 a0.f0.length h0.2], .string a1] X w [] (fun i : Hd => .tuple #[.slice i.1 r.1.length i.2, .int .i64 r.2]) (fun i => []) (fun i => []) (fun i => [Rd (Kd.int .u8) i.1 i.2 r.1]) := by
 refine Cn.of Try.func31 (by kernel_rfl) hS ?_
 unfold disk_Get.f at H
 refine J.seq (by kernel_rfl) ?_
 refine J.region (by kernel_rfl) ?_
 refine O.e (some 2) (Ev.box (t := 24) (x := .tmp 0) (v := .agg #[.slice h0.1 a0.f0.length h0.2]) (by kernel_rfl) (by kernel_rfl)) (by kernel_rfl) (fun p0_0 => ?_)
 refine O.pure 2 [] [1, 2] [] (fr' := [(1, .string a1), (2, .pointer (some ⟨p0_0, 0, none⟩))]) (bx' := [⟨p0_0, [.slice h0.1 a0.f0.length h0.2], 24⟩]) (by kernel_rfl) ?_
 refine O.nil (by kernel_rfl) ?_
 refine J.seq (by kernel_rfl) ?_
 obtain ⟨x1_1, hx1_1, H⟩ := bindE H
 refine J.region (by kernel_rfl) ?_
 refine O.pure 1 [(0, 0)] [1, 2, 7] [p0_0, 0] (fr' := [(1, .string a1), (2, .pointer (some ⟨p0_0, 0, none⟩)), (7, .agg #[.slice h0.1 a0.f0.length h0.2])]) (bx' := [⟨p0_0, [.slice h0.1 a0.f0.length h0.2], 24⟩]) (by kernel_rfl) ?_
 refine O.e (some 8) (Ev.call0 (xs := [.tmp 7]) [0] (by kernel_rfl) (by kernel_rfl) (fun w hS => disk_own.con K a0 h0  _ _ w hS hx1_1)) (by kernel_rfl) (fun p1_1 => ?_)
 refine O.pure 1 [(0, 0)] [1, 2] [p0_0, 0] (fr' := [(1, .string a1), (2, .pointer (some ⟨p0_0, 0, none⟩))]) (bx' := [⟨p0_0, [.slice p1_1.1 x1_1.f0.length p1_1.2], 24⟩]) (by kernel_rfl) ?_
 refine O.nil (by kernel_rfl) ?_
 refine J.seq (by kernel_rfl) ?_
 obtain ⟨x2_2, hx2_2, H⟩ := bindE H
 refine J.region (by kernel_rfl) ?_
 refine O.pure 2 [(0, 0)] [2, 9, 10] [p0_0, 0] (fr' := [(2, .pointer (some ⟨p0_0, 0, none⟩)), (9, .agg #[.slice p1_1.1 x1_1.f0.length p1_1.2]), (10, .string a1)]) (bx' := [⟨p0_0, [.slice p1_1.1 x1_1.f0.length p1_1.2], 24⟩]) (by kernel_rfl) ?_
 refine O.e (some 11) (Ev.callLb (xs1 := [.tmp 9, .tmp 10]) [0] (fun w hS => (hS.rowsel [0] rfl (by decide)).freezeL (hh := p1_1) (m := x1_1.f0.length) (xs := x1_1.f0) rfl) (by kernel_rfl) (by kernel_rfl) (fun _ q hq => by cases hq) (fun w hS => disk_at.con K x1_1 a1 p1_1  _ _ w hS hx2_2)) (by kernel_rfl) (fun _ => ?_)
 refine O.pure 1 [] [2, 6] [] (fr' := [(2, .pointer (some ⟨p0_0, 0, none⟩)), (6, .int .i64 x2_2)]) (bx' := [⟨p0_0, [.slice p1_1.1 x1_1.f0.length p1_1.2], 24⟩]) (by kernel_rfl) ?_
 refine O.nil (by kernel_rfl) ?_
 refine J.seq (by kernel_rfl) ?_
 refine J.seq (by kernel_rfl) ?_
 refine J.region (by kernel_rfl) ?_
 refine O.pure 2 [] [2, 6, 13] [] (fr' := [(2, .pointer (some ⟨p0_0, 0, none⟩)), (6, .int .i64 x2_2), (13, .bool (decide (x2_2 < 0)))]) (bx' := [⟨p0_0, [.slice p1_1.1 x1_1.f0.length p1_1.2], 24⟩]) (by kernel_rfl) ?_
 refine O.nil (by kernel_rfl) ?_
 rcases condE H with ⟨hc1, H⟩ | ⟨hc1, H⟩
 ·refine J.condT (x := .tmp 13) (t := (decide (x2_2 < 0))) (by kernel_rfl) (by kernel_rfl) hc1 ?_
  refine J.seq (by kernel_rfl) ?_
  refine J.region (by kernel_rfl) ?_
  refine O.pure 2 [] [4, 5] [] (fr' := [(4, .slice none 0 0), (5, .int .i64 4)]) (bx' := [⟨p0_0, [.slice p1_1.1 x1_1.f0.length p1_1.2], 24⟩]) (by kernel_rfl) ?_
  refine O.nil (by kernel_rfl) ?_
  obtain rfl := Option.some.inj H
  refine J.nilF (Kd.int .u8) ?_
  exact J.doneS [] [] [0] [] [] (none, 0) (vs := [.slice none 0 0, .int .i64 4]) (by kernel_rfl) (by kernel_rfl) (by kernel_rfl) (by kernel_rfl) (by kernel_rfl) (by decide)
 ·refine J.condF (x := .tmp 13) (t := (decide (x2_2 < 0))) (by kernel_rfl) (by kernel_rfl) hc1 ?_
  refine J.skip (by kernel_rfl) ?_
  refine J.seq (by kernel_rfl) ?_
  obtain ⟨x5_3, hx5_3, H⟩ := bindE H
  obtain ⟨hx5_3a, hx5_3⟩ := idxE hx5_3
  refine J.region (by kernel_rfl) ?_
  refine O.pure 3 [(0, 0)] [15, 16] [p0_0, 0] (fr' := [(15, .slice p1_1.1 x1_1.f0.length p1_1.2), (16, .int .i64 x2_2)]) (bx' := [⟨p0_0, [.slice p1_1.1 x1_1.f0.length p1_1.2], 24⟩]) (by kernel_rfl) ?_
  refine O.mono (fun w hS => hS.freezeH (h := p1_1) (xs := x1_1.f0)) ?_
  refine O.open (d := kd70) (h := p1_1) (i := x2_2) 0 rfl hx5_3 (op70 _) (fun p5_3 hp5_3A => ?_)
  refine O.q (v := .pointer (some ⟨p5_3.1, p5_3.2.1 + x2_2.toNat * 3, none⟩)) (some 17) (Qu.idx (t := 22) (x := .tmp 15) (y := .tmp 16) (c := p1_1.2) (kk := .i64) (sz := 3) (by kernel_rfl) (by kernel_rfl) (by kernel_rfl) (by kernel_rfl) hx5_3a (idx_lt hx5_3) hp5_3A) (by kernel_rfl) ?_
  refine O.pure 4 [(1, 1)] [4, 5] [p5_3.1, p5_3.2.1 + x2_2.toNat * 3 + 1] (fr' := [(4, .slice p5_3.2.2.1 x5_3.f1.length p5_3.2.2.2), (5, .int .i64 0)]) (bx' := [⟨p0_0, [.slice p1_1.1 x1_1.f0.length p1_1.2], 24⟩]) (by kernel_rfl) ?_
  refine O.nil (by kernel_rfl) ?_
  obtain rfl := Option.some.inj H
  exact J.doneS [] [] [0] [] [] p5_3.2.2 (vs := [.slice p5_3.2.2.1 x5_3.f1.length p5_3.2.2.2, .int .i64 0]) (by kernel_rfl) (by kernel_rfl) (by kernel_rfl) (by kernel_rfl) (by kernel_rfl) (by decide)
/-! ### haywain/code.get: function 58 -/
def code_get.l1 (K : Nat) (a0 : List Int) : Nat → (Int × Int) → Option Int
  | 0, _ => none
  | k + 1, s1 => cond (decide (s1.2 < (a0.length : Int))) ((idxO a0 s1.2).bind fun x4_0 => code_get.l1 K a0 k ((orI .u64 (shlI .u64 s1.1 8) (IntKind.wrap .u64 x4_0)), (IntKind.wrap .i64 (s1.2 + 1)))) (some (s1.1))
def code_get.f (K : Nat) (a0 : List Int) : Option Int := code_get.l1 K a0 K (0, 0)
set_option maxRecDepth 100000 in
set_option maxHeartbeats 1000000 in
theorem code_get.con (K : Nat) (a0 : List Int) (h0 : Hd) (r : Int) (X : Nat → Nat → Prop) (w : World) (hS : St X w [] [] [] [] [Rd (Kd.int .u8) h0.1 h0.2 a0] w) (H : code_get.f K a0 = some r) :
    Cn Try.prog 58 [.slice h0.1 a0.length h0.2] X w [] (fun i : Unit => .int .u64 r) (fun i => []) (fun i => []) (fun i => []) := by
 refine Cn.of Try.func58 (by kernel_rfl) hS ?_
 unfold code_get.f at H
 refine J.seq (by kernel_rfl) ?_
 refine J.region (by kernel_rfl) ?_
 refine O.pure 1 [] [0] [] (fr' := [(0, .slice h0.1 a0.length h0.2)]) (bx' := []) (by kernel_rfl) ?_
 refine O.nil (by kernel_rfl) ?_
 refine J.seq (by kernel_rfl) ?_
 refine J.region (by kernel_rfl) ?_
 refine O.pure 1 [] [0, 3] [] (fr' := [(0, .slice h0.1 a0.length h0.2), (3, .int .u64 0)]) (bx' := []) (by kernel_rfl) ?_
 refine O.nil (by kernel_rfl) ?_
 refine J.seq (by kernel_rfl) ?_
 refine J.seq (by kernel_rfl) ?_
 refine J.region (by kernel_rfl) ?_
 refine O.pure 3 [] [3, 6, 7, 8] [] (fr' := [(3, .int .u64 0), (6, .slice h0.1 a0.length h0.2), (7, .int .i64 (a0.length : Int)), (8, .int .i64 0)]) (bx' := []) (by kernel_rfl) ?_
 refine O.nil (by kernel_rfl) ?_
 refine J.block (id := 0) (by kernel_rfl) ?_
 refine J.loopI (σ := Int × Int) (γ := Unit) (f := fun m_ s_ => code_get.l1 K a0 m_ s_) (fun s1 g1 => [(3, .int .u64 s1.1), (6, .slice h0.1 a0.length h0.2), (7, .int .i64 (a0.length : Int)), (8, .int .i64 s1.2)]) (fun s1 g1 => St X w [] [] [] [] [Rd (Kd.int .u8) h0.1 h0.2 a0]) K (0, 0) () (by kernel_rfl) H (fun _ => rfl) (fun m_ s1 H ih1 g1 => ?_) (fun h_ => ?_)
 ·unfold code_get.l1 at H
  refine J.seq (by kernel_rfl) ?_
  refine J.region (by kernel_rfl) ?_
  refine O.pure 1 [] [3, 6, 7, 8, 9] [] (fr' := [(3, .int .u64 s1.1), (6, .slice h0.1 a0.length h0.2), (7, .int .i64 (a0.length : Int)), (8, .int .i64 s1.2), (9, .bool (decide (s1.2 < (a0.length : Int))))]) (bx' := []) (by kernel_rfl) ?_
  refine O.nil (by kernel_rfl) ?_
  refine J.seq (by kernel_rfl) ?_
  rcases condE H with ⟨hc4, H⟩ | ⟨hc4, H⟩
  ·refine J.condT (x := .tmp 9) (t := (decide (s1.2 < (a0.length : Int)))) (by kernel_rfl) (by kernel_rfl) hc4 ?_
   refine J.skip (by kernel_rfl) ?_
   refine J.seq (by kernel_rfl) ?_
   refine J.block (id := 1) (by kernel_rfl) ?_
   refine J.seq (by kernel_rfl) ?_
   obtain ⟨x4_0, hx4_0, H⟩ := bindE H
   obtain ⟨hx4_0a, hx4_0⟩ := idxE hx4_0
   refine J.region (by kernel_rfl) ?_
   refine O.open (d := (Kd.int .u8)) (h := h0) (i := s1.2) 0 rfl hx4_0 (Lay.int _ _) (fun p4_0 hp4_0A => ?_)
   refine O.q (v := .pointer (some ⟨p4_0.1, p4_0.2.1 + s1.2.toNat * 1, none⟩)) (some 10) (Qu.idx (t := 27) (x := .tmp 6) (y := .tmp 8) (c := h0.2) (kk := .i64) (sz := 1) (by kernel_rfl) (by kernel_rfl) (by kernel_rfl) (by kernel_rfl) hx4_0a (idx_lt hx4_0) hp4_0A) (by kernel_rfl) ?_
   refine O.pure 2 [(0, 0)] [3, 5, 6, 7, 8] [p4_0.1, p4_0.2.1 + s1.2.toNat * 1] (fr' := [(3, .int .u64 s1.1), (5, .int .u8 x4_0), (6, .slice h0.1 a0.length h0.2), (7, .int .i64 (a0.length : Int)), (8, .int .i64 s1.2)]) (bx' := []) (by kernel_rfl) ?_
   refine O.nil (by kernel_rfl) ?_
   refine J.region (by kernel_rfl) ?_
   refine O.pure 1 [] [3, 5, 6, 7, 8, 12] [] (fr' := [(3, .int .u64 s1.1), (5, .int .u8 x4_0), (6, .slice h0.1 a0.length h0.2), (7, .int .i64 (a0.length : Int)), (8, .int .i64 s1.2), (12, .int .u64 s1.1)]) (bx' := []) (by kernel_rfl) ?_
   refine O.q (v := .int .u64 (shlI .u64 s1.1 8)) (some 13) (Qu.shl (t := 105) (t' := 116) (x := .tmp 12) (y := .const (.int .u64 8)) (k := .u64) (k' := .u64) (a := s1.1) (b := 8) (by kernel_rfl) (by kernel_rfl) (by kernel_rfl) (by decide)) (by kernel_rfl) ?_
   refine O.pure 4 [] [3, 6, 7, 8] [] (fr' := [(3, .int .u64 (orI .u64 (shlI .u64 s1.1 8) (IntKind.wrap .u64 x4_0))), (6, .slice h0.1 a0.length h0.2), (7, .int .i64 (a0.length : Int)), (8, .int .i64 s1.2)]) (bx' := []) (by kernel_rfl) ?_
   refine O.nil (by kernel_rfl) ?_
   refine J.out ?_
   refine J.region (by kernel_rfl) ?_
   refine O.pure 2 [] [3, 6, 7, 8] [] (fr' := [(3, .int .u64 (orI .u64 (shlI .u64 s1.1 8) (IntKind.wrap .u64 x4_0))), (6, .slice h0.1 a0.length h0.2), (7, .int .i64 (a0.length : Int)), (8, .int .i64 (IntKind.wrap .i64 (s1.2 + 1)))]) (bx' := []) (by kernel_rfl) ?_
   refine O.nil (by kernel_rfl) ?_
   exact J.conv2 [3, 6, 7, 8] [0] [] [] (by kernel_rfl) (by kernel_rfl) (by kernel_rfl) (by kernel_rfl) (by decide) (ih1 ((orI .u64 (shlI .u64 s1.1 8) (IntKind.wrap .u64 x4_0)), (IntKind.wrap .i64 (s1.2 + 1))) () H)
  ·refine J.condF (x := .tmp 9) (t := (decide (s1.2 < (a0.length : Int)))) (by kernel_rfl) (by kernel_rfl) hc4 ?_
   refine J.exit (id := 0) (by kernel_rfl) rfl ?_
   refine J.seq (by kernel_rfl) ?_
   refine J.region (by kernel_rfl) ?_
   refine O.pure 2 [] [2] [] (fr' := [(2, .int .u64 s1.1)]) (bx' := []) (by kernel_rfl) ?_
   refine O.nil (by kernel_rfl) ?_
   obtain rfl := Option.some.inj H
   exact J.doneS [] [] [] [] [] () (vs := [.int .u64 s1.1]) (by kernel_rfl) (by kernel_rfl) (by kernel_rfl) (by kernel_rfl) (by kernel_rfl) (by decide)
 ·exact J.conv2 [3, 6, 7, 8] [0] [] [] (by kernel_rfl) (by kernel_rfl) (by kernel_rfl) (by kernel_rfl) (by decide) h_
/-! ### haywain/code.TakeFrame: function 32 -/
def code_TakeFrame.f (K : Nat) (a0 : List Int) : Option ((List Int) × (List Int) × Int) := cond (decide ((a0.length : Int) < 8)) (some ((([] : List Int), ([] : List Int), 2))) ((cutO a0 0 4).bind fun y3_1 => (code_get.f K (cutL a0 ((0 : Int).toNat) ((4 : Int).toNat))).bind fun x3_2 => cond (decide (x3_2 > 4000)) (some ((([] : List Int), ([] : List Int), 2))) (cond (decide (x3_2 > (IntKind.wrap .u64 (IntKind.wrap .i64 ((a0.length : Int) - 8))))) (some ((([] : List Int), ([] : List Int), 2))) ((cutO a0 8 (IntKind.wrap .u64 (8 + x3_2))).bind fun y6_3 => (code_rest.f K (cutL a0 ((8 : Int).toNat) (((IntKind.wrap .u64 (8 + x3_2)) : Int).toNat))).bind fun x6_4 => (cutO a0 0 4).bind fun y7_1 => (code_rest.f K (cutL a0 ((0 : Int).toNat) ((4 : Int).toNat))).bind fun x7_2 => (appO 1 x7_2 x6_4).bind fun y7_4 => (code_Sum.f K (x7_2 ++ x6_4)).bind fun x7_5 => (cutO a0 4 8).bind fun y7_7 => (code_get.f K (cutL a0 ((4 : Int).toNat) ((8 : Int).toNat))).bind fun x7_8 => cond (x7_5 != (IntKind.wrap .u32 x7_8)) (some ((([] : List Int), ([] : List Int), 7))) ((cutO a0 (IntKind.wrap .u64 (8 + x3_2)) (a0.length : Int)).bind fun y9_4 => (code_rest.f K (cutL a0 (((IntKind.wrap .u64 (8 + x3_2)) : Int).toNat) (((a0.length : Int) : Int).toNat))).bind fun x9_5 => some ((x6_4, x9_5, 0))))))
set_option maxRecDepth 100000 in
set_option maxHeartbeats 1000000 in
theorem code_TakeFrame.con (K : Nat) (a0 : List Int) (h0 : Hd) (r : ((List Int) × (List Int) × Int)) (X : Nat → Nat → Prop) (w : World) (hS : St X w [] [] [] [] [Rd (Kd.int .u8) h0.1 h0.2 a0] w) (H : code_TakeFrame.f K a0 = some r) :
    Cn Try.prog 32 [.slice h0.1 a0.length h0.2] X w [] (fun i : Hd × Hd => .tuple #[.slice i.1.1 r.1.length i.1.2, .slice i.2.1 r.2.1.length i.2.2, .int .i64 r.2.2]) (fun i => []) (fun i => [mkRow (Kd.int .u8) 5 (.slice i.2.1 r.2.1.length i.2.2) r.2.1]) (fun i => [Rd (Kd.int .u8) i.1.1 i.1.2 r.1]) := by
 refine Cn.of Try.func32 (by kernel_rfl) hS ?_
 unfold code_TakeFrame.f at H
 refine J.seq (by kernel_rfl) ?_
 refine J.region (by kernel_rfl) ?_
 refine O.pure 3 [] [0] [] (fr' := [(0, .slice h0.1 a0.length h0.2)]) (bx' := []) (by kernel_rfl) ?_
 refine O.nil (by kernel_rfl) ?_
 refine J.seq (by kernel_rfl) ?_
 refine J.seq (by kernel_rfl) ?_
 refine J.region (by kernel_rfl) ?_
 refine O.pure 3 [] [0, 9] [] (fr' := [(0, .slice h0.1 a0.length h0.2), (9, .bool (decide ((a0.length : Int) < 8)))]) (bx' := []) (by kernel_rfl) ?_
 refine O.nil (by kernel_rfl) ?_
 rcases condE H with ⟨hc1, H⟩ | ⟨hc1, H⟩
 ·refine J.condT (x := .tmp 9) (t := (decide ((a0.length : Int) < 8))) (by kernel_rfl) (by kernel_rfl) hc1 ?_
  refine J.seq (by kernel_rfl) ?_
  refine J.region (by kernel_rfl) ?_
  refine O.pure 3 [] [2, 3, 4] [] (fr' := [(2, .slice none 0 0), (3, .slice none 0 0), (4, .int .i64 2)]) (bx' := []) (by kernel_rfl) ?_
  refine O.nil (by kernel_rfl) ?_
  obtain rfl := Option.some.inj H
  refine J.nilF (Kd.int .u8) ?_
  refine J.nilrow (Kd.int .u8) 5 ?_
  exact J.doneS [] [] [0] [] [0] ((none, 0), (none, 0)) (vs := [.slice none 0 0, .slice none 0 0, .int .i64 2]) (by kernel_rfl) (by kernel_rfl) (by kernel_rfl) (by kernel_rfl) (by kernel_rfl) (by decide)
 ·refine J.condF (x := .tmp 9) (t := (decide ((a0.length : Int) < 8))) (by kernel_rfl) (by kernel_rfl) hc1 ?_
  refine J.skip (by kernel_rfl) ?_
  refine J.seq (by kernel_rfl) ?_
  obtain ⟨y3_1, hy3_1, H⟩ := bindE H
  obtain ⟨hy3_1a, hy3_1b, hy3_1c, -⟩ := cutE hy3_1
  obtain ⟨x3_2, hx3_2, H⟩ := bindE H
  refine J.region (by kernel_rfl) ?_
  refine O.pure 1 [] [0, 10] [] (fr' := [(0, .slice h0.1 a0.length h0.2), (10, .slice h0.1 a0.length h0.2)]) (bx' := []) (by kernel_rfl) ?_
  refine O.e (some 11) (Ev.cut (d := (Kd.int .u8)) (xs := a0) (t := 27) (x := .tmp 10) (lo := none) (hi := (some (.const (.int .i64 4)))) (vlo := none) (vhi := (some (.int .i64 4))) (A := h0.1) (c := h0.2) (l := (0 : Int).toNat) (h := (4 : Int).toNat) 0 (by kernel_rfl) (by kernel_rfl) (by kernel_rfl) (by kernel_rfl) (by kernel_rfl) (Bd.dflt _) (Bd.val _ _ _ (by omega)) (by omega) (by omega) rfl) (by kernel_rfl) (fun p3_1 => ?_)
  refine O.e (some 12) (Ev.call0 (xs := [.tmp 11]) [0] (by kernel_rfl) (by kernel_rfl) (fun w hS => code_get.con K (cutL a0 ((0 : Int).toNat) ((4 : Int).toNat)) p3_1  _ _ w hS hx3_2)) (by kernel_rfl) (fun _ => ?_)
  refine O.pure 1 [] [0, 5] [] (fr' := [(0, .slice h0.1 a0.length h0.2), (5, .int .u64 x3_2)]) (bx' := []) (by kernel_rfl) ?_
  refine O.nil (by kernel_rfl) ?_
  refine J.seq (by kernel_rfl) ?_
  refine J.seq (by kernel_rfl) ?_
  rcases condE H with ⟨hc2, H⟩ | ⟨hc2, H⟩
  ·refine J.region (by kernel_rfl) ?_
   refine O.pure 1 [] [0, 5, 13] [] (fr' := [(0, .slice h0.1 a0.length h0.2), (5, .int .u64 x3_2), (13, .int .u64 x3_2)]) (bx' := []) (by kernel_rfl) ?_
   refine O.q (v := .bool true) (some 14) (Qu.eqv (u := .bool (decide (x3_2 > 4000))) (v := .bool true) (0, 0) [] (by kernel_rfl) (congrArg Value.bool hc2)) (by kernel_rfl) ?_
   refine O.pure 8 [] [0, 5, 22] [] (fr' := [(0, .slice h0.1 a0.length h0.2), (5, .int .u64 x3_2), (22, .bool true)]) (bx' := []) (by kernel_rfl) ?_
   refine O.nil (by kernel_rfl) ?_
   refine J.cond (o := .tmp 22) true (by kernel_rfl) (by kernel_rfl) ?_
   refine J.seq (by kernel_rfl) ?_
   refine J.region (by kernel_rfl) ?_
   refine O.pure 3 [] [2, 3, 4] [] (fr' := [(2, .slice none 0 0), (3, .slice none 0 0), (4, .int .i64 2)]) (bx' := []) (by kernel_rfl) ?_
   refine O.nil (by kernel_rfl) ?_
   obtain rfl := Option.some.inj H
   refine J.nilF (Kd.int .u8) ?_
   refine J.nilrow (Kd.int .u8) 5 ?_
   exact J.doneS [] [] [0] [] [0] ((none, 0), (none, 0)) (vs := [.slice none 0 0, .slice none 0 0, .int .i64 2]) (by kernel_rfl) (by kernel_rfl) (by kernel_rfl) (by kernel_rfl) (by kernel_rfl) (by decide)
  ·refine J.region (by kernel_rfl) ?_
   refine O.pure 1 [] [0, 5, 13] [] (fr' := [(0, .slice h0.1 a0.length h0.2), (5, .int .u64 x3_2), (13, .int .u64 x3_2)]) (bx' := []) (by kernel_rfl) ?_
   refine O.q (v := .bool false) (some 14) (Qu.eqv (u := .bool (decide (x3_2 > 4000))) (v := .bool false) (0, 0) [] (by kernel_rfl) (congrArg Value.bool hc2)) (by kernel_rfl) ?_
   refine O.pure 8 [] [0, 5, 22] [] (fr' := [(0, .slice h0.1 a0.length h0.2), (5, .int .u64 x3_2), (22, .bool (decide (x3_2 > (IntKind.wrap .u64 (IntKind.wrap .i64 ((a0.length : Int) - 8))))))]) (bx' := []) (by kernel_rfl) ?_
   refine O.nil (by kernel_rfl) ?_
   rcases condE H with ⟨hc3, H⟩ | ⟨hc3, H⟩
   ·refine J.condT (x := .tmp 22) (t := (decide (x3_2 > (IntKind.wrap .u64 (IntKind.wrap .i64 ((a0.length : Int) - 8)))))) (by kernel_rfl) (by kernel_rfl) hc3 ?_
    refine J.seq (by kernel_rfl) ?_
    refine J.region (by kernel_rfl) ?_
    refine O.pure 3 [] [2, 3, 4] [] (fr' := [(2, .slice none 0 0), (3, .slice none 0 0), (4, .int .i64 2)]) (bx' := []) (by kernel_rfl) ?_
    refine O.nil (by kernel_rfl) ?_
    obtain rfl := Option.some.inj H
    refine J.nilF (Kd.int .u8) ?_
    refine J.nilrow (Kd.int .u8) 5 ?_
    exact J.doneS [] [] [0] [] [0] ((none, 0), (none, 0)) (vs := [.slice none 0 0, .slice none 0 0, .int .i64 2]) (by kernel_rfl) (by kernel_rfl) (by kernel_rfl) (by kernel_rfl) (by kernel_rfl) (by decide)
   ·refine J.condF (x := .tmp 22) (t := (decide (x3_2 > (IntKind.wrap .u64 (IntKind.wrap .i64 ((a0.length : Int) - 8)))))) (by kernel_rfl) (by kernel_rfl) hc3 ?_
    refine J.skip (by kernel_rfl) ?_
    refine J.seq (by kernel_rfl) ?_
    obtain ⟨y6_3, hy6_3, H⟩ := bindE H
    obtain ⟨hy6_3a, hy6_3b, hy6_3c, -⟩ := cutE hy6_3
    obtain ⟨x6_4, hx6_4, H⟩ := bindE H
    refine J.region (by kernel_rfl) ?_
    refine O.pure 3 [] [0, 5, 23, 25] [] (fr' := [(0, .slice h0.1 a0.length h0.2), (5, .int .u64 x3_2), (23, .slice h0.1 a0.length h0.2), (25, .int .u64 (IntKind.wrap .u64 (8 + x3_2)))]) (bx' := []) (by kernel_rfl) ?_
    refine O.e (some 26) (Ev.cut (d := (Kd.int .u8)) (xs := a0) (t := 27) (x := .tmp 23) (lo := (some (.const (.int .i64 8)))) (hi := (some (.tmp 25))) (vlo := (some (.int .i64 8))) (vhi := (some (.int .u64 (IntKind.wrap .u64 (8 + x3_2))))) (A := h0.1) (c := h0.2) (l := (8 : Int).toNat) (h := ((IntKind.wrap .u64 (8 + x3_2)) : Int).toNat) 1 (by kernel_rfl) (by kernel_rfl) (by kernel_rfl) (by kernel_rfl) (by kernel_rfl) (Bd.val _ _ _ (by omega)) (Bd.val _ _ _ (by omega)) (by omega) (by omega) rfl) (by kernel_rfl) (fun p6_3 => ?_)
    refine O.e (some 27) (Ev.call0 (xs := [.tmp 26]) [0] (by kernel_rfl) (by kernel_rfl) (fun w hS => code_rest.con K (cutL a0 ((8 : Int).toNat) (((IntKind.wrap .u64 (8 + x3_2)) : Int).toNat)) p6_3  _ _ w hS hx6_4)) (by kernel_rfl) (fun p6_4 => ?_)
    refine O.pure 1 [] [0, 5, 6] [] (fr' := [(0, .slice h0.1 a0.length h0.2), (5, .int .u64 x3_2), (6, .slice p6_4.1 x6_4.length p6_4.2)]) (bx' := []) (by kernel_rfl) ?_
    refine O.nil (by kernel_rfl) ?_
    refine J.seq (by kernel_rfl) ?_
    refine J.seq (by kernel_rfl) ?_
    obtain ⟨y7_1, hy7_1, H⟩ := bindE H
    obtain ⟨hy7_1a, hy7_1b, hy7_1c, -⟩ := cutE hy7_1
    obtain ⟨x7_2, hx7_2, H⟩ := bindE H
    obtain ⟨y7_4, hy7_4, H⟩ := bindE H
    have hy7_4a := (appE hy7_4).1
    obtain ⟨x7_5, hx7_5, H⟩ := bindE H
    obtain ⟨y7_7, hy7_7, H⟩ := bindE H
    obtain ⟨hy7_7a, hy7_7b, hy7_7c, -⟩ := cutE hy7_7
    obtain ⟨x7_8, hx7_8, H⟩ := bindE H
    refine J.cutAt (γ := Hd × Hd × Hd × Hd) (fun q_ => [(0, .slice h0.1 a0.length h0.2), (5, .int .u64 x3_2), (6, .slice p6_4.1 x6_4.length p6_4.2), (38, .bool (x7_5 != (IntKind.wrap .u32 x7_8)))]) (fun q_ => St X w [] [] [mkRow (Kd.int .u8) 5 (.slice q_.2.2.1.1 (x7_2 ++ x6_4).length q_.2.2.1.2) (x7_2 ++ x6_4)] [] [Rd (Kd.int .u8) q_.2.2.2.1 q_.2.2.2.2 (cutL a0 ((4 : Int).toNat) ((8 : Int).toNat)), Rd (Kd.int .u8) p6_4.1 p6_4.2 x6_4, Rd (Kd.int .u8) q_.1.1 q_.1.2 (cutL a0 ((0 : Int).toNat) ((4 : Int).toNat)), Rd (Kd.int .u8) p6_3.1 p6_3.2 (cutL a0 ((8 : Int).toNat) (((IntKind.wrap .u64 (8 + x3_2)) : Int).toNat)), Rd (Kd.int .u8) p3_1.1 p3_1.2 (cutL a0 ((0 : Int).toNat) ((4 : Int).toNat)), Rd (Kd.int .u8) h0.1 h0.2 a0]) (fun q_ => ?_) (fun hk_ => ?_)
    ·obtain ⟨p7_1, p7_2, p7_4, p7_7⟩ := q_
     rcases condE H with ⟨hc4, H⟩ | ⟨hc4, H⟩
     ·refine J.condT (x := .tmp 38) (t := (x7_5 != (IntKind.wrap .u32 x7_8))) (by kernel_rfl) (by kernel_rfl) hc4 ?_
      refine J.seq (by kernel_rfl) ?_
      refine J.region (by kernel_rfl) ?_
      refine O.pure 3 [] [2, 3, 4] [] (fr' := [(2, .slice none 0 0), (3, .slice none 0 0), (4, .int .i64 7)]) (bx' := []) (by kernel_rfl) ?_
      refine O.nil (by kernel_rfl) ?_
      obtain rfl := Option.some.inj H
      refine J.nilF (Kd.int .u8) ?_
      refine J.nilrow (Kd.int .u8) 5 ?_
      exact J.doneS [] [] [0] [] [0] ((none, 0), (none, 0)) (vs := [.slice none 0 0, .slice none 0 0, .int .i64 7]) (by kernel_rfl) (by kernel_rfl) (by kernel_rfl) (by kernel_rfl) (by kernel_rfl) (by decide)
     ·refine J.condF (x := .tmp 38) (t := (x7_5 != (IntKind.wrap .u32 x7_8))) (by kernel_rfl) (by kernel_rfl) hc4 ?_
      refine J.skip (by kernel_rfl) ?_
      refine J.seq (by kernel_rfl) ?_
      obtain ⟨y9_4, hy9_4, H⟩ := bindE H
      obtain ⟨hy9_4a, hy9_4b, hy9_4c, -⟩ := cutE hy9_4
      obtain ⟨x9_5, hx9_5, H⟩ := bindE H
      refine J.region (by kernel_rfl) ?_
      refine O.pure 4 [] [39, 40, 42] [] (fr' := [(39, .slice p6_4.1 x6_4.length p6_4.2), (40, .slice h0.1 a0.length h0.2), (42, .int .u64 (IntKind.wrap .u64 (8 + x3_2)))]) (bx' := []) (by kernel_rfl) ?_
      refine O.e (some 43) (Ev.cut (d := (Kd.int .u8)) (xs := a0) (t := 27) (x := .tmp 40) (lo := (some (.tmp 42))) (hi := none) (vlo := (some (.int .u64 (IntKind.wrap .u64 (8 + x3_2))))) (vhi := none) (A := h0.1) (c := h0.2) (l := ((IntKind.wrap .u64 (8 + x3_2)) : Int).toNat) (h := ((a0.length : Int) : Int).toNat) 5 (by kernel_rfl) (by kernel_rfl) (by kernel_rfl) (by kernel_rfl) (by kernel_rfl) (Bd.val _ _ _ (by omega)) (Bd.dflt _) (by omega) (by omega) rfl) (by kernel_rfl) (fun p9_4 => ?_)
      refine O.e (some 44) (Ev.call0 (xs := [.tmp 43]) [0] (by kernel_rfl) (by kernel_rfl) (fun w hS => code_rest.con K (cutL a0 (((IntKind.wrap .u64 (8 + x3_2)) : Int).toNat) (((a0.length : Int) : Int).toNat)) p9_4  _ _ w hS hx9_5)) (by kernel_rfl) (fun p9_5 => ?_)
      refine O.pure 3 [] [2, 3, 4] [] (fr' := [(2, .slice p6_4.1 x6_4.length p6_4.2), (3, .slice p9_5.1 x9_5.length p9_5.2), (4, .int .i64 0)]) (bx' := []) (by kernel_rfl) ?_
      refine O.nil (by kernel_rfl) ?_
      obtain rfl := Option.some.inj H
      exact J.doneS [] [] [2] [] [0] (p6_4, p9_5) (vs := [.slice p6_4.1 x6_4.length p6_4.2, .slice p9_5.1 x9_5.length p9_5.2, .int .i64 0]) (by kernel_rfl) (by kernel_rfl) (by kernel_rfl) (by kernel_rfl) (by kernel_rfl) (by decide)
    ·refine J.drawS (by kernel_rfl) [(0, some 28, .slice h0.1 a0.length h0.2), (3, some 31, .slice p6_4.1 x6_4.length p6_4.2), (6, some 34, .slice h0.1 a0.length h0.2)] ([0, 3, 6] ++ []) (by kernel_rfl) ?_
     refine D.mid (cs := [1, 7]) [0, 3, 6] [] [] [] (by kernel_rfl) (by kernel_rfl) trivial (by kernel_rfl) ⟨?_, ?_, trivial⟩
     ·refine EvStep.mk (some 29) (new := fun p7_1 => []) ([3, 6] ++ []) (by kernel_rfl) (Ev.cut (d := (Kd.int .u8)) (xs := a0) (t := 27) (x := .tmp 28) (lo := none) (hi := (some (.const (.int .i64 4)))) (vlo := none) (vhi := (some (.int .i64 4))) (A := h0.1) (c := h0.2) (l := (0 : Int).toNat) (h := (4 : Int).toNat) 2 (by kernel_rfl) (by kernel_rfl) (by kernel_rfl) (by kernel_rfl) (by kernel_rfl) (Bd.dflt _) (Bd.val _ _ _ (by omega)) (by omega) (by omega) rfl) (fun p7_1 => by kernel_rfl) (fun p7_1 => ?_)
      refine D.mid (cs := [2, 7]) [3, 6] [] [] [] (by kernel_rfl) (by kernel_rfl) trivial (by kernel_rfl) ⟨?_, ?_, trivial⟩
      ·refine EvStep.mk (some 30) (new := fun p7_2 => []) ([3, 6] ++ []) (by kernel_rfl) (Ev.call0 (xs := [.tmp 29]) [0] (by kernel_rfl) (by kernel_rfl) (fun w hS => code_rest.con K (cutL a0 ((0 : Int).toNat) ((4 : Int).toNat)) p7_1  _ _ w hS hx7_2)) (fun p7_2 => by kernel_rfl) (fun p7_2 => ?_)
       refine D.mid (cs := [4, 7]) [3, 6] [] [] [] (by kernel_rfl) (by kernel_rfl) trivial (by kernel_rfl) ⟨?_, ?_, trivial⟩
       ·refine EvStep.mk (some 32) (new := fun p7_4 => []) ([6] ++ []) (by kernel_rfl) (Ev.mono (fun w hS => hS.rowsel [1, 0] rfl (by decide)) (Ev.mono (fun w hS => hS.freezeH (h := p6_4) (xs := x6_4)) (Ev.appSl (d := (Kd.int .u8)) (ys := x6_4) (A := p6_4.1) (c := p6_4.2) (x := .tmp 30) (y := .tmp 31) (t := 27) (bytes := 1) 0 (by kernel_rfl) (by kernel_rfl) (by kernel_rfl) rfl (by kernel_rfl) (by decide) hy7_4a))) (fun p7_4 => by kernel_rfl) (fun p7_4 => ?_)
        refine D.mid (cs := [5, 7]) [6] [] [] [] (by kernel_rfl) (by kernel_rfl) trivial (by kernel_rfl) ⟨?_, ?_, trivial⟩
        ·refine EvStep.mk (some 33) (new := fun _ => []) ([6] ++ []) (by kernel_rfl) (Ev.callLb (xs1 := [.tmp 32]) [0] (fun w hS => (hS.rowsel [0] rfl (by decide)).freezeL (hh := p7_4) (m := (x7_2 ++ x6_4).length) (xs := (x7_2 ++ x6_4)) rfl) (by kernel_rfl) (by kernel_rfl) (fun _ q hq => by cases hq) (fun w hS => code_Sum.con K (x7_2 ++ x6_4) p7_4  _ _ w hS hx7_5)) (fun _ => by kernel_rfl) (fun _ => ?_)
         refine D.mid (cs := [7]) [6] [] [] [] (by kernel_rfl) (by kernel_rfl) trivial (by kernel_rfl) ⟨?_, trivial⟩
         refine EvStep.mk (some 35) (new := fun p7_7 => []) ([] ++ []) (by kernel_rfl) (Ev.cut (d := (Kd.int .u8)) (xs := a0) (t := 27) (x := .tmp 34) (lo := (some (.const (.int .i64 4)))) (hi := (some (.const (.int .i64 8)))) (vlo := (some (.int .i64 4))) (vhi := (some (.int .i64 8))) (A := h0.1) (c := h0.2) (l := (4 : Int).toNat) (h := (8 : Int).toNat) 4 (by kernel_rfl) (by kernel_rfl) (by kernel_rfl) (by kernel_rfl) (by kernel_rfl) (Bd.val _ _ _ (by omega)) (Bd.val _ _ _ (by omega)) (by omega) (by omega) rfl) (fun p7_7 => by kernel_rfl) (fun p7_7 => ?_)
         refine D.mid (cs := [8]) [] [] [] [] (by kernel_rfl) (by kernel_rfl) trivial (by kernel_rfl) ⟨?_, trivial⟩
         refine EvStep.mk (some 36) (new := fun _ => [(9, some 37, .int .u32 (IntKind.wrap .u32 x7_8)), (10, some 38, .bool (x7_5 != (IntKind.wrap .u32 x7_8)))]) ([9, 10] ++ []) (by kernel_rfl) (Ev.call0 (xs := [.tmp 35]) [0] (by kernel_rfl) (by kernel_rfl) (fun w hS => code_get.con K (cutL a0 ((4 : Int).toNat) ((8 : Int).toNat)) p7_7  _ _ w hS hx7_8)) (fun _ => by kernel_rfl) (fun _ => ?_)
         refine D.fin (fr' := [(0, .slice h0.1 a0.length h0.2), (5, .int .u64 x3_2), (6, .slice p6_4.1 x6_4.length p6_4.2), (38, .bool (x7_5 != (IntKind.wrap .u32 x7_8)))]) [9, 10] [] [] [] [0, 5, 6, 38] (by kernel_rfl) (by kernel_rfl) trivial (by kernel_rfl) ?_
         exact J.conv2 [0, 5, 6, 38] [0, 1, 2, 3, 4, 5] [] [0] (by kernel_rfl) (by kernel_rfl) (by kernel_rfl) (by kernel_rfl) (by decide) (hk_ (p7_1, p7_2, p7_4, p7_7))
        ·refine EvStep.mk (some 35) (new := fun p7_7 => []) ([] ++ []) (by kernel_rfl) (Ev.cut (d := (Kd.int .u8)) (xs := a0) (t := 27) (x := .tmp 34) (lo := (some (.const (.int .i64 4)))) (hi := (some (.const (.int .i64 8)))) (vlo := (some (.int .i64 4))) (vhi := (some (.int .i64 8))) (A := h0.1) (c := h0.2) (l := (4 : Int).toNat) (h := (8 : Int).toNat) 4 (by kernel_rfl) (by kernel_rfl) (by kernel_rfl) (by kernel_rfl) (by kernel_rfl) (Bd.val _ _ _ (by omega)) (Bd.val _ _ _ (by omega)) (by omega) (by omega) rfl) (fun p7_7 => by kernel_rfl) (fun p7_7 => ?_)
         refine D.mid (cs := [5]) [] [] [] [] (by kernel_rfl) (by kernel_rfl) trivial (by kernel_rfl) ⟨?_, trivial⟩
         refine EvStep.mk (some 33) (new := fun _ => []) ([] ++ []) (by kernel_rfl) (Ev.callLb (xs1 := [.tmp 32]) [0] (fun w hS => (hS.rowsel [0] rfl (by decide)).freezeL (hh := p7_4) (m := (x7_2 ++ x6_4).length) (xs := (x7_2 ++ x6_4)) rfl) (by kernel_rfl) (by kernel_rfl) (fun _ q hq => by cases hq) (fun w hS => code_Sum.con K (x7_2 ++ x6_4) p7_4  _ _ w hS hx7_5)) (fun _ => by kernel_rfl) (fun _ => ?_)
         refine D.mid (cs := [8]) [] [] [] [] (by kernel_rfl) (by kernel_rfl) trivial (by kernel_rfl) ⟨?_, trivial⟩
         refine EvStep.mk (some 36) (new := fun _ => [(9, some 37, .int .u32 (IntKind.wrap .u32 x7_8)), (10, some 38, .bool (x7_5 != (IntKind.wrap .u32 x7_8)))]) ([9, 10] ++ []) (by kernel_rfl) (Ev.call0 (xs := [.tmp 35]) [0] (by kernel_rfl) (by kernel_rfl) (fun w hS => code_get.con K (cutL a0 ((4 : Int).toNat) ((8 : Int).toNat)) p7_7  _ _ w hS hx7_8)) (fun _ => by kernel_rfl) (fun _ => ?_)
         refine D.fin (fr' := [(0, .slice h0.1 a0.length h0.2), (5, .int .u64 x3_2), (6, .slice p6_4.1 x6_4.length p6_4.2), (38, .bool (x7_5 != (IntKind.wrap .u32 x7_8)))]) [9, 10] [] [] [] [0, 5, 6, 38] (by kernel_rfl) (by kernel_rfl) trivial (by kernel_rfl) ?_
         exact J.conv2 [0, 5, 6, 38] [0, 1, 2, 3, 4, 5] [] [0] (by kernel_rfl) (by kernel_rfl) (by kernel_rfl) (by kernel_rfl) (by decide) (hk_ (p7_1, p7_2, p7_4, p7_7))
       ·refine EvStep.mk (some 35) (new := fun p7_7 => []) ([3] ++ []) (by kernel_rfl) (Ev.cut (d := (Kd.int .u8)) (xs := a0) (t := 27) (x := .tmp 34) (lo := (some (.const (.int .i64 4)))) (hi := (some (.const (.int .i64 8)))) (vlo := (some (.int .i64 4))) (vhi := (some (.int .i64 8))) (A := h0.1) (c := h0.2) (l := (4 : Int).toNat) (h := (8 : Int).toNat) 3 (by kernel_rfl) (by kernel_rfl) (by kernel_rfl) (by kernel_rfl) (by kernel_rfl) (Bd.val _ _ _ (by omega)) (Bd.val _ _ _ (by omega)) (by omega) (by omega) rfl) (fun p7_7 => by kernel_rfl) (fun p7_7 => ?_)
        refine D.mid (cs := [4]) [3] [] [] [] (by kernel_rfl) (by kernel_rfl) trivial (by kernel_rfl) ⟨?_, trivial⟩
        refine EvStep.mk (some 32) (new := fun p7_4 => []) ([] ++ []) (by kernel_rfl) (Ev.mono (fun w hS => hS.rowsel [1, 0] rfl (by decide)) (Ev.mono (fun w hS => hS.freezeH (h := p6_4) (xs := x6_4)) (Ev.appSl (d := (Kd.int .u8)) (ys := x6_4) (A := p6_4.1) (c := p6_4.2) (x := .tmp 30) (y := .tmp 31) (t := 27) (bytes := 1) 0 (by kernel_rfl) (by kernel_rfl) (by kernel_rfl) rfl (by kernel_rfl) (by decide) hy7_4a))) (fun p7_4 => by kernel_rfl) (fun p7_4 => ?_)
        refine D.mid (cs := [5]) [] [] [] [] (by kernel_rfl) (by kernel_rfl) trivial (by kernel_rfl) ⟨?_, trivial⟩
        refine EvStep.mk (some 33) (new := fun _ => []) ([] ++ []) (by kernel_rfl) (Ev.callLb (xs1 := [.tmp 32]) [0] (fun w hS => (hS.rowsel [0] rfl (by decide)).freezeL (hh := p7_4) (m := (x7_2 ++ x6_4).length) (xs := (x7_2 ++ x6_4)) rfl) (by kernel_rfl) (by kernel_rfl) (fun _ q hq => by cases hq) (fun w hS => code_Sum.con K (x7_2 ++ x6_4) p7_4  _ _ w hS hx7_5)) (fun _ => by kernel_rfl) (fun _ => ?_)
        refine D.mid (cs := [8]) [] [] [] [] (by kernel_rfl) (by kernel_rfl) trivial (by kernel_rfl) ⟨?_, trivial⟩
        refine EvStep.mk (some 36) (new := fun _ => [(9, some 37, .int .u32 (IntKind.wrap .u32 x7_8)), (10, some 38, .bool (x7_5 != (IntKind.wrap .u32 x7_8)))]) ([9, 10] ++ []) (by kernel_rfl) (Ev.call0 (xs := [.tmp 35]) [1] (by kernel_rfl) (by kernel_rfl) (fun w hS => code_get.con K (cutL a0 ((4 : Int).toNat) ((8 : Int).toNat)) p7_7  _ _ w hS hx7_8)) (fun _ => by kernel_rfl) (fun _ => ?_)
        refine D.fin (fr' := [(0, .slice h0.1 a0.length h0.2), (5, .int .u64 x3_2), (6, .slice p6_4.1 x6_4.length p6_4.2), (38, .bool (x7_5 != (IntKind.wrap .u32 x7_8)))]) [9, 10] [] [] [] [0, 5, 6, 38] (by kernel_rfl) (by kernel_rfl) trivial (by kernel_rfl) ?_
        exact J.conv2 [0, 5, 6, 38] [1, 0, 2, 3, 4, 5] [] [0] (by kernel_rfl) (by kernel_rfl) (by kernel_rfl) (by kernel_rfl) (by decide) (hk_ (p7_1, p7_2, p7_4, p7_7))
      ·refine EvStep.mk (some 35) (new := fun p7_7 => []) ([3] ++ []) (by kernel_rfl) (Ev.cut (d := (Kd.int .u8)) (xs := a0) (t := 27) (x := .tmp 34) (lo := (some (.const (.int .i64 4)))) (hi := (some (.const (.int .i64 8)))) (vlo := (some (.int .i64 4))) (vhi := (some (.int .i64 8))) (A := h0.1) (c := h0.2) (l := (4 : Int).toNat) (h := (8 : Int).toNat) 3 (by kernel_rfl) (by kernel_rfl) (by kernel_rfl) (by kernel_rfl) (by kernel_rfl) (Bd.val _ _ _ (by omega)) (Bd.val _ _ _ (by omega)) (by omega) (by omega) rfl) (fun p7_7 => by kernel_rfl) (fun p7_7 => ?_)
       refine D.mid (cs := [2]) [3] [] [] [] (by kernel_rfl) (by kernel_rfl) trivial (by kernel_rfl) ⟨?_, trivial⟩
       refine EvStep.mk (some 30) (new := fun p7_2 => []) ([3] ++ []) (by kernel_rfl) (Ev.call0 (xs := [.tmp 29]) [1] (by kernel_rfl) (by kernel_rfl) (fun w hS => code_rest.con K (cutL a0 ((0 : Int).toNat) ((4 : Int).toNat)) p7_1  _ _ w hS hx7_2)) (fun p7_2 => by kernel_rfl) (fun p7_2 => ?_)
       refine D.mid (cs := [4]) [3] [] [] [] (by kernel_rfl) (by kernel_rfl) trivial (by kernel_rfl) ⟨?_, trivial⟩
       refine EvStep.mk (some 32) (new := fun p7_4 => []) ([] ++ []) (by kernel_rfl) (Ev.mono (fun w hS => hS.rowsel [1, 0] rfl (by decide)) (Ev.mono (fun w hS => hS.freezeH (h := p6_4) (xs := x6_4)) (Ev.appSl (d := (Kd.int .u8)) (ys := x6_4) (A := p6_4.1) (c := p6_4.2) (x := .tmp 30) (y := .tmp 31) (t := 27) (bytes := 1) 0 (by kernel_rfl) (by kernel_rfl) (by kernel_rfl) rfl (by kernel_rfl) (by decide) hy7_4a))) (fun p7_4 => by kernel_rfl) (fun p7_4 => ?_)
       refine D.mid (cs := [5]) [] [] [] [] (by kernel_rfl) (by kernel_rfl) trivial (by kernel_rfl) ⟨?_, trivial⟩
       refine EvStep.mk (some 33) (new := fun _ => []) ([] ++ []) (by kernel_rfl) (Ev.callLb (xs1 := [.tmp 32]) [0] (fun w hS => (hS.rowsel [0] rfl (by decide)).freezeL (hh := p7_4) (m := (x7_2 ++ x6_4).length) (xs := (x7_2 ++ x6_4)) rfl) (by kernel_rfl) (by kernel_rfl) (fun _ q hq => by cases hq) (fun w hS => code_Sum.con K (x7_2 ++ x6_4) p7_4  _ _ w hS hx7_5)) (fun _ => by kernel_rfl) (fun _ => ?_)
       refine D.mid (cs := [8]) [] [] [] [] (by kernel_rfl) (by kernel_rfl) trivial (by kernel_rfl) ⟨?_, trivial⟩
       refine EvStep.mk (some 36) (new := fun _ => [(9, some 37, .int .u32 (IntKind.wrap .u32 x7_8)), (10, some 38, .bool (x7_5 != (IntKind.wrap .u32 x7_8)))]) ([9, 10] ++ []) (by kernel_rfl) (Ev.call0 (xs := [.tmp 35]) [1] (by kernel_rfl) (by kernel_rfl) (fun w hS => code_get.con K (cutL a0 ((4 : Int).toNat) ((8 : Int).toNat)) p7_7  _ _ w hS hx7_8)) (fun _ => by kernel_rfl) (fun _ => ?_)
       refine D.fin (fr' := [(0, .slice h0.1 a0.length h0.2), (5, .int .u64 x3_2), (6, .slice p6_4.1 x6_4.length p6_4.2), (38, .bool (x7_5 != (IntKind.wrap .u32 x7_8)))]) [9, 10] [] [] [] [0, 5, 6, 38] (by kernel_rfl) (by kernel_rfl) trivial (by kernel_rfl) ?_
       exact J.conv2 [0, 5, 6, 38] [1, 0, 2, 3, 4, 5] [] [0] (by kernel_rfl) (by kernel_rfl) (by kernel_rfl) (by kernel_rfl) (by decide) (hk_ (p7_1, p7_2, p7_4, p7_7))
     ·refine EvStep.mk (some 35) (new := fun p7_7 => []) ([0, 3] ++ []) (by kernel_rfl) (Ev.cut (d := (Kd.int .u8)) (xs := a0) (t := 27) (x := .tmp 34) (lo := (some (.const (.int .i64 4)))) (hi := (some (.const (.int .i64 8)))) (vlo := (some (.int .i64 4))) (vhi := (some (.int .i64 8))) (A := h0.1) (c := h0.2) (l := (4 : Int).toNat) (h := (8 : Int).toNat) 2 (by kernel_rfl) (by kernel_rfl) (by kernel_rfl) (by kernel_rfl) (by kernel_rfl) (Bd.val _ _ _ (by omega)) (Bd.val _ _ _ (by omega)) (by omega) (by omega) rfl) (fun p7_7 => by kernel_rfl) (fun p7_7 => ?_)
      refine D.mid (cs := [1]) [0, 3] [] [] [] (by kernel_rfl) (by kernel_rfl) trivial (by kernel_rfl) ⟨?_, trivial⟩
      refine EvStep.mk (some 29) (new := fun p7_1 => []) ([3] ++ []) (by kernel_rfl) (Ev.cut (d := (Kd.int .u8)) (xs := a0) (t := 27) (x := .tmp 28) (lo := none) (hi := (some (.const (.int .i64 4)))) (vlo := none) (vhi := (some (.int .i64 4))) (A := h0.1) (c := h0.2) (l := (0 : Int).toNat) (h := (4 : Int).toNat) 3 (by kernel_rfl) (by kernel_rfl) (by kernel_rfl) (by kernel_rfl) (by kernel_rfl) (Bd.dflt _) (Bd.val _ _ _ (by omega)) (by omega) (by omega) rfl) (fun p7_1 => by kernel_rfl) (fun p7_1 => ?_)
      refine D.mid (cs := [2]) [3] [] [] [] (by kernel_rfl) (by kernel_rfl) trivial (by kernel_rfl) ⟨?_, trivial⟩
      refine EvStep.mk (some 30) (new := fun p7_2 => []) ([3] ++ []) (by kernel_rfl) (Ev.call0 (xs := [.tmp 29]) [0] (by kernel_rfl) (by kernel_rfl) (fun w hS => code_rest.con K (cutL a0 ((0 : Int).toNat) ((4 : Int).toNat)) p7_1  _ _ w hS hx7_2)) (fun p7_2 => by kernel_rfl) (fun p7_2 => ?_)
      refine D.mid (cs := [4]) [3] [] [] [] (by kernel_rfl) (by kernel_rfl) trivial (by kernel_rfl) ⟨?_, trivial⟩
      refine EvStep.mk (some 32) (new := fun p7_4 => []) ([] ++ []) (by kernel_rfl) (Ev.mono (fun w hS => hS.rowsel [1, 0] rfl (by decide)) (Ev.mono (fun w hS => hS.freezeH (h := p6_4) (xs := x6_4)) (Ev.appSl (d := (Kd.int .u8)) (ys := x6_4) (A := p6_4.1) (c := p6_4.2) (x := .tmp 30) (y := .tmp 31) (t := 27) (bytes := 1) 0 (by kernel_rfl) (by kernel_rfl) (by kernel_rfl) rfl (by kernel_rfl) (by decide) hy7_4a))) (fun p7_4 => by kernel_rfl) (fun p7_4 => ?_)
      refine D.mid (cs := [5]) [] [] [] [] (by kernel_rfl) (by kernel_rfl) trivial (by kernel_rfl) ⟨?_, trivial⟩
      refine EvStep.mk (some 33) (new := fun _ => []) ([] ++ []) (by kernel_rfl) (Ev.callLb (xs1 := [.tmp 32]) [0] (fun w hS => (hS.rowsel [0] rfl (by decide)).freezeL (hh := p7_4) (m := (x7_2 ++ x6_4).length) (xs := (x7_2 ++ x6_4)) rfl) (by kernel_rfl) (by kernel_rfl) (fun _ q hq => by cases hq) (fun w hS => code_Sum.con K (x7_2 ++ x6_4) p7_4  _ _ w hS hx7_5)) (fun _ => by kernel_rfl) (fun _ => ?_)
      refine D.mid (cs := [8]) [] [] [] [] (by kernel_rfl) (by kernel_rfl) trivial (by kernel_rfl) ⟨?_, trivial⟩
      refine EvStep.mk (some 36) (new := fun _ => [(9, some 37, .int .u32 (IntKind.wrap .u32 x7_8)), (10, some 38, .bool (x7_5 != (IntKind.wrap .u32 x7_8)))]) ([9, 10] ++ []) (by kernel_rfl) (Ev.call0 (xs := [.tmp 35]) [2] (by kernel_rfl) (by kernel_rfl) (fun w hS => code_get.con K (cutL a0 ((4 : Int).toNat) ((8 : Int).toNat)) p7_7  _ _ w hS hx7_8)) (fun _ => by kernel_rfl) (fun _ => ?_)
      refine D.fin (fr' := [(0, .slice h0.1 a0.length h0.2), (5, .int .u64 x3_2), (6, .slice p6_4.1 x6_4.length p6_4.2), (38, .bool (x7_5 != (IntKind.wrap .u32 x7_8)))]) [9, 10] [] [] [] [0, 5, 6, 38] (by kernel_rfl) (by kernel_rfl) trivial (by kernel_rfl) ?_
      exact J.conv2 [0, 5, 6, 38] [2, 0, 1, 3, 4, 5] [] [0] (by kernel_rfl) (by kernel_rfl) (by kernel_rfl) (by kernel_rfl) (by decide) (hk_ (p7_1, p7_2, p7_4, p7_7))
/-! ### haywain/code.TakeNum: function 57 -/
def code_TakeNum.f (K : Nat) (a0 : List Int) : Option (Int × (List Int) × Int) := cond (decide ((a0.length : Int) < 8)) (some ((0, ([] : List Int), 2))) ((cutO a0 0 8).bind fun y3_1 => (code_get.f K (cutL a0 ((0 : Int).toNat) ((8 : Int).toNat))).bind fun x3_2 => (cutO a0 8 (a0.length : Int)).bind fun y3_5 => (code_rest.f K (cutL a0 ((8 : Int).toNat) (((a0.length : Int) : Int).toNat))).bind fun x3_6 => some (((IntKind.wrap .i64 x3_2), x3_6, 0)))
set_option maxRecDepth 100000 in
set_option maxHeartbeats 1000000 in
theorem code_TakeNum.con (K : Nat) (a0 : List Int) (h0 : Hd) (r : (Int × (List Int) × Int)) (X : Nat → Nat → Prop) (w : World) (hS : St X w [] [] [] [] [Rd (Kd.int .u8) h0.1 h0.2 a0] w) (H : code_TakeNum.f K a0 = some r) :
    Cn Try.prog 57 [.slice h0.1 a0.length h0.2] X w [] (fun i : Hd => .tuple #[.int .i64 r.1, .slice i.1 r.2.1.length i.2, .int .i64 r.2.2]) (fun i => []) (fun i => [mkRow (Kd.int .u8) 5 (.slice i.1 r.2.1.length i.2) r.2.1]) (fun i => []) := by
 refine Cn.of Try.func57 (by kernel_rfl) hS ?_
 unfold code_TakeNum.f at H
 refine J.seq (by kernel_rfl) ?_
 refine J.region (by kernel_rfl) ?_
 refine O.pure 3 [] [0] [] (fr' := [(0, .slice h0.1 a0.length h0.2)]) (bx' := []) (by kernel_rfl) ?_
 refine O.nil (by kernel_rfl) ?_
 refine J.seq (by kernel_rfl) ?_
 refine J.seq (by kernel_rfl) ?_
 refine J.region (by kernel_rfl) ?_
 refine O.pure 3 [] [0, 7] [] (fr' := [(0, .slice h0.1 a0.length h0.2), (7, .bool (decide ((a0.length : Int) < 8)))]) (bx' := []) (by kernel_rfl) ?_
 refine O.nil (by kernel_rfl) ?_
 rcases condE H with ⟨hc1, H⟩ | ⟨hc1, H⟩
 ·refine J.condT (x := .tmp 7) (t := (decide ((a0.length : Int) < 8))) (by kernel_rfl) (by kernel_rfl) hc1 ?_
  refine J.seq (by kernel_rfl) ?_
  refine J.region (by kernel_rfl) ?_
  refine O.pure 3 [] [2, 3, 4] [] (fr' := [(2, .int .i64 0), (3, .slice none 0 0), (4, .int .i64 2)]) (bx' := []) (by kernel_rfl) ?_
  refine O.nil (by kernel_rfl) ?_
  obtain rfl := Option.some.inj H
  refine J.nilrow (Kd.int .u8) 5 ?_
  exact J.doneS [] [] [] [] [0] (none, 0) (vs := [.int .i64 0, .slice none 0 0, .int .i64 2]) (by kernel_rfl) (by kernel_rfl) (by kernel_rfl) (by kernel_rfl) (by kernel_rfl) (by decide)
 ·refine J.condF (x := .tmp 7) (t := (decide ((a0.length : Int) < 8))) (by kernel_rfl) (by kernel_rfl) hc1 ?_
  refine J.skip (by kernel_rfl) ?_
  refine J.seq (by kernel_rfl) ?_
  obtain ⟨y3_1, hy3_1, H⟩ := bindE H
  obtain ⟨hy3_1a, hy3_1b, hy3_1c, -⟩ := cutE hy3_1
  obtain ⟨x3_2, hx3_2, H⟩ := bindE H
  obtain ⟨y3_5, hy3_5, H⟩ := bindE H
  obtain ⟨hy3_5a, hy3_5b, hy3_5c, -⟩ := cutE hy3_5
  obtain ⟨x3_6, hx3_6, H⟩ := bindE H
  refine J.cutAt (γ := Hd × Hd × Hd) (fun q_ => [(2, .int .i64 (IntKind.wrap .i64 x3_2)), (3, .slice q_.2.2.1 x3_6.length q_.2.2.2), (4, .int .i64 0)]) (fun q_ => St X w [] [] [mkRow (Kd.int .u8) 5 (.slice q_.2.2.1 x3_6.length q_.2.2.2) x3_6] [] [Rd (Kd.int .u8) q_.2.1.1 q_.2.1.2 (cutL a0 ((8 : Int).toNat) (((a0.length : Int) : Int).toNat)), Rd (Kd.int .u8) q_.1.1 q_.1.2 (cutL a0 ((0 : Int).toNat) ((8 : Int).toNat)), Rd (Kd.int .u8) h0.1 h0.2 a0]) (fun q_ => ?_) (fun hk_ => ?_)
  ·obtain ⟨p3_1, p3_5, p3_6⟩ := q_
   obtain rfl := Option.some.inj H
   exact J.doneS [] [] [] [] [0] p3_6 (vs := [.int .i64 (IntKind.wrap .i64 x3_2), .slice p3_6.1 x3_6.length p3_6.2, .int .i64 0]) (by kernel_rfl) (by kernel_rfl) (by kernel_rfl) (by kernel_rfl) (by kernel_rfl) (by decide)
  ·refine J.drawS (by kernel_rfl) [(0, some 8, .slice h0.1 a0.length h0.2), (4, some 12, .slice h0.1 a0.length h0.2)] ([0, 4] ++ []) (by kernel_rfl) ?_
   refine D.mid (cs := [1, 5]) [0, 4] [] [] [] (by kernel_rfl) (by kernel_rfl) trivial (by kernel_rfl) ⟨?_, ?_, trivial⟩
   ·refine EvStep.mk (some 9) (new := fun p3_1 => []) ([4] ++ []) (by kernel_rfl) (Ev.cut (d := (Kd.int .u8)) (xs := a0) (t := 27) (x := .tmp 8) (lo := none) (hi := (some (.const (.int .i64 8)))) (vlo := none) (vhi := (some (.int .i64 8))) (A := h0.1) (c := h0.2) (l := (0 : Int).toNat) (h := (8 : Int).toNat) 0 (by kernel_rfl) (by kernel_rfl) (by kernel_rfl) (by kernel_rfl) (by kernel_rfl) (Bd.dflt _) (Bd.val _ _ _ (by omega)) (by omega) (by omega) rfl) (fun p3_1 => by kernel_rfl) (fun p3_1 => ?_)
    refine D.mid (cs := [2, 5]) [4] [] [] [] (by kernel_rfl) (by kernel_rfl) trivial (by kernel_rfl) ⟨?_, ?_, trivial⟩
    ·refine EvStep.mk (some 10) (new := fun _ => [(3, some 11, .int .i64 (IntKind.wrap .i64 x3_2))]) ([4, 3] ++ []) (by kernel_rfl) (Ev.call0 (xs := [.tmp 9]) [0] (by kernel_rfl) (by kernel_rfl) (fun w hS => code_get.con K (cutL a0 ((0 : Int).toNat) ((8 : Int).toNat)) p3_1  _ _ w hS hx3_2)) (fun _ => by kernel_rfl) (fun _ => ?_)
     refine D.mid (cs := [5]) [4, 3] [] [] [] (by kernel_rfl) (by kernel_rfl) trivial (by kernel_rfl) ⟨?_, trivial⟩
     refine EvStep.mk (some 13) (new := fun p3_5 => []) ([3] ++ []) (by kernel_rfl) (Ev.cut (d := (Kd.int .u8)) (xs := a0) (t := 27) (x := .tmp 12) (lo := (some (.const (.int .i64 8)))) (hi := none) (vlo := (some (.int .i64 8))) (vhi := none) (A := h0.1) (c := h0.2) (l := (8 : Int).toNat) (h := ((a0.length : Int) : Int).toNat) 1 (by kernel_rfl) (by kernel_rfl) (by kernel_rfl) (by kernel_rfl) (by kernel_rfl) (Bd.val _ _ _ (by omega)) (Bd.dflt _) (by omega) (by omega) rfl) (fun p3_5 => by kernel_rfl) (fun p3_5 => ?_)
     refine D.mid (cs := [6]) [3] [] [] [] (by kernel_rfl) (by kernel_rfl) trivial (by kernel_rfl) ⟨?_, trivial⟩
     refine EvStep.mk (some 14) (new := fun p3_6 => [(7, some 2, .int .i64 (IntKind.wrap .i64 x3_2)), (8, some 3, .slice p3_6.1 x3_6.length p3_6.2), (9, some 4, .int .i64 0)]) ([3, 7, 8, 9] ++ []) (by kernel_rfl) (Ev.call0 (xs := [.tmp 13]) [0] (by kernel_rfl) (by kernel_rfl) (fun w hS => code_rest.con K (cutL a0 ((8 : Int).toNat) (((a0.length : Int) : Int).toNat)) p3_5  _ _ w hS hx3_6)) (fun p3_6 => by kernel_rfl) (fun p3_6 => ?_)
     refine D.fin (fr' := [(2, .int .i64 (IntKind.wrap .i64 x3_2)), (3, .slice p3_6.1 x3_6.length p3_6.2), (4, .int .i64 0)]) [3, 7, 8, 9] [] [] [] [2, 3, 4] (by kernel_rfl) (by kernel_rfl) trivial (by kernel_rfl) ?_
     exact J.conv2 [2, 3, 4] [0, 1, 2] [] [0] (by kernel_rfl) (by kernel_rfl) (by kernel_rfl) (by kernel_rfl) (by decide) (hk_ (p3_1, p3_5, p3_6))
    ·refine EvStep.mk (some 13) (new := fun p3_5 => []) ([] ++ []) (by kernel_rfl) (Ev.cut (d := (Kd.int .u8)) (xs := a0) (t := 27) (x := .tmp 12) (lo := (some (.const (.int .i64 8)))) (hi := none) (vlo := (some (.int .i64 8))) (vhi := none) (A := h0.1) (c := h0.2) (l := (8 : Int).toNat) (h := ((a0.length : Int) : Int).toNat) 1 (by kernel_rfl) (by kernel_rfl) (by kernel_rfl) (by kernel_rfl) (by kernel_rfl) (Bd.val _ _ _ (by omega)) (Bd.dflt _) (by omega) (by omega) rfl) (fun p3_5 => by kernel_rfl) (fun p3_5 => ?_)
     refine D.mid (cs := [2]) [] [] [] [] (by kernel_rfl) (by kernel_rfl) trivial (by kernel_rfl) ⟨?_, trivial⟩
     refine EvStep.mk (some 10) (new := fun _ => [(3, some 11, .int .i64 (IntKind.wrap .i64 x3_2))]) ([3] ++ []) (by kernel_rfl) (Ev.call0 (xs := [.tmp 9]) [1] (by kernel_rfl) (by kernel_rfl) (fun w hS => code_get.con K (cutL a0 ((0 : Int).toNat) ((8 : Int).toNat)) p3_1  _ _ w hS hx3_2)) (fun _ => by kernel_rfl) (fun _ => ?_)
     refine D.mid (cs := [6]) [3] [] [] [] (by kernel_rfl) (by kernel_rfl) trivial (by kernel_rfl) ⟨?_, trivial⟩
     refine EvStep.mk (some 14) (new := fun p3_6 => [(7, some 2, .int .i64 (IntKind.wrap .i64 x3_2)), (8, some 3, .slice p3_6.1 x3_6.length p3_6.2), (9, some 4, .int .i64 0)]) ([3, 7, 8, 9] ++ []) (by kernel_rfl) (Ev.call0 (xs := [.tmp 13]) [0] (by kernel_rfl) (by kernel_rfl) (fun w hS => code_rest.con K (cutL a0 ((8 : Int).toNat) (((a0.length : Int) : Int).toNat)) p3_5  _ _ w hS hx3_6)) (fun p3_6 => by kernel_rfl) (fun p3_6 => ?_)
     refine D.fin (fr' := [(2, .int .i64 (IntKind.wrap .i64 x3_2)), (3, .slice p3_6.1 x3_6.length p3_6.2), (4, .int .i64 0)]) [3, 7, 8, 9] [] [] [] [2, 3, 4] (by kernel_rfl) (by kernel_rfl) trivial (by kernel_rfl) ?_
     exact J.conv2 [2, 3, 4] [0, 1, 2] [] [0] (by kernel_rfl) (by kernel_rfl) (by kernel_rfl) (by kernel_rfl) (by decide) (hk_ (p3_1, p3_5, p3_6))
   ·refine EvStep.mk (some 13) (new := fun p3_5 => []) ([0] ++ []) (by kernel_rfl) (Ev.cut (d := (Kd.int .u8)) (xs := a0) (t := 27) (x := .tmp 12) (lo := (some (.const (.int .i64 8)))) (hi := none) (vlo := (some (.int .i64 8))) (vhi := none) (A := h0.1) (c := h0.2) (l := (8 : Int).toNat) (h := ((a0.length : Int) : Int).toNat) 0 (by kernel_rfl) (by kernel_rfl) (by kernel_rfl) (by kernel_rfl) (by kernel_rfl) (Bd.val _ _ _ (by omega)) (Bd.dflt _) (by omega) (by omega) rfl) (fun p3_5 => by kernel_rfl) (fun p3_5 => ?_)
    refine D.mid (cs := [1]) [0] [] [] [] (by kernel_rfl) (by kernel_rfl) trivial (by kernel_rfl) ⟨?_, trivial⟩
    refine EvStep.mk (some 9) (new := fun p3_1 => []) ([] ++ []) (by kernel_rfl) (Ev.cut (d := (Kd.int .u8)) (xs := a0) (t := 27) (x := .tmp 8) (lo := none) (hi := (some (.const (.int .i64 8)))) (vlo := none) (vhi := (some (.int .i64 8))) (A := h0.1) (c := h0.2) (l := (0 : Int).toNat) (h := (8 : Int).toNat) 1 (by kernel_rfl) (by kernel_rfl) (by kernel_rfl) (by kernel_rfl) (by kernel_rfl) (Bd.dflt _) (Bd.val _ _ _ (by omega)) (by omega) (by omega) rfl) (fun p3_1 => by kernel_rfl) (fun p3_1 => ?_)
    refine D.mid (cs := [2]) [] [] [] [] (by kernel_rfl) (by kernel_rfl) trivial (by kernel_rfl) ⟨?_, trivial⟩
    refine EvStep.mk (some 10) (new := fun _ => [(3, some 11, .int .i64 (IntKind.wrap .i64 x3_2))]) ([3] ++ []) (by kernel_rfl) (Ev.call0 (xs := [.tmp 9]) [0] (by kernel_rfl) (by kernel_rfl) (fun w hS => code_get.con K (cutL a0 ((0 : Int).toNat) ((8 : Int).toNat)) p3_1  _ _ w hS hx3_2)) (fun _ => by kernel_rfl) (fun _ => ?_)
    refine D.mid (cs := [6]) [3] [] [] [] (by kernel_rfl) (by kernel_rfl) trivial (by kernel_rfl) ⟨?_, trivial⟩
    refine EvStep.mk (some 14) (new := fun p3_6 => [(7, some 2, .int .i64 (IntKind.wrap .i64 x3_2)), (8, some 3, .slice p3_6.1 x3_6.length p3_6.2), (9, some 4, .int .i64 0)]) ([3, 7, 8, 9] ++ []) (by kernel_rfl) (Ev.call0 (xs := [.tmp 13]) [1] (by kernel_rfl) (by kernel_rfl) (fun w hS => code_rest.con K (cutL a0 ((8 : Int).toNat) (((a0.length : Int) : Int).toNat)) p3_5  _ _ w hS hx3_6)) (fun p3_6 => by kernel_rfl) (fun p3_6 => ?_)
    refine D.fin (fr' := [(2, .int .i64 (IntKind.wrap .i64 x3_2)), (3, .slice p3_6.1 x3_6.length p3_6.2), (4, .int .i64 0)]) [3, 7, 8, 9] [] [] [] [2, 3, 4] (by kernel_rfl) (by kernel_rfl) trivial (by kernel_rfl) ?_
    exact J.conv2 [2, 3, 4] [1, 0, 2] [] [0] (by kernel_rfl) (by kernel_rfl) (by kernel_rfl) (by kernel_rfl) (by decide) (hk_ (p3_1, p3_5, p3_6))
/-! ### haywain/ckpt.read: function 30 -/
def ckpt_read.l2 (K : Nat) (x1_1 : (List Int) × Int) : Nat → (Int × (List Int)) → Option (Int × Int × Int × Bool)
  | 0, _ => none
  | k + 1, s2 => (code_TakeFrame.f K s2.2).bind fun x5_1 => cond (x5_1.2.2 != 0) (some ((s2.1, (IntKind.wrap .i64 ((x1_1.1.length : Int) - (s2.2.length : Int))), (x1_1.1.length : Int), (x5_1.2.2 == 2)))) ((code_TakeNum.f K x5_1.1).bind fun x8_1 => cond (x8_1.2.2 != 0) (some ((0, 0, 0, false))) (cond (decide ((x8_1.2.1.length : Int) > 0)) (some ((0, 0, 0, false))) ((ckpt_fair.f K x8_1.1).bind fun x9_9 => cond (!x9_9) (some ((0, 0, 0, false))) (cond (decide (x8_1.1 ≤ s2.1)) (some ((0, 0, 0, false))) (ckpt_read.l2 K x1_1 k (x8_1.1, x5_1.2.1))))))
def ckpt_read.f (K : Nat) (a0 : S24) : Option (Int × Int × Int × Bool) := (disk_Get.f K a0 (⟨#[109]⟩ : ByteArray)).bind fun x1_1 => cond (x1_1.2 != 0) (some ((0, 0, 0, true))) (ckpt_read.l2 K x1_1 K (0, x1_1.1))
set_option maxRecDepth 100000 in
set_option maxHeartbeats 1000000 in
theorem ckpt_read.con (K : Nat) (a0 : S24) (h0 : Hd) (r : (Int × Int × Int × Bool)) (X : Nat → Nat → Prop) (w : World) (hS : St X w [] [] [] [] [Rd kd70 h0.1 h0.2 a0.f0] w) (H : ckpt_read.f K a0 = some r) :
    Cn Try.prog 30 [.agg #[.slice h0.1 a0.f0.length h0.2]] X w [] (fun i : Unit => .tuple #[.int .i64 r.1, .int .i64 r.2.1, .int .i64 r.2.2.1, .bool r.2.2.2]) (fun i => []) (fun i => []) (fun i => []) := by
 refine Cn.of Try.func30 (by kernel_rfl) hS ?_
 unfold ckpt_read.f at H
 refine J.seq (by kernel_rfl) ?_
 refine J.region (by kernel_rfl) ?_
 refine O.e (some 1) (Ev.box (t := 24) (x := .tmp 0) (v := .agg #[.slice h0.1 a0.f0.length h0.2]) (by kernel_rfl) (by kernel_rfl)) (by kernel_rfl) (fun p0_0 => ?_)
 refine O.pure 4 [] [1, 2] [] (fr' := [(1, .pointer (some ⟨p0_0, 0, none⟩)), (2, .int .i64 0)]) (bx' := [⟨p0_0, [.slice h0.1 a0.f0.length h0.2], 24⟩]) (by kernel_rfl) ?_
 refine O.nil (by kernel_rfl) ?_
 refine J.seq (by kernel_rfl) ?_
 obtain ⟨x1_1, hx1_1, H⟩ := bindE H
 refine J.region (by kernel_rfl) ?_
 refine O.pure 1 [(0, 0)] [2, 15] [p0_0, 0] (fr' := [(2, .int .i64 0), (15, .agg #[.slice h0.1 a0.f0.length h0.2])]) (bx' := [⟨p0_0, [.slice h0.1 a0.f0.length h0.2], 24⟩]) (by kernel_rfl) ?_
 refine O.e (some 16) (Ev.call0 (xs := [.tmp 15, .const (.string (⟨#[109]⟩ : ByteArray))]) [0] (by kernel_rfl) (by kernel_rfl) (fun w hS => disk_Get.con K a0 (⟨#[109]⟩ : ByteArray) h0  _ _ w hS hx1_1)) (by kernel_rfl) (fun p1_1 => ?_)
 refine O.pure 5 [] [2, 6, 7] [] (fr' := [(2, .int .i64 0), (6, .slice p1_1.1 x1_1.1.length p1_1.2), (7, .int .i64 x1_1.2)]) (bx' := [⟨p0_0, [.slice h0.1 a0.f0.length h0.2], 24⟩]) (by kernel_rfl) ?_
 refine O.nil (by kernel_rfl) ?_
 refine J.seq (by kernel_rfl) ?_
 refine J.seq (by kernel_rfl) ?_
 refine J.region (by kernel_rfl) ?_
 refine O.pure 2 [] [2, 6, 20] [] (fr' := [(2, .int .i64 0), (6, .slice p1_1.1 x1_1.1.length p1_1.2), (20, .bool (x1_1.2 != 0))]) (bx' := [⟨p0_0, [.slice h0.1 a0.f0.length h0.2], 24⟩]) (by kernel_rfl) ?_
 refine O.nil (by kernel_rfl) ?_
 rcases condE H with ⟨hc1, H⟩ | ⟨hc1, H⟩
 ·refine J.condT (x := .tmp 20) (t := (x1_1.2 != 0)) (by kernel_rfl) (by kernel_rfl) hc1 ?_
  refine J.seq (by kernel_rfl) ?_
  refine J.region (by kernel_rfl) ?_
  refine O.pure 4 [] [2, 3, 4, 5] [] (fr' := [(2, .int .i64 0), (3, .int .i64 0), (4, .int .i64 0), (5, .bool true)]) (bx' := [⟨p0_0, [.slice h0.1 a0.f0.length h0.2], 24⟩]) (by kernel_rfl) ?_
  refine O.nil (by kernel_rfl) ?_
  obtain rfl := Option.some.inj H
  exact J.doneS [] [] [] [] [] () (vs := [.int .i64 0, .int .i64 0, .int .i64 0, .bool true]) (by kernel_rfl) (by kernel_rfl) (by kernel_rfl) (by kernel_rfl) (by kernel_rfl) (by decide)
 ·refine J.condF (x := .tmp 20) (t := (x1_1.2 != 0)) (by kernel_rfl) (by kernel_rfl) hc1 ?_
  refine J.skip (by kernel_rfl) ?_
  refine J.seq (by kernel_rfl) ?_
  refine J.region (by kernel_rfl) ?_
  refine O.pure 3 [] [2, 4, 6] [] (fr' := [(2, .int .i64 0), (4, .int .i64 (x1_1.1.length : Int)), (6, .slice p1_1.1 x1_1.1.length p1_1.2)]) (bx' := [⟨p0_0, [.slice h0.1 a0.f0.length h0.2], 24⟩]) (by kernel_rfl) ?_
  refine O.nil (by kernel_rfl) ?_
  refine J.block (id := 0) (by kernel_rfl) ?_
  refine J.loopI (σ := Int × (List Int)) (γ := Hd) (f := fun m_ s_ => ckpt_read.l2 K x1_1 m_ s_) (fun s2 g2 => [(2, .int .i64 s2.1), (4, .int .i64 (x1_1.1.length : Int)), (6, .slice g2.1 s2.2.length g2.2)]) (fun s2 g2 => St X w [] [] [] [] [Rd (Kd.int .u8) g2.1 g2.2 s2.2, Rd kd70 h0.1 h0.2 a0.f0]) K (0, x1_1.1) p1_1 (by kernel_rfl) H (fun _ => rfl) (fun m_ s2 H ih2 g2 => ?_) (fun h_ => ?_)
  ·unfold ckpt_read.l2 at H
   refine J.block (id := 1) (by kernel_rfl) ?_
   refine J.seq (by kernel_rfl) ?_
   obtain ⟨x5_1, hx5_1, H⟩ := bindE H
   refine J.region (by kernel_rfl) ?_
   refine O.pure 1 [] [2, 4, 6, 24] [] (fr' := [(2, .int .i64 s2.1), (4, .int .i64 (x1_1.1.length : Int)), (6, .slice g2.1 s2.2.length g2.2), (24, .slice g2.1 s2.2.length g2.2)]) (bx' := []) (by kernel_rfl) ?_
   refine O.e (some 25) (Ev.call0 (xs := [.tmp 24]) [0] (by kernel_rfl) (by kernel_rfl) (fun w hS => code_TakeFrame.con K s2.2 g2  _ _ w hS hx5_1)) (by kernel_rfl) (fun p5_1 => ?_)
   refine O.pure 7 [] [2, 4, 6, 8, 9, 10] [] (fr' := [(2, .int .i64 s2.1), (4, .int .i64 (x1_1.1.length : Int)), (6, .slice g2.1 s2.2.length g2.2), (8, .slice p5_1.1.1 x5_1.1.length p5_1.1.2), (9, .slice p5_1.2.1 x5_1.2.1.length p5_1.2.2), (10, .int .i64 x5_1.2.2)]) (bx' := []) (by kernel_rfl) ?_
   refine O.nil (by kernel_rfl) ?_
   refine J.seq (by kernel_rfl) ?_
   refine J.seq (by kernel_rfl) ?_
   refine J.region (by kernel_rfl) ?_
   refine O.pure 2 [] [2, 4, 6, 8, 9, 10, 30] [] (fr' := [(2, .int .i64 s2.1), (4, .int .i64 (x1_1.1.length : Int)), (6, .slice g2.1 s2.2.length g2.2), (8, .slice p5_1.1.1 x5_1.1.length p5_1.1.2), (9, .slice p5_1.2.1 x5_1.2.1.length p5_1.2.2), (10, .int .i64 x5_1.2.2), (30, .bool (x5_1.2.2 != 0))]) (bx' := []) (by kernel_rfl) ?_
   refine O.nil (by kernel_rfl) ?_
   rcases condE H with ⟨hc13, H⟩ | ⟨hc13, H⟩
   ·refine J.condT (x := .tmp 30) (t := (x5_1.2.2 != 0)) (by kernel_rfl) (by kernel_rfl) hc13 ?_
    refine J.seq (by kernel_rfl) ?_
    refine J.region (by kernel_rfl) ?_
    refine O.pure 12 [] [2, 3, 4, 5] [] (fr' := [(2, .int .i64 s2.1), (3, .int .i64 (IntKind.wrap .i64 ((x1_1.1.length : Int) - (s2.2.length : Int)))), (4, .int .i64 (x1_1.1.length : Int)), (5, .bool (x5_1.2.2 == 2))]) (bx' := []) (by kernel_rfl) ?_
    refine O.nil (by kernel_rfl) ?_
    obtain rfl := Option.some.inj H
    exact J.doneS [] [] [] [] [] () (vs := [.int .i64 s2.1, .int .i64 (IntKind.wrap .i64 ((x1_1.1.length : Int) - (s2.2.length : Int))), .int .i64 (x1_1.1.length : Int), .bool (x5_1.2.2 == 2)]) (by kernel_rfl) (by kernel_rfl) (by kernel_rfl) (by kernel_rfl) (by kernel_rfl) (by decide)
   ·refine J.condF (x := .tmp 30) (t := (x5_1.2.2 != 0)) (by kernel_rfl) (by kernel_rfl) hc13 ?_
    refine J.skip (by kernel_rfl) ?_
    refine J.seq (by kernel_rfl) ?_
    obtain ⟨x8_1, hx8_1, H⟩ := bindE H
    refine J.region (by kernel_rfl) ?_
    refine O.pure 1 [] [2, 4, 9, 40] [] (fr' := [(2, .int .i64 s2.1), (4, .int .i64 (x1_1.1.length : Int)), (9, .slice p5_1.2.1 x5_1.2.1.length p5_1.2.2), (40, .slice p5_1.1.1 x5_1.1.length p5_1.1.2)]) (bx' := []) (by kernel_rfl) ?_
    refine O.e (some 41) (Ev.call0 (xs := [.tmp 40]) [0] (by kernel_rfl) (by kernel_rfl) (fun w hS => code_TakeNum.con K x5_1.1 p5_1.1  _ _ w hS hx8_1)) (by kernel_rfl) (fun p8_1 => ?_)
    refine O.pure 7 [] [2, 4, 9, 11, 12, 13] [] (fr' := [(2, .int .i64 s2.1), (4, .int .i64 (x1_1.1.length : Int)), (9, .slice p5_1.2.1 x5_1.2.1.length p5_1.2.2), (11, .int .i64 x8_1.1), (12, .slice p8_1.1 x8_1.2.1.length p8_1.2), (13, .int .i64 x8_1.2.2)]) (bx' := []) (by kernel_rfl) ?_
    refine O.nil (by kernel_rfl) ?_
    refine J.seq (by kernel_rfl) ?_
    refine J.seq (by kernel_rfl) ?_
    rcases condE H with ⟨hc14, H⟩ | ⟨hc14, H⟩
    ·refine J.region (by kernel_rfl) ?_
     refine O.pure 1 [] [2, 4, 9, 11, 12, 45] [] (fr' := [(2, .int .i64 s2.1), (4, .int .i64 (x1_1.1.length : Int)), (9, .slice p5_1.2.1 x5_1.2.1.length p5_1.2.2), (11, .int .i64 x8_1.1), (12, .slice p8_1.1 x8_1.2.1.length p8_1.2), (45, .int .i64 x8_1.2.2)]) (bx' := []) (by kernel_rfl) ?_
     refine O.q (v := .bool true) (some 46) (Qu.eqv (u := .bool (x8_1.2.2 != 0)) (v := .bool true) (0, 0) [] (by kernel_rfl) (congrArg Value.bool hc14)) (by kernel_rfl) ?_
     refine O.pure 15 [] [4, 9, 11, 48, 49, 50, 53, 54, 55, 58, 59, 60, 61] [] (fr' := [(4, .int .i64 (x1_1.1.length : Int)), (9, .slice p5_1.2.1 x5_1.2.1.length p5_1.2.2), (11, .int .i64 x8_1.1), (48, undef), (49, undef), (50, undef), (53, undef), (54, undef), (55, undef), (58, undef), (59, undef), (60, undef), (61, .bool true)]) (bx' := []) (by kernel_rfl) ?_
     refine O.nil (by kernel_rfl) ?_
     refine J.cond (o := .tmp 61) true (by kernel_rfl) (by kernel_rfl) ?_
     refine J.seq (by kernel_rfl) ?_
     refine J.region (by kernel_rfl) ?_
     refine O.pure 4 [] [2, 3, 4, 5] [] (fr' := [(2, .int .i64 0), (3, .int .i64 0), (4, .int .i64 0), (5, .bool false)]) (bx' := []) (by kernel_rfl) ?_
     refine O.nil (by kernel_rfl) ?_
     obtain rfl := Option.some.inj H
     exact J.doneS [] [] [] [] [] () (vs := [.int .i64 0, .int .i64 0, .int .i64 0, .bool false]) (by kernel_rfl) (by kernel_rfl) (by kernel_rfl) (by kernel_rfl) (by kernel_rfl) (by decide)
    ·rcases condE H with ⟨hc15, H⟩ | ⟨hc15, H⟩
     ·refine J.region (by kernel_rfl) ?_
      refine O.pure 1 [] [2, 4, 9, 11, 12, 45] [] (fr' := [(2, .int .i64 s2.1), (4, .int .i64 (x1_1.1.length : Int)), (9, .slice p5_1.2.1 x5_1.2.1.length p5_1.2.2), (11, .int .i64 x8_1.1), (12, .slice p8_1.1 x8_1.2.1.length p8_1.2), (45, .int .i64 x8_1.2.2)]) (bx' := []) (by kernel_rfl) ?_
      refine O.q (v := .bool false) (some 46) (Qu.eqv (u := .bool (x8_1.2.2 != 0)) (v := .bool false) (0, 0) [] (by kernel_rfl) (congrArg Value.bool hc14)) (by kernel_rfl) ?_
      refine O.pure 3 [] [2, 4, 9, 11, 47, 48, 49] [] (fr' := [(2, .int .i64 s2.1), (4, .int .i64 (x1_1.1.length : Int)), (9, .slice p5_1.2.1 x5_1.2.1.length p5_1.2.2), (11, .int .i64 x8_1.1), (47, .bool false), (48, .slice p8_1.1 x8_1.2.1.length p8_1.2), (49, .int .i64 (x8_1.2.1.length : Int))]) (bx' := []) (by kernel_rfl) ?_
      refine O.q (v := .bool true) (some 50) (Qu.eqv (u := .bool (decide ((x8_1.2.1.length : Int) > 0))) (v := .bool true) (0, 0) [] (by kernel_rfl) (congrArg Value.bool hc15)) (by kernel_rfl) ?_
      refine O.pure 11 [] [4, 9, 11, 48, 49, 50, 53, 54, 55, 58, 59, 60, 61] [] (fr' := [(4, .int .i64 (x1_1.1.length : Int)), (9, .slice p5_1.2.1 x5_1.2.1.length p5_1.2.2), (11, .int .i64 x8_1.1), (48, .slice p8_1.1 x8_1.2.1.length p8_1.2), (49, .int .i64 (x8_1.2.1.length : Int)), (50, .bool true), (53, undef), (54, undef), (55, undef), (58, undef), (59, undef), (60, undef), (61, .bool true)]) (bx' := []) (by kernel_rfl) ?_
      refine O.nil (by kernel_rfl) ?_
      refine J.cond (o := .tmp 61) true (by kernel_rfl) (by kernel_rfl) ?_
      refine J.seq (by kernel_rfl) ?_
      refine J.region (by kernel_rfl) ?_
      refine O.pure 4 [] [2, 3, 4, 5] [] (fr' := [(2, .int .i64 0), (3, .int .i64 0), (4, .int .i64 0), (5, .bool false)]) (bx' := []) (by kernel_rfl) ?_
      refine O.nil (by kernel_rfl) ?_
      obtain rfl := Option.some.inj H
      exact J.doneS [] [] [] [] [] () (vs := [.int .i64 0, .int .i64 0, .int .i64 0, .bool false]) (by kernel_rfl) (by kernel_rfl) (by kernel_rfl) (by kernel_rfl) (by kernel_rfl) (by decide)
     ·obtain ⟨x9_9, hx9_9, H⟩ := bindE H
      rcases condE H with ⟨hc16, H⟩ | ⟨hc16, H⟩
      ·refine J.region (by kernel_rfl) ?_
       refine O.pure 1 [] [2, 4, 9, 11, 12, 45] [] (fr' := [(2, .int .i64 s2.1), (4, .int .i64 (x1_1.1.length : Int)), (9, .slice p5_1.2.1 x5_1.2.1.length p5_1.2.2), (11, .int .i64 x8_1.1), (12, .slice p8_1.1 x8_1.2.1.length p8_1.2), (45, .int .i64 x8_1.2.2)]) (bx' := []) (by kernel_rfl) ?_
       refine O.q (v := .bool false) (some 46) (Qu.eqv (u := .bool (x8_1.2.2 != 0)) (v := .bool false) (0, 0) [] (by kernel_rfl) (congrArg Value.bool hc14)) (by kernel_rfl) ?_
       refine O.pure 3 [] [2, 4, 9, 11, 47, 48, 49] [] (fr' := [(2, .int .i64 s2.1), (4, .int .i64 (x1_1.1.length : Int)), (9, .slice p5_1.2.1 x5_1.2.1.length p5_1.2.2), (11, .int .i64 x8_1.1), (47, .bool false), (48, .slice p8_1.1 x8_1.2.1.length p8_1.2), (49, .int .i64 (x8_1.2.1.length : Int))]) (bx' := []) (by kernel_rfl) ?_
       refine O.q (v := .bool false) (some 50) (Qu.eqv (u := .bool (decide ((x8_1.2.1.length : Int) > 0))) (v := .bool false) (0, 0) [] (by kernel_rfl) (congrArg Value.bool hc15)) (by kernel_rfl) ?_
       refine O.pure 3 [] [2, 4, 9, 11, 48, 49, 50, 52, 53] [] (fr' := [(2, .int .i64 s2.1), (4, .int .i64 (x1_1.1.length : Int)), (9, .slice p5_1.2.1 x5_1.2.1.length p5_1.2.2), (11, .int .i64 x8_1.1), (48, .slice p8_1.1 x8_1.2.1.length p8_1.2), (49, .int .i64 (x8_1.2.1.length : Int)), (50, .bool false), (52, .bool false), (53, .int .i64 x8_1.1)]) (bx' := []) (by kernel_rfl) ?_
       refine O.e (some 54) (Ev.call0 (xs := [.tmp 53]) [] (by kernel_rfl) (by kernel_rfl) (fun w hS => ckpt_fair.con K x8_1.1  _ _ w hS hx9_9)) (by kernel_rfl) (fun _ => ?_)
       refine O.q (v := .bool true) (some 55) (Qu.eqv (u := .bool (!x9_9)) (v := .bool true) (0, 0) [] (by kernel_rfl) (congrArg Value.bool hc16)) (by kernel_rfl) ?_
       refine O.pure 6 [] [4, 9, 11, 48, 49, 50, 53, 54, 55, 58, 59, 60, 61] [] (fr' := [(4, .int .i64 (x1_1.1.length : Int)), (9, .slice p5_1.2.1 x5_1.2.1.length p5_1.2.2), (11, .int .i64 x8_1.1), (48, .slice p8_1.1 x8_1.2.1.length p8_1.2), (49, .int .i64 (x8_1.2.1.length : Int)), (50, .bool false), (53, .int .i64 x8_1.1), (54, .bool x9_9), (55, .bool true), (58, undef), (59, undef), (60, undef), (61, .bool true)]) (bx' := []) (by kernel_rfl) ?_
       refine O.nil (by kernel_rfl) ?_
       refine J.cond (o := .tmp 61) true (by kernel_rfl) (by kernel_rfl) ?_
       refine J.seq (by kernel_rfl) ?_
       refine J.region (by kernel_rfl) ?_
       refine O.pure 4 [] [2, 3, 4, 5] [] (fr' := [(2, .int .i64 0), (3, .int .i64 0), (4, .int .i64 0), (5, .bool false)]) (bx' := []) (by kernel_rfl) ?_
       refine O.nil (by kernel_rfl) ?_
       obtain rfl := Option.some.inj H
       exact J.doneS [] [] [] [] [] () (vs := [.int .i64 0, .int .i64 0, .int .i64 0, .bool false]) (by kernel_rfl) (by kernel_rfl) (by kernel_rfl) (by kernel_rfl) (by kernel_rfl) (by decide)
      ·refine J.region (by kernel_rfl) ?_
       refine O.pure 1 [] [2, 4, 9, 11, 12, 45] [] (fr' := [(2, .int .i64 s2.1), (4, .int .i64 (x1_1.1.length : Int)), (9, .slice p5_1.2.1 x5_1.2.1.length p5_1.2.2), (11, .int .i64 x8_1.1), (12, .slice p8_1.1 x8_1.2.1.length p8_1.2), (45, .int .i64 x8_1.2.2)]) (bx' := []) (by kernel_rfl) ?_
       refine O.q (v := .bool false) (some 46) (Qu.eqv (u := .bool (x8_1.2.2 != 0)) (v := .bool false) (0, 0) [] (by kernel_rfl) (congrArg Value.bool hc14)) (by kernel_rfl) ?_
       refine O.pure 3 [] [2, 4, 9, 11, 47, 48, 49] [] (fr' := [(2, .int .i64 s2.1), (4, .int .i64 (x1_1.1.length : Int)), (9, .slice p5_1.2.1 x5_1.2.1.length p5_1.2.2), (11, .int .i64 x8_1.1), (47, .bool false), (48, .slice p8_1.1 x8_1.2.1.length p8_1.2), (49, .int .i64 (x8_1.2.1.length : Int))]) (bx' := []) (by kernel_rfl) ?_
       refine O.q (v := .bool false) (some 50) (Qu.eqv (u := .bool (decide ((x8_1.2.1.length : Int) > 0))) (v := .bool false) (0, 0) [] (by kernel_rfl) (congrArg Value.bool hc15)) (by kernel_rfl) ?_
       refine O.pure 3 [] [2, 4, 9, 11, 48, 49, 50, 52, 53] [] (fr' := [(2, .int .i64 s2.1), (4, .int .i64 (x1_1.1.length : Int)), (9, .slice p5_1.2.1 x5_1.2.1.length p5_1.2.2), (11, .int .i64 x8_1.1), (48, .slice p8_1.1 x8_1.2.1.length p8_1.2), (49, .int .i64 (x8_1.2.1.length : Int)), (50, .bool false), (52, .bool false), (53, .int .i64 x8_1.1)]) (bx' := []) (by kernel_rfl) ?_
       refine O.e (some 54) (Ev.call0 (xs := [.tmp 53]) [] (by kernel_rfl) (by kernel_rfl) (fun w hS => ckpt_fair.con K x8_1.1  _ _ w hS hx9_9)) (by kernel_rfl) (fun _ => ?_)
       refine O.q (v := .bool false) (some 55) (Qu.eqv (u := .bool (!x9_9)) (v := .bool false) (0, 0) [] (by kernel_rfl) (congrArg Value.bool hc16)) (by kernel_rfl) ?_
       refine O.pure 6 [] [4, 9, 11, 48, 49, 50, 53, 54, 55, 58, 59, 60, 61] [] (fr' := [(4, .int .i64 (x1_1.1.length : Int)), (9, .slice p5_1.2.1 x5_1.2.1.length p5_1.2.2), (11, .int .i64 x8_1.1), (48, .slice p8_1.1 x8_1.2.1.length p8_1.2), (49, .int .i64 (x8_1.2.1.length : Int)), (50, .bool false), (53, .int .i64 x8_1.1), (54, .bool x9_9), (55, .bool false), (58, .int .i64 x8_1.1), (59, .int .i64 s2.1), (60, .bool (decide (x8_1.1 ≤ s2.1))), (61, .bool (decide (x8_1.1 ≤ s2.1)))]) (bx' := []) (by kernel_rfl) ?_
       refine O.nil (by kernel_rfl) ?_
       rcases condE H with ⟨hc17, H⟩ | ⟨hc17, H⟩
       ·refine J.condT (x := .tmp 61) (t := (decide (x8_1.1 ≤ s2.1))) (by kernel_rfl) (by kernel_rfl) hc17 ?_
        refine J.seq (by kernel_rfl) ?_
        refine J.region (by kernel_rfl) ?_
        refine O.pure 4 [] [2, 3, 4, 5] [] (fr' := [(2, .int .i64 0), (3, .int .i64 0), (4, .int .i64 0), (5, .bool false)]) (bx' := []) (by kernel_rfl) ?_
        refine O.nil (by kernel_rfl) ?_
        obtain rfl := Option.some.inj H
        exact J.doneS [] [] [] [] [] () (vs := [.int .i64 0, .int .i64 0, .int .i64 0, .bool false]) (by kernel_rfl) (by kernel_rfl) (by kernel_rfl) (by kernel_rfl) (by kernel_rfl) (by decide)
       ·refine J.condF (x := .tmp 61) (t := (decide (x8_1.1 ≤ s2.1))) (by kernel_rfl) (by kernel_rfl) hc17 ?_
        refine J.skip (by kernel_rfl) ?_
        refine J.region (by kernel_rfl) ?_
        refine O.pure 4 [] [2, 4, 6, 48, 49, 50, 53, 54, 55, 58, 59, 60] [] (fr' := [(2, .int .i64 x8_1.1), (4, .int .i64 (x1_1.1.length : Int)), (6, .slice p5_1.2.1 x5_1.2.1.length p5_1.2.2), (48, .slice p8_1.1 x8_1.2.1.length p8_1.2), (49, .int .i64 (x8_1.2.1.length : Int)), (50, .bool false), (53, .int .i64 x8_1.1), (54, .bool x9_9), (55, .bool false), (58, .int .i64 x8_1.1), (59, .int .i64 s2.1), (60, .bool (decide (x8_1.1 ≤ s2.1)))]) (bx' := []) (by kernel_rfl) ?_
        refine O.nil (by kernel_rfl) ?_
        refine J.out ?_
        refine J.mono (fun w hS => hS.rowsel [1, 0] rfl (by decide)) ?_
        refine J.mono (fun w hS => hS.freezeH (h := p5_1.2) (xs := x5_1.2.1)) ?_
        exact J.conv2 [2, 4, 6] [0, 3] [] [] (by kernel_rfl) (by kernel_rfl) (by kernel_rfl) (by kernel_rfl) (by decide) (ih2 (x8_1.1, x5_1.2.1) p5_1.2 H)
  ·exact J.conv2 [2, 4, 6] [0, 1] [] [] (by kernel_rfl) (by kernel_rfl) (by kernel_rfl) (by kernel_rfl) (by decide) h_
/-! ### haywain/ckpt.digits: function 39 -/
def ckpt_digits.r (K : Nat) : Nat → Int → Option ByteArray
  | 0, _ => none
  | k + 1, a0 => cond (decide (a0 < 10)) (some ((strOfNums ([(IntKind.wrap .u8 (IntKind.wrap .i64 (48 + a0)))] : List Int)))) ((divO .i64 a0 10).bind fun z3_1 => (ckpt_digits.r K k (IntKind.wrap .i64 (a0.tdiv 10))).bind fun x3_2 => (remO a0 10).bind fun z3_4 => (catO x3_2 (strOfNums ([(IntKind.wrap .u8 (IntKind.wrap .i64 (48 + (a0.tmod 10))))] : List Int))).bind fun z3_9 => some ((x3_2 ++ (strOfNums ([(IntKind.wrap .u8 (IntKind.wrap .i64 (48 + (a0.tmod 10))))] : List Int)))))
def ckpt_digits.f (K : Nat) (a0 : Int) : Option ByteArray := ckpt_digits.r K K a0
set_option maxRecDepth 100000 in
set_option maxHeartbeats 1000000 in
theorem ckpt_digits.con_r (K : Nat) : ∀ (k : Nat) (a0 : Int) (r : ByteArray) (X : Nat → Nat → Prop) (w : World) (hS : St X w [] [] [] [] [] w) (H : ckpt_digits.r K k a0 = some r), Cn Try.prog 39 [.int .i64 a0] X w [] (fun i : Unit => .string r) (fun i => []) (fun i => []) (fun i => []) := by
  intro k
  induction k with
  | zero => intro a0 r X w hS H; simp [ckpt_digits.r] at H
  | succ k ih =>
    intro a0 r X w hS H
    refine Cn.of Try.func39 (by kernel_rfl) hS ?_
    unfold ckpt_digits.r at H
    refine J.seq (by kernel_rfl) ?_
    refine J.region (by kernel_rfl) ?_
    refine O.pure 1 [] [0] [] (fr' := [(0, .int .i64 a0)]) (bx' := []) (by kernel_rfl) ?_
    refine O.nil (by kernel_rfl) ?_
    refine J.seq (by kernel_rfl) ?_
    refine J.seq (by kernel_rfl) ?_
    refine J.region (by kernel_rfl) ?_
    refine O.pure 2 [] [0, 4] [] (fr' := [(0, .int .i64 a0), (4, .bool (decide (a0 < 10)))]) (bx' := []) (by kernel_rfl) ?_
    refine O.nil (by kernel_rfl) ?_
    rcases condE H with ⟨hc1, H⟩ | ⟨hc1, H⟩
    ·refine J.condT (x := .tmp 4) (t := (decide (a0 < 10))) (by kernel_rfl) (by kernel_rfl) hc1 ?_
     refine J.seq (by kernel_rfl) ?_
     refine J.region (by kernel_rfl) ?_
     refine O.pure 3 [] [7] [] (fr' := [(7, .int .u8 (IntKind.wrap .u8 (IntKind.wrap .i64 (48 + a0))))]) (bx' := []) (by kernel_rfl) ?_
     refine O.e (some 8) (Ev.lit (t := 27) (len := 1) (parts := #[(0, .tmp 7)]) (ps := [(0, .int .u8 (IntKind.wrap .u8 (IntKind.wrap .i64 (48 + a0))))]) (cs := [.int .u8 (IntKind.wrap .u8 (IntKind.wrap .i64 (48 + a0)))]) (e := 5) (Kd.int .u8) ([(IntKind.wrap .u8 (IntKind.wrap .i64 (48 + a0)))] : List Int) (by kernel_rfl) (by kernel_rfl) (by kernel_rfl) (by kernel_rfl) (by kernel_rfl) (by decide) (fun w' hφ => (Els.cons (c := [.int .u8 (IntKind.wrap .u8 (IntKind.wrap .i64 (48 + a0)))]) (rfl) (Els.nil _ _ _)))) (by kernel_rfl) (fun p2_3 => ?_)
     refine O.mono (fun w hS => hS.freezeH (h := ((some ⟨p2_3, 0, none⟩, 1) : Hd)) (xs := ([(IntKind.wrap .u8 (IntKind.wrap .i64 (48 + a0)))] : List Int))) ?_
     refine O.q (v := .string (strOfNums ([(IntKind.wrap .u8 (IntKind.wrap .i64 (48 + a0)))] : List Int))) (some 9) (Qu.str (t := 27) (u := 9) (x := .tmp 8) (h := ((some ⟨p2_3, 0, none⟩, 1) : Hd)) (xs := ([(IntKind.wrap .u8 (IntKind.wrap .i64 (48 + a0)))] : List Int)) 0 (by kernel_rfl) (by kernel_rfl) (by kernel_rfl) (by kernel_rfl) rfl) (by kernel_rfl) ?_
     refine O.pure 1 [] [2] [] (fr' := [(2, .string (strOfNums ([(IntKind.wrap .u8 (IntKind.wrap .i64 (48 + a0)))] : List Int)))]) (bx' := []) (by kernel_rfl) ?_
     refine O.nil (by kernel_rfl) ?_
     obtain rfl := Option.some.inj H
     exact J.doneS [] [] [] [] [] () (vs := [.string (strOfNums ([(IntKind.wrap .u8 (IntKind.wrap .i64 (48 + a0)))] : List Int))]) (by kernel_rfl) (by kernel_rfl) (by kernel_rfl) (by kernel_rfl) (by kernel_rfl) (by decide)
    ·refine J.condF (x := .tmp 4) (t := (decide (a0 < 10))) (by kernel_rfl) (by kernel_rfl) hc1 ?_
     refine J.skip (by kernel_rfl) ?_
     refine J.seq (by kernel_rfl) ?_
     obtain ⟨z3_1, hz3_1, H⟩ := bindE H
     have hz3_1a := (divE hz3_1).1
     obtain ⟨x3_2, hx3_2, H⟩ := bindE H
     obtain ⟨z3_4, hz3_4, H⟩ := bindE H
     have hz3_4a := (remE hz3_4).1
     obtain ⟨z3_9, hz3_9, H⟩ := bindE H
     have hz3_9a := catE hz3_9
     refine J.cutAt (γ := Nat) (fun q_ => [(2, .string (x3_2 ++ (strOfNums ([(IntKind.wrap .u8 (IntKind.wrap .i64 (48 + (a0.tmod 10))))] : List Int))))]) (fun q_ => St X w [] [] [] [] [Rd (Kd.int .u8) ((some ⟨q_, 0, none⟩, 1) : Hd).1 ((some ⟨q_, 0, none⟩, 1) : Hd).2 ([(IntKind.wrap .u8 (IntKind.wrap .i64 (48 + (a0.tmod 10))))] : List Int)]) (fun q_ => ?_) (fun hk_ => ?_)
     ·obtain p3_7 := q_
      obtain rfl := Option.some.inj H
      exact J.doneS [] [] [] [] [] () (vs := [.string (x3_2 ++ (strOfNums ([(IntKind.wrap .u8 (IntKind.wrap .i64 (48 + (a0.tmod 10))))] : List Int)))]) (by kernel_rfl) (by kernel_rfl) (by kernel_rfl) (by kernel_rfl) (by kernel_rfl) (by decide)
     ·refine J.drawS (by kernel_rfl) [(0, some 10, .int .i64 a0), (3, some 13, .int .i64 a0), (5, some 15, .int .i64 (IntKind.wrap .i64 (48 + (a0.tmod 10)))), (6, some 16, .int .u8 (IntKind.wrap .u8 (IntKind.wrap .i64 (48 + (a0.tmod 10))))), (1, some 11, .int .i64 (IntKind.wrap .i64 (a0.tdiv 10))), (4, some 14, .int .i64 (a0.tmod 10))] ([0, 3, 5, 6] ++ [1, 4]) (by kernel_rfl) ?_
      refine D.mid (cs := [2, 7]) [0, 3, 5, 6] [1, 4] [] [] (by kernel_rfl) (by kernel_rfl) (⟨QuAt.mk (v := .int .i64 (IntKind.wrap .i64 (a0.tdiv 10))) (some 11) (by kernel_rfl) (by kernel_rfl) (Qu.div (t := 3) (t' := 3) (x := .tmp 10) (y := .const (.int .i64 10)) (a := a0) (b := 10) (by kernel_rfl) (by kernel_rfl) (by kernel_rfl) hz3_1a), QuAt.mk (v := .int .i64 (a0.tmod 10)) (some 14) (by kernel_rfl) (by kernel_rfl) (Qu.rem (t := 3) (t' := 3) (x := .tmp 13) (y := .const (.int .i64 10)) (a := a0) (b := 10) (by kernel_rfl) (by kernel_rfl) (by kernel_rfl) hz3_4a), trivial⟩) (by kernel_rfl) ⟨?_, ?_, trivial⟩
      ·refine EvStep.mk (some 12) (new := fun _ => []) ([0, 3, 5, 6] ++ [4]) (by kernel_rfl) (Ev.call0 (xs := [.tmp 11]) [] (by kernel_rfl) (by kernel_rfl) (fun w hS => ih (IntKind.wrap .i64 (a0.tdiv 10))  _ _ w hS hx3_2)) (fun _ => by kernel_rfl) (fun _ => ?_)
       refine D.mid (cs := [7]) [0, 3, 5, 6] [4] [] [] (by kernel_rfl) (by kernel_rfl) (⟨QuAt.mk (v := .int .i64 (a0.tmod 10)) (some 14) (by kernel_rfl) (by kernel_rfl) (Qu.rem (t := 3) (t' := 3) (x := .tmp 13) (y := .const (.int .i64 10)) (a := a0) (b := 10) (by kernel_rfl) (by kernel_rfl) (by kernel_rfl) hz3_4a), trivial⟩) (by kernel_rfl) ⟨?_, trivial⟩
       refine EvStep.mk (some 17) (new := fun p3_7 => [(8, some 18, .string (strOfNums ([(IntKind.wrap .u8 (IntKind.wrap .i64 (48 + (a0.tmod 10))))] : List Int))), (9, some 19, .string (x3_2 ++ (strOfNums ([(IntKind.wrap .u8 (IntKind.wrap .i64 (48 + (a0.tmod 10))))] : List Int)))), (10, some 2, .string (x3_2 ++ (strOfNums ([(IntKind.wrap .u8 (IntKind.wrap .i64 (48 + (a0.tmod 10))))] : List Int))))]) ([0, 3, 5, 10] ++ [4, 8, 9]) (by kernel_rfl) (Ev.lit (t := 27) (len := 1) (parts := #[(0, .tmp 16)]) (ps := [(0, .int .u8 (IntKind.wrap .u8 (IntKind.wrap .i64 (48 + (a0.tmod 10)))))]) (cs := [.int .u8 (IntKind.wrap .u8 (IntKind.wrap .i64 (48 + (a0.tmod 10))))]) (e := 5) (Kd.int .u8) ([(IntKind.wrap .u8 (IntKind.wrap .i64 (48 + (a0.tmod 10))))] : List Int) (by kernel_rfl) (by kernel_rfl) (by kernel_rfl) (by kernel_rfl) (by kernel_rfl) (by decide) (fun w' hφ => (Els.cons (c := [.int .u8 (IntKind.wrap .u8 (IntKind.wrap .i64 (48 + (a0.tmod 10))))]) (rfl) (Els.nil _ _ _)))) (fun p3_7 => by kernel_rfl) (fun p3_7 => ?_)
       refine D.mono (fun w hS => hS.freezeH (h := ((some ⟨p3_7, 0, none⟩, 1) : Hd)) (xs := ([(IntKind.wrap .u8 (IntKind.wrap .i64 (48 + (a0.tmod 10))))] : List Int))) ?_
       refine D.fin (fr' := [(2, .string (x3_2 ++ (strOfNums ([(IntKind.wrap .u8 (IntKind.wrap .i64 (48 + (a0.tmod 10))))] : List Int))))]) [0, 3, 5, 10] [4, 8, 9] [] [] [2] (by kernel_rfl) (by kernel_rfl) (⟨QuAt.mk (v := .int .i64 (a0.tmod 10)) (some 14) (by kernel_rfl) (by kernel_rfl) (Qu.rem (t := 3) (t' := 3) (x := .tmp 13) (y := .const (.int .i64 10)) (a := a0) (b := 10) (by kernel_rfl) (by kernel_rfl) (by kernel_rfl) hz3_4a), QuAt.mk (v := .string (strOfNums ([(IntKind.wrap .u8 (IntKind.wrap .i64 (48 + (a0.tmod 10))))] : List Int))) (some 18) (by kernel_rfl) (by kernel_rfl) (Qu.str (t := 27) (u := 9) (x := .tmp 17) (h := ((some ⟨p3_7, 0, none⟩, 1) : Hd)) (xs := ([(IntKind.wrap .u8 (IntKind.wrap .i64 (48 + (a0.tmod 10))))] : List Int)) 0 (by kernel_rfl) (by kernel_rfl) (by kernel_rfl) (by kernel_rfl) rfl), QuAt.mk (v := .string (x3_2 ++ (strOfNums ([(IntKind.wrap .u8 (IntKind.wrap .i64 (48 + (a0.tmod 10))))] : List Int)))) (some 19) (by kernel_rfl) (by kernel_rfl) (Qu.cat (t := 9) (t' := 9) (x := .tmp 12) (y := .tmp 18) (a := x3_2) (b := (strOfNums ([(IntKind.wrap .u8 (IntKind.wrap .i64 (48 + (a0.tmod 10))))] : List Int))) (by kernel_rfl) (by kernel_rfl) (by kernel_rfl) hz3_9a), trivial⟩) (by kernel_rfl) ?_
       exact J.conv2 [2] [0] [] [] (by kernel_rfl) (by kernel_rfl) (by kernel_rfl) (by kernel_rfl) (by decide) (hk_ p3_7)
      ·refine EvStep.mk (some 17) (new := fun p3_7 => [(8, some 18, .string (strOfNums ([(IntKind.wrap .u8 (IntKind.wrap .i64 (48 + (a0.tmod 10))))] : List Int)))]) ([0, 3, 5] ++ [1, 4, 8]) (by kernel_rfl) (Ev.lit (t := 27) (len := 1) (parts := #[(0, .tmp 16)]) (ps := [(0, .int .u8 (IntKind.wrap .u8 (IntKind.wrap .i64 (48 + (a0.tmod 10)))))]) (cs := [.int .u8 (IntKind.wrap .u8 (IntKind.wrap .i64 (48 + (a0.tmod 10))))]) (e := 5) (Kd.int .u8) ([(IntKind.wrap .u8 (IntKind.wrap .i64 (48 + (a0.tmod 10))))] : List Int) (by kernel_rfl) (by kernel_rfl) (by kernel_rfl) (by kernel_rfl) (by kernel_rfl) (by decide) (fun w' hφ => (Els.cons (c := [.int .u8 (IntKind.wrap .u8 (IntKind.wrap .i64 (48 + (a0.tmod 10))))]) (rfl) (Els.nil _ _ _)))) (fun p3_7 => by kernel_rfl) (fun p3_7 => ?_)
       refine D.mono (fun w hS => hS.freezeH (h := ((some ⟨p3_7, 0, none⟩, 1) : Hd)) (xs := ([(IntKind.wrap .u8 (IntKind.wrap .i64 (48 + (a0.tmod 10))))] : List Int))) ?_
       refine D.mid (cs := [2]) [0, 3, 5] [1, 4, 8] [] [] (by kernel_rfl) (by kernel_rfl) (⟨QuAt.mk (v := .int .i64 (IntKind.wrap .i64 (a0.tdiv 10))) (some 11) (by kernel_rfl) (by kernel_rfl) (Qu.div (t := 3) (t' := 3) (x := .tmp 10) (y := .const (.int .i64 10)) (a := a0) (b := 10) (by kernel_rfl) (by kernel_rfl) (by kernel_rfl) hz3_1a), QuAt.mk (v := .int .i64 (a0.tmod 10)) (some 14) (by kernel_rfl) (by kernel_rfl) (Qu.rem (t := 3) (t' := 3) (x := .tmp 13) (y := .const (.int .i64 10)) (a := a0) (b := 10) (by kernel_rfl) (by kernel_rfl) (by kernel_rfl) hz3_4a), QuAt.mk (v := .string (strOfNums ([(IntKind.wrap .u8 (IntKind.wrap .i64 (48 + (a0.tmod 10))))] : List Int))) (some 18) (by kernel_rfl) (by kernel_rfl) (Qu.str (t := 27) (u := 9) (x := .tmp 17) (h := ((some ⟨p3_7, 0, none⟩, 1) : Hd)) (xs := ([(IntKind.wrap .u8 (IntKind.wrap .i64 (48 + (a0.tmod 10))))] : List Int)) 0 (by kernel_rfl) (by kernel_rfl) (by kernel_rfl) (by kernel_rfl) rfl), trivial⟩) (by kernel_rfl) ⟨?_, trivial⟩
       refine EvStep.mk (some 12) (new := fun _ => [(9, some 19, .string (x3_2 ++ (strOfNums ([(IntKind.wrap .u8 (IntKind.wrap .i64 (48 + (a0.tmod 10))))] : List Int)))), (10, some 2, .string (x3_2 ++ (strOfNums ([(IntKind.wrap .u8 (IntKind.wrap .i64 (48 + (a0.tmod 10))))] : List Int))))]) ([0, 3, 5, 10] ++ [4, 8, 9]) (by kernel_rfl) (Ev.call0 (xs := [.tmp 11]) [] (by kernel_rfl) (by kernel_rfl) (fun w hS => ih (IntKind.wrap .i64 (a0.tdiv 10))  _ _ w hS hx3_2)) (fun _ => by kernel_rfl) (fun _ => ?_)
       refine D.fin (fr' := [(2, .string (x3_2 ++ (strOfNums ([(IntKind.wrap .u8 (IntKind.wrap .i64 (48 + (a0.tmod 10))))] : List Int))))]) [0, 3, 5, 10] [4, 8, 9] [] [] [2] (by kernel_rfl) (by kernel_rfl) (⟨QuAt.mk (v := .int .i64 (a0.tmod 10)) (some 14) (by kernel_rfl) (by kernel_rfl) (Qu.rem (t := 3) (t' := 3) (x := .tmp 13) (y := .const (.int .i64 10)) (a := a0) (b := 10) (by kernel_rfl) (by kernel_rfl) (by kernel_rfl) hz3_4a), QuAt.mk (v := .string (strOfNums ([(IntKind.wrap .u8 (IntKind.wrap .i64 (48 + (a0.tmod 10))))] : List Int))) (some 18) (by kernel_rfl) (by kernel_rfl) (Qu.str (t := 27) (u := 9) (x := .tmp 17) (h := ((some ⟨p3_7, 0, none⟩, 1) : Hd)) (xs := ([(IntKind.wrap .u8 (IntKind.wrap .i64 (48 + (a0.tmod 10))))] : List Int)) 0 (by kernel_rfl) (by kernel_rfl) (by kernel_rfl) (by kernel_rfl) rfl), QuAt.mk (v := .string (x3_2 ++ (strOfNums ([(IntKind.wrap .u8 (IntKind.wrap .i64 (48 + (a0.tmod 10))))] : List Int)))) (some 19) (by kernel_rfl) (by kernel_rfl) (Qu.cat (t := 9) (t' := 9) (x := .tmp 12) (y := .tmp 18) (a := x3_2) (b := (strOfNums ([(IntKind.wrap .u8 (IntKind.wrap .i64 (48 + (a0.tmod 10))))] : List Int))) (by kernel_rfl) (by kernel_rfl) (by kernel_rfl) hz3_9a), trivial⟩) (by kernel_rfl) ?_
       exact J.conv2 [2] [0] [] [] (by kernel_rfl) (by kernel_rfl) (by kernel_rfl) (by kernel_rfl) (by decide) (hk_ p3_7)
theorem ckpt_digits.con (K : Nat) (a0 : Int) (r : ByteArray) (X : Nat → Nat → Prop) (w : World) (hS : St X w [] [] [] [] [] w) (H : ckpt_digits.f K a0 = some r) : Cn Try.prog 39 [.int .i64 a0] X w [] (fun i : Unit => .string r) (fun i => []) (fun i => []) (fun i => []) := ckpt_digits.con_r K K a0 r X w hS H
/-! ### haywain/ckpt.File: function 14 -/
def ckpt_File.f (K : Nat) (a0 : Int) : Option ByteArray := (ckpt_fair.f K a0).bind fun x1_1 => cond (!x1_1) (some ((⟨#[]⟩ : ByteArray))) ((ckpt_digits.f K a0).bind fun x3_1 => (catO (⟨#[99]⟩ : ByteArray) x3_1).bind fun z3_2 => some (((⟨#[99]⟩ : ByteArray) ++ x3_1)))
set_option maxRecDepth 100000 in
set_option maxHeartbeats 1000000 in
theorem ckpt_File.con (K : Nat) (a0 : Int) (r : ByteArray) (X : Nat → Nat → Prop) (w : World) (hS : St X w [] [] [] [] [] w) (H : ckpt_File.f K a0 = some r) :
    Cn Try.prog 14 [.int .i64 a0] X w [] (fun i : Unit => .string r) (fun i => []) (fun i => []) (fun i => []) := by
 refine Cn.of Try.func14 (by kernel_rfl) hS ?_
 unfold ckpt_File.f at H
 refine J.seq (by kernel_rfl) ?_
 refine J.region (by kernel_rfl) ?_
 refine O.pure 1 [] [0] [] (fr' := [(0, .int .i64 a0)]) (bx' := []) (by kernel_rfl) ?_
 refine O.nil (by kernel_rfl) ?_
 refine J.seq (by kernel_rfl) ?_
 refine J.seq (by kernel_rfl) ?_
 obtain ⟨x1_1, hx1_1, H⟩ := bindE H
 refine J.region (by kernel_rfl) ?_
 refine O.pure 1 [] [0, 3] [] (fr' := [(0, .int .i64 a0), (3, .int .i64 a0)]) (bx' := []) (by kernel_rfl) ?_
 refine O.e (some 4) (Ev.call0 (xs := [.tmp 3]) [] (by kernel_rfl) (by kernel_rfl) (fun w hS => ckpt_fair.con K a0  _ _ w hS hx1_1)) (by kernel_rfl) (fun _ => ?_)
 refine O.pure 1 [] [0, 5] [] (fr' := [(0, .int .i64 a0), (5, .bool (!x1_1))]) (bx' := []) (by kernel_rfl) ?_
 refine O.nil (by kernel_rfl) ?_
 rcases condE H with ⟨hc1, H⟩ | ⟨hc1, H⟩
 ·refine J.condT (x := .tmp 5) (t := (!x1_1)) (by kernel_rfl) (by kernel_rfl) hc1 ?_
  refine J.seq (by kernel_rfl) ?_
  refine J.region (by kernel_rfl) ?_
  refine O.pure 1 [] [2] [] (fr' := [(2, .string (⟨#[]⟩ : ByteArray))]) (bx' := []) (by kernel_rfl) ?_
  refine O.nil (by kernel_rfl) ?_
  obtain rfl := Option.some.inj H
  exact J.doneS [] [] [] [] [] () (vs := [.string (⟨#[]⟩ : ByteArray)]) (by kernel_rfl) (by kernel_rfl) (by kernel_rfl) (by kernel_rfl) (by kernel_rfl) (by decide)
 ·refine J.condF (x := .tmp 5) (t := (!x1_1)) (by kernel_rfl) (by kernel_rfl) hc1 ?_
  refine J.skip (by kernel_rfl) ?_
  refine J.seq (by kernel_rfl) ?_
  obtain ⟨x3_1, hx3_1, H⟩ := bindE H
  obtain ⟨z3_2, hz3_2, H⟩ := bindE H
  have hz3_2a := catE hz3_2
  refine J.region (by kernel_rfl) ?_
  refine O.pure 1 [] [6] [] (fr' := [(6, .int .i64 a0)]) (bx' := []) (by kernel_rfl) ?_
  refine O.e (some 7) (Ev.call0 (xs := [.tmp 6]) [] (by kernel_rfl) (by kernel_rfl) (fun w hS => ckpt_digits.con K a0  _ _ w hS hx3_1)) (by kernel_rfl) (fun _ => ?_)
  refine O.q (v := .string ((⟨#[99]⟩ : ByteArray) ++ x3_1)) (some 8) (Qu.cat (t := 9) (t' := 9) (x := .const (.string (⟨#[99]⟩ : ByteArray))) (y := .tmp 7) (a := (⟨#[99]⟩ : ByteArray)) (b := x3_1) (by kernel_rfl) (by kernel_rfl) (by kernel_rfl) hz3_2a) (by kernel_rfl) ?_
  refine O.pure 1 [] [2] [] (fr' := [(2, .string ((⟨#[99]⟩ : ByteArray) ++ x3_1))]) (bx' := []) (by kernel_rfl) ?_
  refine O.nil (by kernel_rfl) ?_
  obtain rfl := Option.some.inj H
  exact J.doneS [] [] [] [] [] () (vs := [.string ((⟨#[99]⟩ : ByteArray) ++ x3_1)]) (by kernel_rfl) (by kernel_rfl) (by kernel_rfl) (by kernel_rfl) (by kernel_rfl) (by decide)
/-! ### haywain/disk.Names: function 28 -/
def disk_Names.l1 (K : Nat) (x2_1 : S24) : Nat → ((List ByteArray) × Int) → Option (List ByteArray)
  | 0, _ => none
  | k + 1, s1 => cond (decide (s1.2 < (x2_1.f0.length : Int))) ((idxO x2_1.f0 s1.2).bind fun x4_0 => (appO 16 s1.1 ([x4_0.f0] : List ByteArray)).bind fun y5_4 => disk_Names.l1 K x2_1 k ((s1.1 ++ ([x4_0.f0] : List ByteArray)), (IntKind.wrap .i64 (s1.2 + 1)))) (some (s1.1))
def disk_Names.f (K : Nat) (a0 : S24) : Option (List ByteArray) := (disk_own.f K a0).bind fun x2_1 => disk_Names.l1 K x2_1 K (([] : List ByteArray), 0)
set_option maxRecDepth 100000 in
set_option maxHeartbeats 1000000 in
theorem disk_Names.con (K : Nat) (a0 : S24) (h0 : Hd) (r : (List ByteArray)) (X : Nat → Nat → Prop) (w : World) (hS : St X w [] [] [] [] [Rd kd70 h0.1 h0.2 a0.f0] w) (H : disk_Names.f K a0 = some r) :
    Cn Try.prog 28 [.agg #[.slice h0.1 a0.f0.length h0.2]] X w [] (fun i : Hd => .slice i.1 r.length i.2) (fun i => []) (fun i => [mkRow Kd.string 9 (.slice i.1 r.length i.2) r]) (fun i => []) := by
 refine Cn.of Try.func28 (by kernel_rfl) hS ?_
 unfold disk_Names.f at H
 refine J.seq (by kernel_rfl) ?_
 refine J.region (by kernel_rfl) ?_
 refine O.e (some 1) (Ev.box (t := 24) (x := .tmp 0) (v := .agg #[.slice h0.1 a0.f0.length h0.2]) (by kernel_rfl) (by kernel_rfl)) (by kernel_rfl) (fun p0_0 => ?_)
 refine O.pure 1 [] [1] [] (fr' := [(1, .pointer (some ⟨p0_0, 0, none⟩))]) (bx' := [⟨p0_0, [.slice h0.1 a0.f0.length h0.2], 24⟩]) (by kernel_rfl) ?_
 refine O.nil (by kernel_rfl) ?_
 refine J.seq (by kernel_rfl) ?_
 refine J.region (by kernel_rfl) ?_
 refine O.pure 1 [] [1, 3] [] (fr' := [(1, .pointer (some ⟨p0_0, 0, none⟩)), (3, .slice none 0 0)]) (bx' := [⟨p0_0, [.slice h0.1 a0.f0.length h0.2], 24⟩]) (by kernel_rfl) ?_
 refine O.nil (by kernel_rfl) ?_
 refine J.seq (by kernel_rfl) ?_
 refine J.seq (by kernel_rfl) ?_
 obtain ⟨x2_1, hx2_1, H⟩ := bindE H
 refine J.region (by kernel_rfl) ?_
 refine O.pure 1 [(0, 0)] [3, 6] [p0_0, 0] (fr' := [(3, .slice none 0 0), (6, .agg #[.slice h0.1 a0.f0.length h0.2])]) (bx' := [⟨p0_0, [.slice h0.1 a0.f0.length h0.2], 24⟩]) (by kernel_rfl) ?_
 refine O.e (some 7) (Ev.call0 (xs := [.tmp 6]) [0] (by kernel_rfl) (by kernel_rfl) (fun w hS => disk_own.con K a0 h0  _ _ w hS hx2_1)) (by kernel_rfl) (fun p2_1 => ?_)
 refine O.pure 3 [] [3, 8, 9, 10] [] (fr' := [(3, .slice none 0 0), (8, .slice p2_1.1 x2_1.f0.length p2_1.2), (9, .int .i64 (x2_1.f0.length : Int)), (10, .int .i64 0)]) (bx' := [⟨p0_0, [.slice h0.1 a0.f0.length h0.2], 24⟩]) (by kernel_rfl) ?_
 refine O.nil (by kernel_rfl) ?_
 refine J.block (id := 0) (by kernel_rfl) ?_
 refine J.loopI (σ := (List ByteArray) × Int) (γ := Hd) (f := fun m_ s_ => disk_Names.l1 K x2_1 m_ s_) (fun s1 g1 => [(3, .slice g1.1 s1.1.length g1.2), (8, .slice p2_1.1 x2_1.f0.length p2_1.2), (9, .int .i64 (x2_1.f0.length : Int)), (10, .int .i64 s1.2)]) (fun s1 g1 => St X w [] [] [mkRow Kd.string 9 (.slice g1.1 s1.1.length g1.2) s1.1] [] [Rd kd70 h0.1 h0.2 a0.f0, Rd kd70 p2_1.1 p2_1.2 x2_1.f0]) K (([] : List ByteArray), 0) (none, 0) (by kernel_rfl) H (fun _ => rfl) (fun m_ s1 H ih1 g1 => ?_) (fun h_ => ?_)
 ·unfold disk_Names.l1 at H
  refine J.seq (by kernel_rfl) ?_
  refine J.region (by kernel_rfl) ?_
  refine O.pure 1 [] [3, 8, 9, 10, 11] [] (fr' := [(3, .slice g1.1 s1.1.length g1.2), (8, .slice p2_1.1 x2_1.f0.length p2_1.2), (9, .int .i64 (x2_1.f0.length : Int)), (10, .int .i64 s1.2), (11, .bool (decide (s1.2 < (x2_1.f0.length : Int))))]) (bx' := []) (by kernel_rfl) ?_
  refine O.nil (by kernel_rfl) ?_
  refine J.seq (by kernel_rfl) ?_
  rcases condE H with ⟨hc4, H⟩ | ⟨hc4, H⟩
  ·refine J.condT (x := .tmp 11) (t := (decide (s1.2 < (x2_1.f0.length : Int)))) (by kernel_rfl) (by kernel_rfl) hc4 ?_
   refine J.skip (by kernel_rfl) ?_
   refine J.seq (by kernel_rfl) ?_
   refine J.block (id := 1) (by kernel_rfl) ?_
   refine J.seq (by kernel_rfl) ?_
   obtain ⟨x4_0, hx4_0, H⟩ := bindE H
   obtain ⟨hx4_0a, hx4_0⟩ := idxE hx4_0
   refine J.region (by kernel_rfl) ?_
   refine O.open (d := kd70) (h := p2_1) (i := s1.2) 1 rfl hx4_0 (op70 _) (fun p4_0 hp4_0A => ?_)
   refine O.q (v := .pointer (some ⟨p4_0.1, p4_0.2.1 + s1.2.toNat * 3, none⟩)) (some 12) (Qu.idx (t := 22) (x := .tmp 8) (y := .tmp 10) (c := p2_1.2) (kk := .i64) (sz := 3) (by kernel_rfl) (by kernel_rfl) (by kernel_rfl) (by kernel_rfl) hx4_0a (idx_lt hx4_0) hp4_0A) (by kernel_rfl) ?_
   refine O.pure 1 [(0, 0)] [3, 8, 9, 10, 13] [p4_0.1, p4_0.2.1 + s1.2.toNat * 3] (fr' := [(3, .slice g1.1 s1.1.length g1.2), (8, .slice p2_1.1 x2_1.f0.length p2_1.2), (9, .int .i64 (x2_1.f0.length : Int)), (10, .int .i64 s1.2), (13, .agg #[.string x4_0.f0, .slice p4_0.2.2.1 x4_0.f1.length p4_0.2.2.2, .int .i64 x4_0.f2])]) (bx' := []) (by kernel_rfl) ?_
   refine O.e (some 5) (Ev.alloc (t := 70) (z := .agg #[.string (⟨#[]⟩ : ByteArray), .slice none 0 0, .int .i64 0]) (by kernel_rfl) (by kernel_rfl)) (by kernel_rfl) (fun p4_2 => ?_)
   refine O.pure 1 [(0, 0)] [3, 5, 8, 9, 10] [p4_2, 0] (fr' := [(3, .slice g1.1 s1.1.length g1.2), (5, .pointer (some ⟨p4_2, 0, none⟩)), (8, .slice p2_1.1 x2_1.f0.length p2_1.2), (9, .int .i64 (x2_1.f0.length : Int)), (10, .int .i64 s1.2)]) (bx' := [⟨p4_2, [.string x4_0.f0, .slice p4_0.2.2.1 x4_0.f1.length p4_0.2.2.2, .int .i64 x4_0.f2], 70⟩]) (by kernel_rfl) ?_
   refine O.nil (by kernel_rfl) ?_
   obtain ⟨y5_4, hy5_4, H⟩ := bindE H
   have hy5_4a := (appE hy5_4).1
   refine J.region (by kernel_rfl) ?_
   refine O.pure 3 [(0, 0)] [3, 8, 9, 10, 14, 16] [p4_2, 0] (fr' := [(3, .slice g1.1 s1.1.length g1.2), (8, .slice p2_1.1 x2_1.f0.length p2_1.2), (9, .int .i64 (x2_1.f0.length : Int)), (10, .int .i64 s1.2), (14, .slice g1.1 s1.1.length g1.2), (16, .string x4_0.f0)]) (bx' := [⟨p4_2, [.string x4_0.f0, .slice p4_0.2.2.1 x4_0.f1.length p4_0.2.2.2, .int .i64 x4_0.f2], 70⟩]) (by kernel_rfl) ?_
   refine O.e (some 17) (Ev.lit (t := 64) (len := 1) (parts := #[(0, .tmp 16)]) (ps := [(0, .string x4_0.f0)]) (cs := [.string x4_0.f0]) (e := 9) Kd.string ([x4_0.f0] : List ByteArray) (by kernel_rfl) (by kernel_rfl) (by kernel_rfl) (by kernel_rfl) (by kernel_rfl) (by decide) (fun w' hφ => (Els.cons (c := [.string x4_0.f0]) (rfl) (Els.nil _ _ _)))) (by kernel_rfl) (fun p5_3 => ?_)
   refine O.e (some 18) (Ev.appLit (x := .tmp 14) (y := .tmp 17) (t := 64) (bytes := 16) (by kernel_rfl) (by kernel_rfl) (by kernel_rfl) (by kernel_rfl) (by kernel_rfl) (by decide) hy5_4a) (by kernel_rfl) (fun p5_4 => ?_)
   refine O.pure 1 [] [3, 8, 9, 10] [] (fr' := [(3, .slice p5_4.1 (s1.1 ++ ([x4_0.f0] : List ByteArray)).length p5_4.2), (8, .slice p2_1.1 x2_1.f0.length p2_1.2), (9, .int .i64 (x2_1.f0.length : Int)), (10, .int .i64 s1.2)]) (bx' := [⟨p4_2, [.string x4_0.f0, .slice p4_0.2.2.1 x4_0.f1.length p4_0.2.2.2, .int .i64 x4_0.f2], 70⟩]) (by kernel_rfl) ?_
   refine O.nil (by kernel_rfl) ?_
   refine J.out ?_
   refine J.region (by kernel_rfl) ?_
   refine O.pure 2 [] [3, 8, 9, 10] [] (fr' := [(3, .slice p5_4.1 (s1.1 ++ ([x4_0.f0] : List ByteArray)).length p5_4.2), (8, .slice p2_1.1 x2_1.f0.length p2_1.2), (9, .int .i64 (x2_1.f0.length : Int)), (10, .int .i64 (IntKind.wrap .i64 (s1.2 + 1)))]) (bx' := [⟨p4_2, [.string x4_0.f0, .slice p4_0.2.2.1 x4_0.f1.length p4_0.2.2.2, .int .i64 x4_0.f2], 70⟩]) (by kernel_rfl) ?_
   refine O.nil (by kernel_rfl) ?_
   exact J.conv2 [3, 8, 9, 10] [1, 2] [] [0] (by kernel_rfl) (by kernel_rfl) (by kernel_rfl) (by kernel_rfl) (by decide) (ih1 ((s1.1 ++ ([x4_0.f0] : List ByteArray)), (IntKind.wrap .i64 (s1.2 + 1))) p5_4 H)
  ·refine J.condF (x := .tmp 11) (t := (decide (s1.2 < (x2_1.f0.length : Int)))) (by kernel_rfl) (by kernel_rfl) hc4 ?_
   refine J.exit (id := 0) (by kernel_rfl) rfl ?_
   refine J.seq (by kernel_rfl) ?_
   refine J.region (by kernel_rfl) ?_
   refine O.pure 2 [] [2] [] (fr' := [(2, .slice g1.1 s1.1.length g1.2)]) (bx' := []) (by kernel_rfl) ?_
   refine O.nil (by kernel_rfl) ?_
   obtain rfl := Option.some.inj H
   exact J.doneS [] [] [] [] [0] g1 (vs := [.slice g1.1 s1.1.length g1.2]) (by kernel_rfl) (by kernel_rfl) (by kernel_rfl) (by kernel_rfl) (by kernel_rfl) (by decide)
 ·refine J.nilrow Kd.string 9 ?_
  refine J.mono (fun w hS => hS.rowsel [1, 0] rfl (by decide)) ?_
  refine J.mono (fun w hS => hS.freezeH (h := p2_1) (xs := x2_1.f0)) ?_
  exact J.conv2 [3, 8, 9, 10] [1, 0] [] [0] (by kernel_rfl) (by kernel_rfl) (by kernel_rfl) (by kernel_rfl) (by decide) h_
/-! ### haywain/code.Num: function 42 -/
def code_Num.f (K : Nat) (a0 : Int) : Option (List Int) := (code_put.f K (IntKind.wrap .u64 a0) 8).bind fun x1_2 => some (x1_2)
set_option maxRecDepth 100000 in
set_option maxHeartbeats 1000000 in
theorem code_Num.con (K : Nat) (a0 : Int) (r : (List Int)) (X : Nat → Nat → Prop) (w : World) (hS : St X w [] [] [] [] [] w) (H : code_Num.f K a0 = some r) :
    Cn Try.prog 42 [.int .i64 a0] X w [] (fun i : Hd => .slice i.1 r.length i.2) (fun i => []) (fun i => [mkRow (Kd.int .u8) 5 (.slice i.1 r.length i.2) r]) (fun i => []) := by
 refine Cn.of Try.func42 (by kernel_rfl) hS ?_
 unfold code_Num.f at H
 refine J.seq (by kernel_rfl) ?_
 refine J.region (by kernel_rfl) ?_
 refine O.pure 1 [] [0] [] (fr' := [(0, .int .i64 a0)]) (bx' := []) (by kernel_rfl) ?_
 refine O.nil (by kernel_rfl) ?_
 refine J.seq (by kernel_rfl) ?_
 obtain ⟨x1_2, hx1_2, H⟩ := bindE H
 refine J.region (by kernel_rfl) ?_
 refine O.pure 2 [] [4] [] (fr' := [(4, .int .u64 (IntKind.wrap .u64 a0))]) (bx' := []) (by kernel_rfl) ?_
 refine O.e (some 5) (Ev.call0 (xs := [.tmp 4, .const (.int .i64 8)]) [] (by kernel_rfl) (by kernel_rfl) (fun w hS => code_put.con K (IntKind.wrap .u64 a0) 8  _ _ w hS hx1_2)) (by kernel_rfl) (fun p1_2 => ?_)
 refine O.pure 1 [] [2] [] (fr' := [(2, .slice p1_2.1 x1_2.length p1_2.2)]) (bx' := []) (by kernel_rfl) ?_
 refine O.nil (by kernel_rfl) ?_
 obtain rfl := Option.some.inj H
 exact J.doneS [] [] [] [] [0] p1_2 (vs := [.slice p1_2.1 x1_2.length p1_2.2]) (by kernel_rfl) (by kernel_rfl) (by kernel_rfl) (by kernel_rfl) (by kernel_rfl) (by decide)
/-! ### haywain/ckpt.Save: function 16 -/
def ckpt_Save.l17 (K : Nat) (x11_1 : ByteArray) (x13_1 : List ByteArray) : Nat → ((List S48) × (List S48) × Int) → Option ((List S48) × (List S48))
  | 0, _ => none
  | k + 1, s17 => cond (decide (s17.2.2 < (x13_1.length : Int))) ((idxO x13_1 s17.2.2).bind fun x15_0 => cond (x15_0.toList == x11_1.toList) ((appO 48 s17.1 ([(⟨1, x15_0, ([] : List Int)⟩ : S48)] : List S48)).bind fun y17_4 => ckpt_Save.l17 K x11_1 x13_1 k ((s17.1 ++ ([(⟨1, x15_0, ([] : List Int)⟩ : S48)] : List S48)), s17.2.1, (IntKind.wrap .i64 (s17.2.2 + 1)))) ((sidxO x15_0 0).bind fun x18_1 => cond (x18_1 == 99) ((appO 48 s17.2.1 ([(⟨1, x15_0, ([] : List Int)⟩ : S48)] : List S48)).bind fun y19_4 => ckpt_Save.l17 K x11_1 x13_1 k (s17.1, (s17.2.1 ++ ([(⟨1, x15_0, ([] : List Int)⟩ : S48)] : List S48)), (IntKind.wrap .i64 (s17.2.2 + 1)))) (ckpt_Save.l17 K x11_1 x13_1 k (s17.1, s17.2.1, (IntKind.wrap .i64 (s17.2.2 + 1)))))) (some ((s17.1, s17.2.1)))
def ckpt_Save.f (K : Nat) (a0 : S24) (a1 : Int) (a2 : List Int) : Option ((List S48) × Int) := (ckpt_fair.f K a1).bind fun x1_1 => cond (!x1_1) (some ((([] : List S48), 1))) ((code_Frame.f K a2).bind fun x3_1 => cond (x3_1.2 != 0) (some ((([] : List S48), x3_1.2))) ((ckpt_read.f K a0).bind fun x6_1 => cond (!x6_1.2.2.2) (some ((([] : List S48), 2))) (cond (decide (x6_1.2.1 < x6_1.2.2.1)) (some ((([] : List S48), 6))) (cond (decide (a1 ≤ x6_1.1)) (some ((([] : List S48), 6))) ((ckpt_File.f K a1).bind fun x11_1 => (disk_Names.f K a0).bind fun x13_1 => (ckpt_Save.l17 K x11_1 x13_1 K (([] : List S48), ([] : List S48), 0) : Option ((List S48) × (List S48))).bind fun o6 : (List S48) × (List S48) => (code_Num.f K a1).bind fun x21_1 => (code_Frame.f K x21_1).bind fun x21_2 => (appO 48 o6.1 ([(⟨2, x11_1, x3_1.1⟩ : S48), (⟨3, x11_1, ([] : List Int)⟩ : S48), (⟨2, (⟨#[109]⟩ : ByteArray), x21_2.1⟩ : S48), (⟨3, (⟨#[109]⟩ : ByteArray), ([] : List Int)⟩ : S48)] : List S48)).bind fun y22_10 => (appO 48 (o6.1 ++ ([(⟨2, x11_1, x3_1.1⟩ : S48), (⟨3, x11_1, ([] : List Int)⟩ : S48), (⟨2, (⟨#[109]⟩ : ByteArray), x21_2.1⟩ : S48), (⟨3, (⟨#[109]⟩ : ByteArray), ([] : List Int)⟩ : S48)] : List S48)) o6.2).bind fun y23_2 => some ((((o6.1 ++ ([(⟨2, x11_1, x3_1.1⟩ : S48), (⟨3, x11_1, ([] : List Int)⟩ : S48), (⟨2, (⟨#[109]⟩ : ByteArray), x21_2.1⟩ : S48), (⟨3, (⟨#[109]⟩ : ByteArray), ([] : List Int)⟩ : S48)] : List S48)) ++ o6.2), 0)))))))
set_option maxRecDepth 100000 in
set_option maxHeartbeats 1000000 in
theorem ckpt_Save.con (K : Nat) (a0 : S24) (a1 : Int) (a2 : List Int) (h0 : Hd) (h1 : Hd) (r : ((List S48) × Int)) (X : Nat → Nat → Prop) (w : World) (hS : St X w [] [] [] [] [Rd kd70 h0.1 h0.2 a0.f0, Rd (Kd.int .u8) h1.1 h1.2 a2] w) (H : ckpt_Save.f K a0 a1 a2 = some r) :
    Cn Try.prog 16 [.agg #[.slice h0.1 a0.f0.length h0.2], .int .i64 a1, .slice h1.1 a2.length h1.2] X w [] (fun i : Hd => .tuple #[.slice i.1 r.1.length i.2, .int .i64 r.2]) (fun i => []) (fun i => [mkRow kd48 48 (.slice i.1 r.1.length i.2) r.1]) (fun i => []) := by
 refine Cn.of Try.func16 (by kernel_rfl) hS ?_
 unfold ckpt_Save.f at H
 refine J.seq (by kernel_rfl) ?_
 refine J.region (by kernel_rfl) ?_
 refine O.e (some 3) (Ev.box (t := 24) (x := .tmp 0) (v := .agg #[.slice h0.1 a0.f0.length h0.2]) (by kernel_rfl) (by kernel_rfl)) (by kernel_rfl) (fun p0_0 => ?_)
 refine O.pure 2 [] [1, 2, 3] [] (fr' := [(1, .int .i64 a1), (2, .slice h1.1 a2.length h1.2), (3, .pointer (some ⟨p0_0, 0, none⟩))]) (bx' := [⟨p0_0, [.slice h0.1 a0.f0.length h0.2], 24⟩]) (by kernel_rfl) ?_
 refine O.nil (by kernel_rfl) ?_
 refine J.seq (by kernel_rfl) ?_
 refine J.seq (by kernel_rfl) ?_
 obtain ⟨x1_1, hx1_1, H⟩ := bindE H
 refine J.region (by kernel_rfl) ?_
 refine O.pure 1 [] [1, 2, 3, 21] [] (fr' := [(1, .int .i64 a1), (2, .slice h1.1 a2.length h1.2), (3, .pointer (some ⟨p0_0, 0, none⟩)), (21, .int .i64 a1)]) (bx' := [⟨p0_0, [.slice h0.1 a0.f0.length h0.2], 24⟩]) (by kernel_rfl) ?_
 refine O.e (some 22) (Ev.call0 (xs := [.tmp 21]) [] (by kernel_rfl) (by kernel_rfl) (fun w hS => ckpt_fair.con K a1  _ _ w hS hx1_1)) (by kernel_rfl) (fun _ => ?_)
 refine O.pure 1 [] [1, 2, 3, 23] [] (fr' := [(1, .int .i64 a1), (2, .slice h1.1 a2.length h1.2), (3, .pointer (some ⟨p0_0, 0, none⟩)), (23, .bool (!x1_1))]) (bx' := [⟨p0_0, [.slice h0.1 a0.f0.length h0.2], 24⟩]) (by kernel_rfl) ?_
 refine O.nil (by kernel_rfl) ?_
 rcases condE H with ⟨hc1, H⟩ | ⟨hc1, H⟩
 ·refine J.condT (x := .tmp 23) (t := (!x1_1)) (by kernel_rfl) (by kernel_rfl) hc1 ?_
  refine J.seq (by kernel_rfl) ?_
  refine J.region (by kernel_rfl) ?_
  refine O.pure 2 [] [6, 7] [] (fr' := [(6, .slice none 0 0), (7, .int .i64 1)]) (bx' := [⟨p0_0, [.slice h0.1 a0.f0.length h0.2], 24⟩]) (by kernel_rfl) ?_
  refine O.nil (by kernel_rfl) ?_
  obtain rfl := Option.some.inj H
  refine J.nilrow kd48 48 ?_
  exact J.doneS [] [] [] [] [0] (none, 0) (vs := [.slice none 0 0, .int .i64 1]) (by kernel_rfl) (by kernel_rfl) (by kernel_rfl) (by kernel_rfl) (by kernel_rfl) (by decide)
 ·refine J.condF (x := .tmp 23) (t := (!x1_1)) (by kernel_rfl) (by kernel_rfl) hc1 ?_
  refine J.skip (by kernel_rfl) ?_
  refine J.seq (by kernel_rfl) ?_
  obtain ⟨x3_1, hx3_1, H⟩ := bindE H
  refine J.region (by kernel_rfl) ?_
  refine O.pure 1 [] [1, 3, 25] [] (fr' := [(1, .int .i64 a1), (3, .pointer (some ⟨p0_0, 0, none⟩)), (25, .slice h1.1 a2.length h1.2)]) (bx' := [⟨p0_0, [.slice h0.1 a0.f0.length h0.2], 24⟩]) (by kernel_rfl) ?_
  refine O.e (some 26) (Ev.call0 (xs := [.tmp 25]) [1] (by kernel_rfl) (by kernel_rfl) (fun w hS => code_Frame.con K a2 h1  _ _ w hS hx3_1)) (by kernel_rfl) (fun p3_1 => ?_)
  refine O.pure 5 [] [1, 3, 8, 9] [] (fr' := [(1, .int .i64 a1), (3, .pointer (some ⟨p0_0, 0, none⟩)), (8, .slice p3_1.1 x3_1.1.length p3_1.2), (9, .int .i64 x3_1.2)]) (bx' := [⟨p0_0, [.slice h0.1 a0.f0.length h0.2], 24⟩]) (by kernel_rfl) ?_
  refine O.nil (by kernel_rfl) ?_
  refine J.seq (by kernel_rfl) ?_
  refine J.seq (by kernel_rfl) ?_
  refine J.region (by kernel_rfl) ?_
  refine O.pure 2 [] [1, 3, 8, 9, 30] [] (fr' := [(1, .int .i64 a1), (3, .pointer (some ⟨p0_0, 0, none⟩)), (8, .slice p3_1.1 x3_1.1.length p3_1.2), (9, .int .i64 x3_1.2), (30, .bool (x3_1.2 != 0))]) (bx' := [⟨p0_0, [.slice h0.1 a0.f0.length h0.2], 24⟩]) (by kernel_rfl) ?_
  refine O.nil (by kernel_rfl) ?_
  rcases condE H with ⟨hc2, H⟩ | ⟨hc2, H⟩
  ·refine J.condT (x := .tmp 30) (t := (x3_1.2 != 0)) (by kernel_rfl) (by kernel_rfl) hc2 ?_
   refine J.seq (by kernel_rfl) ?_
   refine J.region (by kernel_rfl) ?_
   refine O.pure 3 [] [6, 7] [] (fr' := [(6, .slice none 0 0), (7, .int .i64 x3_1.2)]) (bx' := [⟨p0_0, [.slice h0.1 a0.f0.length h0.2], 24⟩]) (by kernel_rfl) ?_
   refine O.nil (by kernel_rfl) ?_
   obtain rfl := Option.some.inj H
   refine J.nilrow kd48 48 ?_
   exact J.doneS [] [] [] [] [0] (none, 0) (vs := [.slice none 0 0, .int .i64 x3_1.2]) (by kernel_rfl) (by kernel_rfl) (by kernel_rfl) (by kernel_rfl) (by kernel_rfl) (by decide)
  ·refine J.condF (x := .tmp 30) (t := (x3_1.2 != 0)) (by kernel_rfl) (by kernel_rfl) hc2 ?_
   refine J.skip (by kernel_rfl) ?_
   refine J.seq (by kernel_rfl) ?_
   obtain ⟨x6_1, hx6_1, H⟩ := bindE H
   refine J.region (by kernel_rfl) ?_
   refine O.pure 1 [(0, 0)] [1, 3, 8, 33] [p0_0, 0] (fr' := [(1, .int .i64 a1), (3, .pointer (some ⟨p0_0, 0, none⟩)), (8, .slice p3_1.1 x3_1.1.length p3_1.2), (33, .agg #[.slice h0.1 a0.f0.length h0.2])]) (bx' := [⟨p0_0, [.slice h0.1 a0.f0.length h0.2], 24⟩]) (by kernel_rfl) ?_
   refine O.e (some 34) (Ev.call0 (xs := [.tmp 33]) [0] (by kernel_rfl) (by kernel_rfl) (fun w hS => ckpt_read.con K a0 h0  _ _ w hS hx6_1)) (by kernel_rfl) (fun _ => ?_)
   refine O.pure 9 [] [1, 3, 8, 10, 11, 12, 13] [] (fr' := [(1, .int .i64 a1), (3, .pointer (some ⟨p0_0, 0, none⟩)), (8, .slice p3_1.1 x3_1.1.length p3_1.2), (10, .int .i64 x6_1.1), (11, .int .i64 x6_1.2.1), (12, .int .i64 x6_1.2.2.1), (13, .bool x6_1.2.2.2)]) (bx' := [⟨p0_0, [.slice h0.1 a0.f0.length h0.2], 24⟩]) (by kernel_rfl) ?_
   refine O.nil (by kernel_rfl) ?_
   refine J.seq (by kernel_rfl) ?_
   refine J.seq (by kernel_rfl) ?_
   refine J.region (by kernel_rfl) ?_
   refine O.pure 2 [] [1, 3, 8, 10, 11, 12, 40] [] (fr' := [(1, .int .i64 a1), (3, .pointer (some ⟨p0_0, 0, none⟩)), (8, .slice p3_1.1 x3_1.1.length p3_1.2), (10, .int .i64 x6_1.1), (11, .int .i64 x6_1.2.1), (12, .int .i64 x6_1.2.2.1), (40, .bool (!x6_1.2.2.2))]) (bx' := [⟨p0_0, [.slice h0.1 a0.f0.length h0.2], 24⟩]) (by kernel_rfl) ?_
   refine O.nil (by kernel_rfl) ?_
   rcases condE H with ⟨hc3, H⟩ | ⟨hc3, H⟩
   ·refine J.condT (x := .tmp 40) (t := (!x6_1.2.2.2)) (by kernel_rfl) (by kernel_rfl) hc3 ?_
    refine J.seq (by kernel_rfl) ?_
    refine J.region (by kernel_rfl) ?_
    refine O.pure 2 [] [6, 7] [] (fr' := [(6, .slice none 0 0), (7, .int .i64 2)]) (bx' := [⟨p0_0, [.slice h0.1 a0.f0.length h0.2], 24⟩]) (by kernel_rfl) ?_
    refine O.nil (by kernel_rfl) ?_
    obtain rfl := Option.some.inj H
    refine J.nilrow kd48 48 ?_
    exact J.doneS [] [] [] [] [0] (none, 0) (vs := [.slice none 0 0, .int .i64 2]) (by kernel_rfl) (by kernel_rfl) (by kernel_rfl) (by kernel_rfl) (by kernel_rfl) (by decide)
   ·refine J.condF (x := .tmp 40) (t := (!x6_1.2.2.2)) (by kernel_rfl) (by kernel_rfl) hc3 ?_
    refine J.skip (by kernel_rfl) ?_
    refine J.seq (by kernel_rfl) ?_
    refine J.seq (by kernel_rfl) ?_
    rcases condE H with ⟨hc4, H⟩ | ⟨hc4, H⟩
    ·refine J.region (by kernel_rfl) ?_
     refine O.pure 2 [] [1, 3, 8, 10, 41, 42] [] (fr' := [(1, .int .i64 a1), (3, .pointer (some ⟨p0_0, 0, none⟩)), (8, .slice p3_1.1 x3_1.1.length p3_1.2), (10, .int .i64 x6_1.1), (41, .int .i64 x6_1.2.1), (42, .int .i64 x6_1.2.2.1)]) (bx' := [⟨p0_0, [.slice h0.1 a0.f0.length h0.2], 24⟩]) (by kernel_rfl) ?_
     refine O.q (v := .bool true) (some 43) (Qu.eqv (u := .bool (decide (x6_1.2.1 < x6_1.2.2.1))) (v := .bool true) (0, 0) [] (by kernel_rfl) (congrArg Value.bool hc4)) (by kernel_rfl) ?_
     refine O.pure 5 [] [1, 3, 8, 48] [] (fr' := [(1, .int .i64 a1), (3, .pointer (some ⟨p0_0, 0, none⟩)), (8, .slice p3_1.1 x3_1.1.length p3_1.2), (48, .bool true)]) (bx' := [⟨p0_0, [.slice h0.1 a0.f0.length h0.2], 24⟩]) (by kernel_rfl) ?_
     refine O.nil (by kernel_rfl) ?_
     refine J.cond (o := .tmp 48) true (by kernel_rfl) (by kernel_rfl) ?_
     refine J.seq (by kernel_rfl) ?_
     refine J.region (by kernel_rfl) ?_
     refine O.pure 2 [] [6, 7] [] (fr' := [(6, .slice none 0 0), (7, .int .i64 6)]) (bx' := [⟨p0_0, [.slice h0.1 a0.f0.length h0.2], 24⟩]) (by kernel_rfl) ?_
     refine O.nil (by kernel_rfl) ?_
     obtain rfl := Option.some.inj H
     refine J.nilrow kd48 48 ?_
     exact J.doneS [] [] [] [] [0] (none, 0) (vs := [.slice none 0 0, .int .i64 6]) (by kernel_rfl) (by kernel_rfl) (by kernel_rfl) (by kernel_rfl) (by kernel_rfl) (by decide)
    ·refine J.region (by kernel_rfl) ?_
     refine O.pure 2 [] [1, 3, 8, 10, 41, 42] [] (fr' := [(1, .int .i64 a1), (3, .pointer (some ⟨p0_0, 0, none⟩)), (8, .slice p3_1.1 x3_1.1.length p3_1.2), (10, .int .i64 x6_1.1), (41, .int .i64 x6_1.2.1), (42, .int .i64 x6_1.2.2.1)]) (bx' := [⟨p0_0, [.slice h0.1 a0.f0.length h0.2], 24⟩]) (by kernel_rfl) ?_
     refine O.q (v := .bool false) (some 43) (Qu.eqv (u := .bool (decide (x6_1.2.1 < x6_1.2.2.1))) (v := .bool false) (0, 0) [] (by kernel_rfl) (congrArg Value.bool hc4)) (by kernel_rfl) ?_
     refine O.pure 5 [] [1, 3, 8, 48] [] (fr' := [(1, .int .i64 a1), (3, .pointer (some ⟨p0_0, 0, none⟩)), (8, .slice p3_1.1 x3_1.1.length p3_1.2), (48, .bool (decide (a1 ≤ x6_1.1)))]) (bx' := [⟨p0_0, [.slice h0.1 a0.f0.length h0.2], 24⟩]) (by kernel_rfl) ?_
     refine O.nil (by kernel_rfl) ?_
     rcases condE H with ⟨hc5, H⟩ | ⟨hc5, H⟩
     ·refine J.condT (x := .tmp 48) (t := (decide (a1 ≤ x6_1.1))) (by kernel_rfl) (by kernel_rfl) hc5 ?_
      refine J.seq (by kernel_rfl) ?_
      refine J.region (by kernel_rfl) ?_
      refine O.pure 2 [] [6, 7] [] (fr' := [(6, .slice none 0 0), (7, .int .i64 6)]) (bx' := [⟨p0_0, [.slice h0.1 a0.f0.length h0.2], 24⟩]) (by kernel_rfl) ?_
      refine O.nil (by kernel_rfl) ?_
      obtain rfl := Option.some.inj H
      refine J.nilrow kd48 48 ?_
      exact J.doneS [] [] [] [] [0] (none, 0) (vs := [.slice none 0 0, .int .i64 6]) (by kernel_rfl) (by kernel_rfl) (by kernel_rfl) (by kernel_rfl) (by kernel_rfl) (by decide)
     ·refine J.condF (x := .tmp 48) (t := (decide (a1 ≤ x6_1.1))) (by kernel_rfl) (by kernel_rfl) hc5 ?_
      refine J.skip (by kernel_rfl) ?_
      refine J.seq (by kernel_rfl) ?_
      obtain ⟨x11_1, hx11_1, H⟩ := bindE H
      refine J.region (by kernel_rfl) ?_
      refine O.pure 1 [] [1, 3, 8, 49] [] (fr' := [(1, .int .i64 a1), (3, .pointer (some ⟨p0_0, 0, none⟩)), (8, .slice p3_1.1 x3_1.1.length p3_1.2), (49, .int .i64 a1)]) (bx' := [⟨p0_0, [.slice h0.1 a0.f0.length h0.2], 24⟩]) (by kernel_rfl) ?_
      refine O.e (some 50) (Ev.call0 (xs := [.tmp 49]) [] (by kernel_rfl) (by kernel_rfl) (fun w hS => ckpt_File.con K a1  _ _ w hS hx11_1)) (by kernel_rfl) (fun _ => ?_)
      refine O.pure 1 [] [1, 3, 8, 14] [] (fr' := [(1, .int .i64 a1), (3, .pointer (some ⟨p0_0, 0, none⟩)), (8, .slice p3_1.1 x3_1.1.length p3_1.2), (14, .string x11_1)]) (bx' := [⟨p0_0, [.slice h0.1 a0.f0.length h0.2], 24⟩]) (by kernel_rfl) ?_
      refine O.nil (by kernel_rfl) ?_
      refine J.seq (by kernel_rfl) ?_
      refine J.region (by kernel_rfl) ?_
      refine O.pure 2 [] [1, 3, 8, 14, 15, 16] [] (fr' := [(1, .int .i64 a1), (3, .pointer (some ⟨p0_0, 0, none⟩)), (8, .slice p3_1.1 x3_1.1.length p3_1.2), (14, .string x11_1), (15, .slice none 0 0), (16, .slice none 0 0)]) (bx' := [⟨p0_0, [.slice h0.1 a0.f0.length h0.2], 24⟩]) (by kernel_rfl) ?_
      refine O.nil (by kernel_rfl) ?_
      refine J.seq (by kernel_rfl) ?_
      refine J.seq (by kernel_rfl) ?_
      obtain ⟨x13_1, hx13_1, H⟩ := bindE H
      refine J.region (by kernel_rfl) ?_
      refine O.pure 1 [(0, 0)] [1, 8, 14, 15, 16, 51] [p0_0, 0] (fr' := [(1, .int .i64 a1), (8, .slice p3_1.1 x3_1.1.length p3_1.2), (14, .string x11_1), (15, .slice none 0 0), (16, .slice none 0 0), (51, .agg #[.slice h0.1 a0.f0.length h0.2])]) (bx' := [⟨p0_0, [.slice h0.1 a0.f0.length h0.2], 24⟩]) (by kernel_rfl) ?_
      refine O.e (some 52) (Ev.call0 (xs := [.tmp 51]) [0] (by kernel_rfl) (by kernel_rfl) (fun w hS => disk_Names.con K a0 h0  _ _ w hS hx13_1)) (by kernel_rfl) (fun p13_1 => ?_)
      refine O.pure 2 [] [1, 8, 14, 15, 16, 52, 53, 54] [] (fr' := [(1, .int .i64 a1), (8, .slice p3_1.1 x3_1.1.length p3_1.2), (14, .string x11_1), (15, .slice none 0 0), (16, .slice none 0 0), (52, .slice p13_1.1 x13_1.length p13_1.2), (53, .int .i64 (x13_1.length : Int)), (54, .int .i64 0)]) (bx' := [⟨p0_0, [.slice h0.1 a0.f0.length h0.2], 24⟩]) (by kernel_rfl) ?_
      refine O.nil (by kernel_rfl) ?_
      refine J.join (α := (List S48) × (List S48)) (γ := Hd × Hd) (fun o6 q6 => [(1, .int .i64 a1), (8, .slice p3_1.1 x3_1.1.length p3_1.2), (14, .string x11_1), (15, .slice q6.1.1 o6.1.length q6.1.2), (16, .slice q6.2.1 o6.2.length q6.2.2)]) (fun o6 q6 => St X w [] [] [mkRow kd48 48 (.slice q6.1.1 o6.1.length q6.1.2) o6.1, mkRow kd48 48 (.slice q6.2.1 o6.2.length q6.2.2) o6.2, mkRow (Kd.int .u8) 5 (.slice p3_1.1 x3_1.1.length p3_1.2) x3_1.1] [] [Rd kd70 h0.1 h0.2 a0.f0, Rd (Kd.int .u8) h1.1 h1.2 a2]) H (fun o6 q6 H => ?_) (fun o6 H hj6 => ?_)
      ·refine J.seq (by kernel_rfl) ?_
       obtain ⟨x21_1, hx21_1, H⟩ := bindE H
       obtain ⟨x21_2, hx21_2, H⟩ := bindE H
       refine J.region (by kernel_rfl) ?_
       refine O.pure 1 [] [8, 14, 15, 16, 78] [] (fr' := [(8, .slice p3_1.1 x3_1.1.length p3_1.2), (14, .string x11_1), (15, .slice q6.1.1 o6.1.length q6.1.2), (16, .slice q6.2.1 o6.2.length q6.2.2), (78, .int .i64 a1)]) (bx' := []) (by kernel_rfl) ?_
       refine O.e (some 79) (Ev.call0 (xs := [.tmp 78]) [] (by kernel_rfl) (by kernel_rfl) (fun w hS => code_Num.con K a1  _ _ w hS hx21_1)) (by kernel_rfl) (fun p21_1 => ?_)
       refine O.e (some 80) (Ev.callLb (xs1 := [.tmp 79]) [0] (fun w hS => (hS.rowsel [0, 1, 2, 3] rfl (by decide)).freezeL (hh := p21_1) (m := x21_1.length) (xs := x21_1) rfl) (by kernel_rfl) (by kernel_rfl) (fun _ q hq _ _ _ h => by obtain rfl := List.mem_singleton.1 hq; exact h) (fun w hS => code_Frame.con K x21_1 p21_1  _ _ w hS hx21_2)) (by kernel_rfl) (fun p21_2 => ?_)
       refine O.pure 5 [] [8, 14, 15, 16, 19] [] (fr' := [(8, .slice p3_1.1 x3_1.1.length p3_1.2), (14, .string x11_1), (15, .slice q6.1.1 o6.1.length q6.1.2), (16, .slice q6.2.1 o6.2.length q6.2.2), (19, .slice p21_2.1 x21_2.1.length p21_2.2)]) (bx' := []) (by kernel_rfl) ?_
       refine O.nil (by kernel_rfl) ?_
       refine J.seq (by kernel_rfl) ?_
       obtain ⟨y22_10, hy22_10, H⟩ := bindE H
       have hy22_10a := (appE hy22_10).1
       refine J.region (by kernel_rfl) ?_
       refine O.pure 9 [] [15, 16, 83, 86, 88, 90, 91] [] (fr' := [(15, .slice q6.1.1 o6.1.length q6.1.2), (16, .slice q6.2.1 o6.2.length q6.2.2), (83, .slice q6.1.1 o6.1.length q6.1.2), (86, .agg #[.int .i64 2, .string x11_1, .slice p3_1.1 x3_1.1.length p3_1.2]), (88, .agg #[.int .i64 3, .string x11_1, .slice none 0 0]), (90, .agg #[.int .i64 2, .string (⟨#[109]⟩ : ByteArray), .slice p21_2.1 x21_2.1.length p21_2.2]), (91, .agg #[.int .i64 3, .string (⟨#[109]⟩ : ByteArray), .slice none 0 0])]) (bx' := []) (by kernel_rfl) ?_
       refine O.e (some 92) (Ev.mono (fun w hS => hS.rowsel [4, 0, 1, 2, 3] rfl (by decide)) (Ev.mono (fun w hS => hS.freezeH (h := p3_1) (xs := x3_1.1)) (Ev.mono (fun w hS => hS.freezeH (h := p21_2) (xs := x21_2.1)) (Ev.mono (fun w hS => hS.rowsel [1, 0, 2] rfl (by decide)) (Ev.lit (t := 37) (len := 4) (parts := #[(0, .tmp 86), (1, .tmp 88), (2, .tmp 90), (3, .tmp 91)]) (ps := [(0, .agg #[.int .i64 2, .string x11_1, .slice p3_1.1 x3_1.1.length p3_1.2]), (1, .agg #[.int .i64 3, .string x11_1, .slice none 0 0]), (2, .agg #[.int .i64 2, .string (⟨#[109]⟩ : ByteArray), .slice p21_2.1 x21_2.1.length p21_2.2]), (3, .agg #[.int .i64 3, .string (⟨#[109]⟩ : ByteArray), .slice none 0 0])]) (cs := [.int .i64 2, .string x11_1, .slice p3_1.1 x3_1.1.length p3_1.2, .int .i64 3, .string x11_1, .slice none 0 0, .int .i64 2, .string (⟨#[109]⟩ : ByteArray), .slice p21_2.1 x21_2.1.length p21_2.2, .int .i64 3, .string (⟨#[109]⟩ : ByteArray), .slice none 0 0]) (e := 48) kd48 ([(⟨2, x11_1, x3_1.1⟩ : S48), (⟨3, x11_1, ([] : List Int)⟩ : S48), (⟨2, (⟨#[109]⟩ : ByteArray), x21_2.1⟩ : S48), (⟨3, (⟨#[109]⟩ : ByteArray), ([] : List Int)⟩ : S48)] : List S48) (by kernel_rfl) (by kernel_rfl) (by kernel_rfl) (by kernel_rfl) (by kernel_rfl) (by decide) (fun w' hφ => (Els.cons (c := [.int .i64 2, .string x11_1, .slice p3_1.1 x3_1.1.length p3_1.2]) (⟨p3_1, rfl, hφ _ (List.mem_of_getElem? (i := 1) rfl)⟩) (Els.cons (c := [.int .i64 3, .string x11_1, .slice none 0 0]) (⟨(none, 0), rfl, Rd.nil _ _⟩) (Els.cons (c := [.int .i64 2, .string (⟨#[109]⟩ : ByteArray), .slice p21_2.1 x21_2.1.length p21_2.2]) (⟨p21_2, rfl, hφ _ (List.mem_of_getElem? (i := 0) rfl)⟩) (Els.cons (c := [.int .i64 3, .string (⟨#[109]⟩ : ByteArray), .slice none 0 0]) (⟨(none, 0), rfl, Rd.nil _ _⟩) (Els.nil _ _ _))))))))))) (by kernel_rfl) (fun p22_9 => ?_)
       refine O.e (some 93) (Ev.appLit (x := .tmp 83) (y := .tmp 92) (t := 37) (bytes := 48) (by kernel_rfl) (by kernel_rfl) (by kernel_rfl) (by kernel_rfl) (by kernel_rfl) (by decide) hy22_10a) (by kernel_rfl) (fun p22_10 => ?_)
       refine O.pure 1 [] [15, 16] [] (fr' := [(15, .slice p22_10.1 (o6.1 ++ ([(⟨2, x11_1, x3_1.1⟩ : S48), (⟨3, x11_1, ([] : List Int)⟩ : S48), (⟨2, (⟨#[109]⟩ : ByteArray), x21_2.1⟩ : S48), (⟨3, (⟨#[109]⟩ : ByteArray), ([] : List Int)⟩ : S48)] : List S48)).length p22_10.2), (16, .slice q6.2.1 o6.2.length q6.2.2)]) (bx' := []) (by kernel_rfl) ?_
       refine O.nil (by kernel_rfl) ?_
       refine J.seq (by kernel_rfl) ?_
       obtain ⟨y23_2, hy23_2, H⟩ := bindE H
       have hy23_2a := (appE hy23_2).1
       refine J.region (by kernel_rfl) ?_
       refine O.pure 2 [] [94, 95] [] (fr' := [(94, .slice p22_10.1 (o6.1 ++ ([(⟨2, x11_1, x3_1.1⟩ : S48), (⟨3, x11_1, ([] : List Int)⟩ : S48), (⟨2, (⟨#[109]⟩ : ByteArray), x21_2.1⟩ : S48), (⟨3, (⟨#[109]⟩ : ByteArray), ([] : List Int)⟩ : S48)] : List S48)).length p22_10.2), (95, .slice q6.2.1 o6.2.length q6.2.2)]) (bx' := []) (by kernel_rfl) ?_
       refine O.e (some 96) (Ev.mono (fun w hS => hS.rowsel [2, 0, 1] rfl (by decide)) (Ev.mono (fun w hS => hS.freezeH (h := q6.2) (xs := o6.2)) (Ev.appSl (d := kd48) (ys := o6.2) (A := q6.2.1) (c := q6.2.2) (x := .tmp 94) (y := .tmp 95) (t := 37) (bytes := 48) 0 (by kernel_rfl) (by kernel_rfl) (by kernel_rfl) rfl (by kernel_rfl) (by decide) hy23_2a))) (by kernel_rfl) (fun p23_2 => ?_)
       refine O.pure 2 [] [6, 7] [] (fr' := [(6, .slice p23_2.1 ((o6.1 ++ ([(⟨2, x11_1, x3_1.1⟩ : S48), (⟨3, x11_1, ([] : List Int)⟩ : S48), (⟨2, (⟨#[109]⟩ : ByteArray), x21_2.1⟩ : S48), (⟨3, (⟨#[109]⟩ : ByteArray), ([] : List Int)⟩ : S48)] : List S48)) ++ o6.2).length p23_2.2), (7, .int .i64 0)]) (bx' := []) (by kernel_rfl) ?_
       refine O.nil (by kernel_rfl) ?_
       obtain rfl := Option.some.inj H
       exact J.doneS [] [] [] [] [0] p23_2 (vs := [.slice p23_2.1 ((o6.1 ++ ([(⟨2, x11_1, x3_1.1⟩ : S48), (⟨3, x11_1, ([] : List Int)⟩ : S48), (⟨2, (⟨#[109]⟩ : ByteArray), x21_2.1⟩ : S48), (⟨3, (⟨#[109]⟩ : ByteArray), ([] : List Int)⟩ : S48)] : List S48)) ++ o6.2).length p23_2.2, .int .i64 0]) (by kernel_rfl) (by kernel_rfl) (by kernel_rfl) (by kernel_rfl) (by kernel_rfl) (by decide)
      ·refine J.block (id := 0) (by kernel_rfl) ?_
       refine J.loopI (σ := (List S48) × (List S48) × Int) (γ := Hd × Hd) (f := fun m_ s_ => ckpt_Save.l17 K x11_1 x13_1 m_ s_) (fun s17 g17 => [(1, .int .i64 a1), (8, .slice p3_1.1 x3_1.1.length p3_1.2), (14, .string x11_1), (15, .slice g17.1.1 s17.1.length g17.1.2), (16, .slice g17.2.1 s17.2.1.length g17.2.2), (52, .slice p13_1.1 x13_1.length p13_1.2), (53, .int .i64 (x13_1.length : Int)), (54, .int .i64 s17.2.2)]) (fun s17 g17 => St X w [] [] [mkRow kd48 48 (.slice g17.1.1 s17.1.length g17.1.2) s17.1, mkRow kd48 48 (.slice g17.2.1 s17.2.1.length g17.2.2) s17.2.1, mkRow (Kd.int .u8) 5 (.slice p3_1.1 x3_1.1.length p3_1.2) x3_1.1] [] [Rd kd70 h0.1 h0.2 a0.f0, Rd (Kd.int .u8) h1.1 h1.2 a2, Rd Kd.string p13_1.1 p13_1.2 x13_1]) K (([] : List S48), ([] : List S48), 0) ((none, 0), (none, 0)) (by kernel_rfl) H (fun _ => rfl) (fun m_ s17 H ih17 g17 => ?_) (fun h_ => ?_)
       ·unfold ckpt_Save.l17 at H
        refine J.seq (by kernel_rfl) ?_
        refine J.region (by kernel_rfl) ?_
        refine O.pure 1 [] [1, 8, 14, 15, 16, 52, 53, 54, 55] [] (fr' := [(1, .int .i64 a1), (8, .slice p3_1.1 x3_1.1.length p3_1.2), (14, .string x11_1), (15, .slice g17.1.1 s17.1.length g17.1.2), (16, .slice g17.2.1 s17.2.1.length g17.2.2), (52, .slice p13_1.1 x13_1.length p13_1.2), (53, .int .i64 (x13_1.length : Int)), (54, .int .i64 s17.2.2), (55, .bool (decide (s17.2.2 < (x13_1.length : Int))))]) (bx' := []) (by kernel_rfl) ?_
        refine O.nil (by kernel_rfl) ?_
        refine J.seq (by kernel_rfl) ?_
        rcases condE H with ⟨hc24, H⟩ | ⟨hc24, H⟩
        ·refine J.condT (x := .tmp 55) (t := (decide (s17.2.2 < (x13_1.length : Int)))) (by kernel_rfl) (by kernel_rfl) hc24 ?_
         refine J.skip (by kernel_rfl) ?_
         refine J.seq (by kernel_rfl) ?_
         refine J.block (id := 1) (by kernel_rfl) ?_
         refine J.seq (by kernel_rfl) ?_
         obtain ⟨x15_0, hx15_0, H⟩ := bindE H
         obtain ⟨hx15_0a, hx15_0⟩ := idxE hx15_0
         refine J.region (by kernel_rfl) ?_
         refine O.open (d := Kd.string) (h := p13_1) (i := s17.2.2) 2 rfl hx15_0 (Lay.string _) (fun p15_0 hp15_0A => ?_)
         refine O.q (v := .pointer (some ⟨p15_0.1, p15_0.2.1 + s17.2.2.toNat * 1, none⟩)) (some 56) (Qu.idx (t := 64) (x := .tmp 52) (y := .tmp 54) (c := p13_1.2) (kk := .i64) (sz := 1) (by kernel_rfl) (by kernel_rfl) (by kernel_rfl) (by kernel_rfl) hx15_0a (idx_lt hx15_0) hp15_0A) (by kernel_rfl) ?_
         refine O.pure 2 [(0, 0)] [1, 8, 14, 15, 16, 18, 52, 53, 54] [p15_0.1, p15_0.2.1 + s17.2.2.toNat * 1] (fr' := [(1, .int .i64 a1), (8, .slice p3_1.1 x3_1.1.length p3_1.2), (14, .string x11_1), (15, .slice g17.1.1 s17.1.length g17.1.2), (16, .slice g17.2.1 s17.2.1.length g17.2.2), (18, .string x15_0), (52, .slice p13_1.1 x13_1.length p13_1.2), (53, .int .i64 (x13_1.length : Int)), (54, .int .i64 s17.2.2)]) (bx' := []) (by kernel_rfl) ?_
         refine O.nil (by kernel_rfl) ?_
         refine J.block (id := 2) (by kernel_rfl) ?_
         refine J.seq (by kernel_rfl) ?_
         refine J.region (by kernel_rfl) ?_
         refine O.pure 4 [] [1, 8, 14, 15, 16, 18, 52, 53, 54, 58] [] (fr' := [(1, .int .i64 a1), (8, .slice p3_1.1 x3_1.1.length p3_1.2), (14, .string x11_1), (15, .slice g17.1.1 s17.1.length g17.1.2), (16, .slice g17.2.1 s17.2.1.length g17.2.2), (18, .string x15_0), (52, .slice p13_1.1 x13_1.length p13_1.2), (53, .int .i64 (x13_1.length : Int)), (54, .int .i64 s17.2.2), (58, .bool (x15_0.toList == x11_1.toList))]) (bx' := []) (by kernel_rfl) ?_
         refine O.nil (by kernel_rfl) ?_
         rcases condE H with ⟨hc25, H⟩ | ⟨hc25, H⟩
         ·refine J.condT (x := .tmp 58) (t := (x15_0.toList == x11_1.toList)) (by kernel_rfl) (by kernel_rfl) hc25 ?_
          obtain ⟨y17_4, hy17_4, H⟩ := bindE H
          have hy17_4a := (appE hy17_4).1
          refine J.region (by kernel_rfl) ?_
          refine O.pure 3 [] [1, 8, 14, 15, 16, 52, 53, 54, 62, 64] [] (fr' := [(1, .int .i64 a1), (8, .slice p3_1.1 x3_1.1.length p3_1.2), (14, .string x11_1), (15, .slice g17.1.1 s17.1.length g17.1.2), (16, .slice g17.2.1 s17.2.1.length g17.2.2), (52, .slice p13_1.1 x13_1.length p13_1.2), (53, .int .i64 (x13_1.length : Int)), (54, .int .i64 s17.2.2), (62, .slice g17.1.1 s17.1.length g17.1.2), (64, .agg #[.int .i64 1, .string x15_0, .slice none 0 0])]) (bx' := []) (by kernel_rfl) ?_
          refine O.e (some 65) (Ev.lit (t := 37) (len := 1) (parts := #[(0, .tmp 64)]) (ps := [(0, .agg #[.int .i64 1, .string x15_0, .slice none 0 0])]) (cs := [.int .i64 1, .string x15_0, .slice none 0 0]) (e := 48) kd48 ([(⟨1, x15_0, ([] : List Int)⟩ : S48)] : List S48) (by kernel_rfl) (by kernel_rfl) (by kernel_rfl) (by kernel_rfl) (by kernel_rfl) (by decide) (fun w' hφ => (Els.cons (c := [.int .i64 1, .string x15_0, .slice none 0 0]) (⟨(none, 0), rfl, Rd.nil _ _⟩) (Els.nil _ _ _)))) (by kernel_rfl) (fun p17_3 => ?_)
          refine O.e (some 66) (Ev.appLit (x := .tmp 62) (y := .tmp 65) (t := 37) (bytes := 48) (by kernel_rfl) (by kernel_rfl) (by kernel_rfl) (by kernel_rfl) (by kernel_rfl) (by decide) hy17_4a) (by kernel_rfl) (fun p17_4 => ?_)
          refine O.pure 1 [] [1, 8, 14, 15, 16, 52, 53, 54] [] (fr' := [(1, .int .i64 a1), (8, .slice p3_1.1 x3_1.1.length p3_1.2), (14, .string x11_1), (15, .slice p17_4.1 (s17.1 ++ ([(⟨1, x15_0, ([] : List Int)⟩ : S48)] : List S48)).length p17_4.2), (16, .slice g17.2.1 s17.2.1.length g17.2.2), (52, .slice p13_1.1 x13_1.length p13_1.2), (53, .int .i64 (x13_1.length : Int)), (54, .int .i64 s17.2.2)]) (bx' := []) (by kernel_rfl) ?_
          refine O.nil (by kernel_rfl) ?_
          refine J.out ?_
          refine J.out ?_
          refine J.region (by kernel_rfl) ?_
          refine O.pure 2 [] [1, 8, 14, 15, 16, 52, 53, 54] [] (fr' := [(1, .int .i64 a1), (8, .slice p3_1.1 x3_1.1.length p3_1.2), (14, .string x11_1), (15, .slice p17_4.1 (s17.1 ++ ([(⟨1, x15_0, ([] : List Int)⟩ : S48)] : List S48)).length p17_4.2), (16, .slice g17.2.1 s17.2.1.length g17.2.2), (52, .slice p13_1.1 x13_1.length p13_1.2), (53, .int .i64 (x13_1.length : Int)), (54, .int .i64 (IntKind.wrap .i64 (s17.2.2 + 1)))]) (bx' := []) (by kernel_rfl) ?_
          refine O.nil (by kernel_rfl) ?_
          exact J.conv2 [1, 8, 14, 15, 16, 52, 53, 54] [0, 1, 2] [] [0, 1, 2] (by kernel_rfl) (by kernel_rfl) (by kernel_rfl) (by kernel_rfl) (by decide) (ih17 ((s17.1 ++ ([(⟨1, x15_0, ([] : List Int)⟩ : S48)] : List S48)), s17.2.1, (IntKind.wrap .i64 (s17.2.2 + 1))) (p17_4, g17.2) H)
         ·refine J.condF (x := .tmp 58) (t := (x15_0.toList == x11_1.toList)) (by kernel_rfl) (by kernel_rfl) hc25 ?_
          refine J.seq (by kernel_rfl) ?_
          obtain ⟨x18_1, hx18_1, H⟩ := bindE H
          refine J.region (by kernel_rfl) ?_
          refine O.pure 1 [] [1, 8, 14, 15, 16, 18, 52, 53, 54, 68] [] (fr' := [(1, .int .i64 a1), (8, .slice p3_1.1 x3_1.1.length p3_1.2), (14, .string x11_1), (15, .slice g17.1.1 s17.1.length g17.1.2), (16, .slice g17.2.1 s17.2.1.length g17.2.2), (18, .string x15_0), (52, .slice p13_1.1 x13_1.length p13_1.2), (53, .int .i64 (x13_1.length : Int)), (54, .int .i64 s17.2.2), (68, .string x15_0)]) (bx' := []) (by kernel_rfl) ?_
          refine O.q (v := .int .u8 x18_1) (some 69) (Qu.strIdx (t := 9) (x := .tmp 68) (y := .const (.int .i64 0)) (s := x15_0) (kk := .i64) (i := 0) (by kernel_rfl) (by kernel_rfl) (by kernel_rfl) (by kernel_rfl) hx18_1) (by kernel_rfl) ?_
          refine O.pure 2 [] [1, 8, 14, 15, 16, 18, 52, 53, 54, 67] [] (fr' := [(1, .int .i64 a1), (8, .slice p3_1.1 x3_1.1.length p3_1.2), (14, .string x11_1), (15, .slice g17.1.1 s17.1.length g17.1.2), (16, .slice g17.2.1 s17.2.1.length g17.2.2), (18, .string x15_0), (52, .slice p13_1.1 x13_1.length p13_1.2), (53, .int .i64 (x13_1.length : Int)), (54, .int .i64 s17.2.2), (67, .bool (x18_1 == 99))]) (bx' := []) (by kernel_rfl) ?_
          refine O.nil (by kernel_rfl) ?_
          rcases condE H with ⟨hc26, H⟩ | ⟨hc26, H⟩
          ·refine J.condT (x := .tmp 67) (t := (x18_1 == 99)) (by kernel_rfl) (by kernel_rfl) hc26 ?_
           obtain ⟨y19_4, hy19_4, H⟩ := bindE H
           have hy19_4a := (appE hy19_4).1
           refine J.region (by kernel_rfl) ?_
           refine O.pure 3 [] [1, 8, 14, 15, 16, 52, 53, 54, 71, 73] [] (fr' := [(1, .int .i64 a1), (8, .slice p3_1.1 x3_1.1.length p3_1.2), (14, .string x11_1), (15, .slice g17.1.1 s17.1.length g17.1.2), (16, .slice g17.2.1 s17.2.1.length g17.2.2), (52, .slice p13_1.1 x13_1.length p13_1.2), (53, .int .i64 (x13_1.length : Int)), (54, .int .i64 s17.2.2), (71, .slice g17.2.1 s17.2.1.length g17.2.2), (73, .agg #[.int .i64 1, .string x15_0, .slice none 0 0])]) (bx' := []) (by kernel_rfl) ?_
           refine O.e (some 74) (Ev.mono (fun w hS => hS.rowsel [1, 0, 2] rfl (by decide)) (Ev.lit (t := 37) (len := 1) (parts := #[(0, .tmp 73)]) (ps := [(0, .agg #[.int .i64 1, .string x15_0, .slice none 0 0])]) (cs := [.int .i64 1, .string x15_0, .slice none 0 0]) (e := 48) kd48 ([(⟨1, x15_0, ([] : List Int)⟩ : S48)] : List S48) (by kernel_rfl) (by kernel_rfl) (by kernel_rfl) (by kernel_rfl) (by kernel_rfl) (by decide) (fun w' hφ => (Els.cons (c := [.int .i64 1, .string x15_0, .slice none 0 0]) (⟨(none, 0), rfl, Rd.nil _ _⟩) (Els.nil _ _ _))))) (by kernel_rfl) (fun p19_3 => ?_)
           refine O.e (some 75) (Ev.appLit (x := .tmp 71) (y := .tmp 74) (t := 37) (bytes := 48) (by kernel_rfl) (by kernel_rfl) (by kernel_rfl) (by kernel_rfl) (by kernel_rfl) (by decide) hy19_4a) (by kernel_rfl) (fun p19_4 => ?_)
           refine O.pure 1 [] [1, 8, 14, 15, 16, 52, 53, 54] [] (fr' := [(1, .int .i64 a1), (8, .slice p3_1.1 x3_1.1.length p3_1.2), (14, .string x11_1), (15, .slice g17.1.1 s17.1.length g17.1.2), (16, .slice p19_4.1 (s17.2.1 ++ ([(⟨1, x15_0, ([] : List Int)⟩ : S48)] : List S48)).length p19_4.2), (52, .slice p13_1.1 x13_1.length p13_1.2), (53, .int .i64 (x13_1.length : Int)), (54, .int .i64 s17.2.2)]) (bx' := []) (by kernel_rfl) ?_
           refine O.nil (by kernel_rfl) ?_
           refine J.out ?_
           refine J.out ?_
           refine J.region (by kernel_rfl) ?_
           refine O.pure 2 [] [1, 8, 14, 15, 16, 52, 53, 54] [] (fr' := [(1, .int .i64 a1), (8, .slice p3_1.1 x3_1.1.length p3_1.2), (14, .string x11_1), (15, .slice g17.1.1 s17.1.length g17.1.2), (16, .slice p19_4.1 (s17.2.1 ++ ([(⟨1, x15_0, ([] : List Int)⟩ : S48)] : List S48)).length p19_4.2), (52, .slice p13_1.1 x13_1.length p13_1.2), (53, .int .i64 (x13_1.length : Int)), (54, .int .i64 (IntKind.wrap .i64 (s17.2.2 + 1)))]) (bx' := []) (by kernel_rfl) ?_
           refine O.nil (by kernel_rfl) ?_
           exact J.conv2 [1, 8, 14, 15, 16, 52, 53, 54] [0, 1, 2] [] [1, 0, 2] (by kernel_rfl) (by kernel_rfl) (by kernel_rfl) (by kernel_rfl) (by decide) (ih17 (s17.1, (s17.2.1 ++ ([(⟨1, x15_0, ([] : List Int)⟩ : S48)] : List S48)), (IntKind.wrap .i64 (s17.2.2 + 1))) (g17.1, p19_4) H)
          ·refine J.condF (x := .tmp 67) (t := (x18_1 == 99)) (by kernel_rfl) (by kernel_rfl) hc26 ?_
           refine J.skip (by kernel_rfl) ?_
           refine J.out ?_
           refine J.out ?_
           refine J.region (by kernel_rfl) ?_
           refine O.pure 2 [] [1, 8, 14, 15, 16, 52, 53, 54] [] (fr' := [(1, .int .i64 a1), (8, .slice p3_1.1 x3_1.1.length p3_1.2), (14, .string x11_1), (15, .slice g17.1.1 s17.1.length g17.1.2), (16, .slice g17.2.1 s17.2.1.length g17.2.2), (52, .slice p13_1.1 x13_1.length p13_1.2), (53, .int .i64 (x13_1.length : Int)), (54, .int .i64 (IntKind.wrap .i64 (s17.2.2 + 1)))]) (bx' := []) (by kernel_rfl) ?_
           refine O.nil (by kernel_rfl) ?_
           exact J.conv2 [1, 8, 14, 15, 16, 52, 53, 54] [0, 1, 2] [] [0, 1, 2] (by kernel_rfl) (by kernel_rfl) (by kernel_rfl) (by kernel_rfl) (by decide) (ih17 (s17.1, s17.2.1, (IntKind.wrap .i64 (s17.2.2 + 1))) (g17.1, g17.2) H)
        ·refine J.condF (x := .tmp 55) (t := (decide (s17.2.2 < (x13_1.length : Int)))) (by kernel_rfl) (by kernel_rfl) hc24 ?_
         refine J.exit (id := 0) (by kernel_rfl) rfl ?_
         obtain rfl := Option.some.inj H
         exact J.conv2 [1, 8, 14, 15, 16] [0, 1] [] [0, 1, 2] (by kernel_rfl) (by kernel_rfl) (by kernel_rfl) (by kernel_rfl) (by decide) (hj6 (g17.1, g17.2))
       ·refine J.nilrow kd48 48 ?_
        refine J.nilrow kd48 48 ?_
        refine J.mono (fun w hS => hS.rowsel [2, 0, 1, 3] rfl (by decide)) ?_
        refine J.mono (fun w hS => hS.freezeH (h := p13_1) (xs := x13_1)) ?_
        exact J.conv2 [1, 8, 14, 15, 16, 52, 53, 54] [1, 2, 0] [] [0, 1, 2] (by kernel_rfl) (by kernel_rfl) (by kernel_rfl) (by kernel_rfl) (by decide) h_
/-! ### haywain/disk.Drop: function 66 -/
def disk_Drop_f66.f (K : Nat) (a0 : S24) (a1 : ByteArray) : Option (S24 × Int) := (disk_own.f K a0).bind fun x1_1 => (disk_at.f K x1_1 a1).bind fun x2_2 => cond (decide (x2_2 < 0)) (some ((x1_1, 4))) ((cutO x1_1.f0 0 x2_2).bind fun y5_4 => (cutO x1_1.f0 (IntKind.wrap .i64 (x2_2 + 1)) (x1_1.f0.length : Int)).bind fun y5_9 => (appO 48 (cutL x1_1.f0 ((0 : Int).toNat) ((x2_2 : Int).toNat)) (cutL x1_1.f0 (((IntKind.wrap .i64 (x2_2 + 1)) : Int).toNat) (((x1_1.f0.length : Int) : Int).toNat))).bind fun y5_10 => some (((⟨((cutL x1_1.f0 ((0 : Int).toNat) ((x2_2 : Int).toNat)) ++ (cutL x1_1.f0 (((IntKind.wrap .i64 (x2_2 + 1)) : Int).toNat) (((x1_1.f0.length : Int) : Int).toNat)))⟩ : S24), 0)))
set_option maxRecDepth 100000 in
set_option maxHeartbeats 1000000 in
theorem disk_Drop_f66.con (K : Nat) (a0 : S24) (a1 : ByteArray) (h0 : Hd) (r : (S24 × Int)) (X : Nat → Nat → Prop) (w : World) (hS : St X w [] [] [] [] [Rd kd70 h0.1 h0.2 a0.f0] w) (H : disk_Drop_f66.f K a0 a1 = some r) :
    Cn Try.prog 66 [.agg #[.slice h0.1 a0.f0.length h0.2], .string a1] X w [] (fun i : Hd => .tuple #[.agg #[.slice i.1 r.1.f0.length i.2], .int .i64 r.2]) (fun i => []) (fun i => []) (fun i => [Rd kd70 i.1 i.2 r.1.f0]) := by
 refine Cn.of Try.func66 (by kernel_rfl) hS ?_
 unfold disk_Drop_f66.f at H
 refine J.seq (by kernel_rfl) ?_
 refine J.region (by kernel_rfl) ?_
 refine O.e (some 2) (Ev.box (t := 24) (x := .tmp 0) (v := .agg #[.slice h0.1 a0.f0.length h0.2]) (by kernel_rfl) (by kernel_rfl)) (by kernel_rfl) (fun p0_0 => ?_)
 refine O.e (some 4) (Ev.alloc (t := 24) (z := .agg #[.slice none 0 0]) (by kernel_rfl) (by kernel_rfl)) (by kernel_rfl) (fun p0_1 => ?_)
 refine O.pure 1 [] [1, 2, 4] [] (fr' := [(1, .string a1), (2, .pointer (some ⟨p0_0, 0, none⟩)), (4, .pointer (some ⟨p0_1, 0, none⟩))]) (bx' := [⟨p0_1, [.slice none 0 0], 24⟩, ⟨p0_0, [.slice h0.1 a0.f0.length h0.2], 24⟩]) (by kernel_rfl) ?_
 refine O.nil (by kernel_rfl) ?_
 refine J.seq (by kernel_rfl) ?_
 obtain ⟨x1_1, hx1_1, H⟩ := bindE H
 refine J.region (by kernel_rfl) ?_
 refine O.pure 1 [(1, 0)] [1, 2, 4, 7] [p0_0, 0] (fr' := [(1, .string a1), (2, .pointer (some ⟨p0_0, 0, none⟩)), (4, .pointer (some ⟨p0_1, 0, none⟩)), (7, .agg #[.slice h0.1 a0.f0.length h0.2])]) (bx' := [⟨p0_1, [.slice none 0 0], 24⟩, ⟨p0_0, [.slice h0.1 a0.f0.length h0.2], 24⟩]) (by kernel_rfl) ?_
 refine O.e (some 8) (Ev.call0 (xs := [.tmp 7]) [0] (by kernel_rfl) (by kernel_rfl) (fun w hS => disk_own.con K a0 h0  _ _ w hS hx1_1)) (by kernel_rfl) (fun p1_1 => ?_)
 refine O.pure 1 [(1, 0)] [1, 2, 4] [p0_0, 0] (fr' := [(1, .string a1), (2, .pointer (some ⟨p0_0, 0, none⟩)), (4, .pointer (some ⟨p0_1, 0, none⟩))]) (bx' := [⟨p0_1, [.slice none 0 0], 24⟩, ⟨p0_0, [.slice p1_1.1 x1_1.f0.length p1_1.2], 24⟩]) (by kernel_rfl) ?_
 refine O.nil (by kernel_rfl) ?_
 refine J.seq (by kernel_rfl) ?_
 obtain ⟨x2_2, hx2_2, H⟩ := bindE H
 refine J.region (by kernel_rfl) ?_
 refine O.pure 2 [(1, 0)] [2, 4, 9, 10] [p0_0, 0] (fr' := [(2, .pointer (some ⟨p0_0, 0, none⟩)), (4, .pointer (some ⟨p0_1, 0, none⟩)), (9, .agg #[.slice p1_1.1 x1_1.f0.length p1_1.2]), (10, .string a1)]) (bx' := [⟨p0_1, [.slice none 0 0], 24⟩, ⟨p0_0, [.slice p1_1.1 x1_1.f0.length p1_1.2], 24⟩]) (by kernel_rfl) ?_
 refine O.e (some 11) (Ev.callLb (xs1 := [.tmp 9, .tmp 10]) [0] (fun w hS => (hS.rowsel [0] rfl (by decide)).freezeL (hh := p1_1) (m := x1_1.f0.length) (xs := x1_1.f0) rfl) (by kernel_rfl) (by kernel_rfl) (fun _ q hq => by cases hq) (fun w hS => disk_at.con K x1_1 a1 p1_1  _ _ w hS hx2_2)) (by kernel_rfl) (fun _ => ?_)
 refine O.pure 1 [] [2, 4, 6] [] (fr' := [(2, .pointer (some ⟨p0_0, 0, none⟩)), (4, .pointer (some ⟨p0_1, 0, none⟩)), (6, .int .i64 x2_2)]) (bx' := [⟨p0_1, [.slice none 0 0], 24⟩, ⟨p0_0, [.slice p1_1.1 x1_1.f0.length p1_1.2], 24⟩]) (by kernel_rfl) ?_
 refine O.nil (by kernel_rfl) ?_
 refine J.seq (by kernel_rfl) ?_
 refine J.seq (by kernel_rfl) ?_
 refine J.region (by kernel_rfl) ?_
 refine O.pure 2 [] [2, 4, 6, 13] [] (fr' := [(2, .pointer (some ⟨p0_0, 0, none⟩)), (4, .pointer (some ⟨p0_1, 0, none⟩)), (6, .int .i64 x2_2), (13, .bool (decide (x2_2 < 0)))]) (bx' := [⟨p0_1, [.slice none 0 0], 24⟩, ⟨p0_0, [.slice p1_1.1 x1_1.f0.length p1_1.2], 24⟩]) (by kernel_rfl) ?_
 refine O.nil (by kernel_rfl) ?_
 rcases condE H with ⟨hc1, H⟩ | ⟨hc1, H⟩
 ·refine J.condT (x := .tmp 13) (t := (decide (x2_2 < 0))) (by kernel_rfl) (by kernel_rfl) hc1 ?_
  refine J.seq (by kernel_rfl) ?_
  refine J.region (by kernel_rfl) ?_
  refine O.pure 3 [(1, 0), (0, 0)] [4, 5] [p0_0, 0, p0_1, 0] (fr' := [(4, .pointer (some ⟨p0_1, 0, none⟩)), (5, .int .i64 4)]) (bx' := [⟨p0_1, [.slice p1_1.1 x1_1.f0.length p1_1.2], 24⟩, ⟨p0_0, [.slice p1_1.1 x1_1.f0.length p1_1.2], 24⟩]) (by kernel_rfl) ?_
  refine O.nil (by kernel_rfl) ?_
  obtain rfl := Option.some.inj H
  refine J.mono (fun w hS => hS.freezeH (h := p1_1) (xs := x1_1.f0)) ?_
  exact J.doneS [(0, 0)] [p0_1, 0] [0] [] [] p1_1 (vs := [.agg #[.slice p1_1.1 x1_1.f0.length p1_1.2], .int .i64 4]) (by kernel_rfl) (by kernel_rfl) (by kernel_rfl) (by kernel_rfl) (by kernel_rfl) (by decide)
 ·refine J.condF (x := .tmp 13) (t := (decide (x2_2 < 0))) (by kernel_rfl) (by kernel_rfl) hc1 ?_
  refine J.skip (by kernel_rfl) ?_
  refine J.seq (by kernel_rfl) ?_
  obtain ⟨y5_4, hy5_4, H⟩ := bindE H
  obtain ⟨hy5_4a, hy5_4b, hy5_4c, -⟩ := cutE hy5_4
  obtain ⟨y5_9, hy5_9, H⟩ := bindE H
  obtain ⟨hy5_9a, hy5_9b, hy5_9c, -⟩ := cutE hy5_9
  obtain ⟨y5_10, hy5_10, H⟩ := bindE H
  have hy5_10a := (appE hy5_10).1
  refine J.cutAt (γ := (Option Addr) × Hd × Hd) (fun q_ => [(2, .pointer (some ⟨p0_0, 0, none⟩)), (4, .pointer (some ⟨p0_1, 0, none⟩))]) (fun q_ => St X w [] [⟨p0_1, [.slice none 0 0], 24⟩, ⟨p0_0, [.slice q_.2.2.1 ((cutL x1_1.f0 ((0 : Int).toNat) ((x2_2 : Int).toNat)) ++ (cutL x1_1.f0 (((IntKind.wrap .i64 (x2_2 + 1)) : Int).toNat) (((x1_1.f0.length : Int) : Int).toNat))).length q_.2.2.2], 24⟩] [] [] [Rd kd70 q_.2.2.1 q_.2.2.2 ((cutL x1_1.f0 ((0 : Int).toNat) ((x2_2 : Int).toNat)) ++ (cutL x1_1.f0 (((IntKind.wrap .i64 (x2_2 + 1)) : Int).toNat) (((x1_1.f0.length : Int) : Int).toNat))), Rd kd70 q_.2.1.1 q_.2.1.2 (cutL x1_1.f0 (((IntKind.wrap .i64 (x2_2 + 1)) : Int).toNat) (((x1_1.f0.length : Int) : Int).toNat)), Rd kd70 ((q_.1, (cutL x1_1.f0 ((0 : Int).toNat) ((x2_2 : Int).toNat)).length) : Hd).1 ((q_.1, (cutL x1_1.f0 ((0 : Int).toNat) ((x2_2 : Int).toNat)).length) : Hd).2 (cutL x1_1.f0 ((0 : Int).toNat) ((x2_2 : Int).toNat)), Rd kd70 p1_1.1 p1_1.2 x1_1.f0, Rd kd70 h0.1 h0.2 a0.f0]) (fun q_ => ?_) (fun hk_ => ?_)
  ·obtain ⟨p5_4, p5_9, p5_10⟩ := q_
   refine J.seq (by kernel_rfl) ?_
   refine J.region (by kernel_rfl) ?_
   refine O.pure 3 [(1, 0), (0, 0)] [4, 5] [p0_0, 0, p0_1, 0] (fr' := [(4, .pointer (some ⟨p0_1, 0, none⟩)), (5, .int .i64 0)]) (bx' := [⟨p0_1, [.slice p5_10.1 ((cutL x1_1.f0 ((0 : Int).toNat) ((x2_2 : Int).toNat)) ++ (cutL x1_1.f0 (((IntKind.wrap .i64 (x2_2 + 1)) : Int).toNat) (((x1_1.f0.length : Int) : Int).toNat))).length p5_10.2], 24⟩, ⟨p0_0, [.slice p5_10.1 ((cutL x1_1.f0 ((0 : Int).toNat) ((x2_2 : Int).toNat)) ++ (cutL x1_1.f0 (((IntKind.wrap .i64 (x2_2 + 1)) : Int).toNat) (((x1_1.f0.length : Int) : Int).toNat))).length p5_10.2], 24⟩]) (by kernel_rfl) ?_
   refine O.nil (by kernel_rfl) ?_
   obtain rfl := Option.some.inj H
   exact J.doneS [(0, 0)] [p0_1, 0] [0] [] [] p5_10 (vs := [.agg #[.slice p5_10.1 ((cutL x1_1.f0 ((0 : Int).toNat) ((x2_2 : Int).toNat)) ++ (cutL x1_1.f0 (((IntKind.wrap .i64 (x2_2 + 1)) : Int).toNat) (((x1_1.f0.length : Int) : Int).toNat))).length p5_10.2], .int .i64 0]) (by kernel_rfl) (by kernel_rfl) (by kernel_rfl) (by kernel_rfl) (by kernel_rfl) (by decide)
  ·refine J.drawS (by kernel_rfl) [(0, some 15, .pointer (some ⟨p0_0, 0, none⟩)), (1, some 16, .slice p1_1.1 x1_1.f0.length p1_1.2), (2, some 17, .int .i64 x2_2), (3, some 18, .int .i64 x2_2), (5, some 20, .pointer (some ⟨p0_0, 0, none⟩)), (6, some 21, .slice p1_1.1 x1_1.f0.length p1_1.2), (7, some 22, .int .i64 x2_2), (8, some 23, .int .i64 (IntKind.wrap .i64 (x2_2 + 1)))] ([0, 1, 2, 3, 5, 6, 7, 8] ++ []) (by kernel_rfl) ?_
   refine D.mid (cs := [4, 9]) [0, 1, 2, 3, 5, 6, 7, 8] [] [(1, 0), (1, 0)] [p0_0, 0, p0_0, 0] (by kernel_rfl) (by kernel_rfl) trivial (by kernel_rfl) ⟨?_, ?_, trivial⟩
   ·refine EvStep.mk (some 19) (new := fun p5_4 => []) ([0, 5, 6, 7, 8] ++ []) (by kernel_rfl) (Ev.mono (fun w hS => hS.freezeH (h := p1_1) (xs := x1_1.f0)) (Ev.cut3 (d := kd70) (xs := x1_1.f0) (t := 22) (x := .tmp 16) (lo := none) (hi := (some (.tmp 17))) (mx := (some (.tmp 18))) (vlo := none) (vhi := (some (.int .i64 x2_2))) (vmx := (some (.int .i64 x2_2))) (A := p1_1.1) (c := p1_1.2) (l := (0 : Int).toNat) (h := (x2_2 : Int).toNat) 0 (by kernel_rfl) (by kernel_rfl) (by kernel_rfl) (by kernel_rfl) (by kernel_rfl) (by kernel_rfl) (Bd.dflt _) ⟨_, _, rfl, by omega, rfl⟩ ⟨_, _, rfl, by omega, rfl⟩ (by omega) (by omega) rfl)) (fun p5_4 => by kernel_rfl) (fun p5_4 => ?_)
    refine D.mid (cs := [9]) [0, 5, 6, 7, 8] [] [(1, 0)] [p0_0, 0] (by kernel_rfl) (by kernel_rfl) trivial (by kernel_rfl) ⟨?_, trivial⟩
    refine EvStep.mk (some 24) (new := fun p5_9 => []) ([0, 5, 7] ++ []) (by kernel_rfl) (Ev.cut (d := kd70) (xs := x1_1.f0) (t := 22) (x := .tmp 21) (lo := (some (.tmp 23))) (hi := none) (vlo := (some (.int .i64 (IntKind.wrap .i64 (x2_2 + 1))))) (vhi := none) (A := p1_1.1) (c := p1_1.2) (l := ((IntKind.wrap .i64 (x2_2 + 1)) : Int).toNat) (h := ((x1_1.f0.length : Int) : Int).toNat) 1 (by kernel_rfl) (by kernel_rfl) (by kernel_rfl) (by kernel_rfl) (by kernel_rfl) (Bd.val _ _ _ (by omega)) (Bd.dflt _) (by omega) (by omega) rfl) (fun p5_9 => by kernel_rfl) (fun p5_9 => ?_)
    refine D.mid (cs := [10]) [0, 5, 7] [] [] [] (by kernel_rfl) (by kernel_rfl) trivial (by kernel_rfl) ⟨?_, trivial⟩
    refine EvStep.mk (some 25) (new := fun p5_10 => [(11, some 26, .pointer (some ⟨p0_0, 0, none⟩))]) ([0, 5, 7, 11] ++ []) (by kernel_rfl) (Ev.appFull (d := kd70) (e := 70) (xs := (cutL x1_1.f0 ((0 : Int).toNat) ((x2_2 : Int).toNat))) (ys := (cutL x1_1.f0 (((IntKind.wrap .i64 (x2_2 + 1)) : Int).toNat) (((x1_1.f0.length : Int) : Int).toNat))) (hx := ((p5_4, (cutL x1_1.f0 ((0 : Int).toNat) ((x2_2 : Int).toNat)).length) : Hd)) (hy := p5_9) (x := .tmp 19) (y := .tmp 24) (t := 22) (bytes := 48) 1 0 (by kernel_rfl) (by kernel_rfl) (by kernel_rfl) rfl rfl (by kernel_rfl) (by decide) hy5_10a) (fun p5_10 => by kernel_rfl) (fun p5_10 => ?_)
    refine D.mid (cs := [12]) [0, 5, 7, 11] [] [] [] (by kernel_rfl) (by kernel_rfl) trivial (by kernel_rfl) ⟨?_, trivial⟩
    refine EvStep.mk none (new := fun _ => []) ([] ++ []) (by kernel_rfl) (Ev.store (kk := 1) (cs := [.slice p5_10.1 ((cutL x1_1.f0 ((0 : Int).toNat) ((x2_2 : Int).toNat)) ++ (cutL x1_1.f0 (((IntKind.wrap .i64 (x2_2 + 1)) : Int).toNat) (((x1_1.f0.length : Int) : Int).toNat))).length p5_10.2]) (1, 0) [p0_0, 0] (by kernel_rfl)) (fun _ => by kernel_rfl) (fun _ => ?_)
    refine D.fin (fr' := [(2, .pointer (some ⟨p0_0, 0, none⟩)), (4, .pointer (some ⟨p0_1, 0, none⟩))]) [] [] [] [] [2, 4] (by kernel_rfl) (by kernel_rfl) trivial (by kernel_rfl) ?_
    exact J.conv2 [2, 4] [0, 1, 2, 3, 4] [0, 1] [] (by kernel_rfl) (by kernel_rfl) (by kernel_rfl) (by kernel_rfl) (by decide) (hk_ (p5_4, p5_9, p5_10))
   ·refine EvStep.mk (some 24) (new := fun p5_9 => []) ([0, 1, 2, 3, 5, 7] ++ []) (by kernel_rfl) (Ev.mono (fun w hS => hS.freezeH (h := p1_1) (xs := x1_1.f0)) (Ev.cut (d := kd70) (xs := x1_1.f0) (t := 22) (x := .tmp 21) (lo := (some (.tmp 23))) (hi := none) (vlo := (some (.int .i64 (IntKind.wrap .i64 (x2_2 + 1))))) (vhi := none) (A := p1_1.1) (c := p1_1.2) (l := ((IntKind.wrap .i64 (x2_2 + 1)) : Int).toNat) (h := ((x1_1.f0.length : Int) : Int).toNat) 0 (by kernel_rfl) (by kernel_rfl) (by kernel_rfl) (by kernel_rfl) (by kernel_rfl) (Bd.val _ _ _ (by omega)) (Bd.dflt _) (by omega) (by omega) rfl)) (fun p5_9 => by kernel_rfl) (fun p5_9 => ?_)
    refine D.mid (cs := [4]) [0, 1, 2, 3, 5, 7] [] [(1, 0)] [p0_0, 0] (by kernel_rfl) (by kernel_rfl) trivial (by kernel_rfl) ⟨?_, trivial⟩
    refine EvStep.mk (some 19) (new := fun p5_4 => []) ([0, 5, 7] ++ []) (by kernel_rfl) (Ev.cut3 (d := kd70) (xs := x1_1.f0) (t := 22) (x := .tmp 16) (lo := none) (hi := (some (.tmp 17))) (mx := (some (.tmp 18))) (vlo := none) (vhi := (some (.int .i64 x2_2))) (vmx := (some (.int .i64 x2_2))) (A := p1_1.1) (c := p1_1.2) (l := (0 : Int).toNat) (h := (x2_2 : Int).toNat) 1 (by kernel_rfl) (by kernel_rfl) (by kernel_rfl) (by kernel_rfl) (by kernel_rfl) (by kernel_rfl) (Bd.dflt _) ⟨_, _, rfl, by omega, rfl⟩ ⟨_, _, rfl, by omega, rfl⟩ (by omega) (by omega) rfl) (fun p5_4 => by kernel_rfl) (fun p5_4 => ?_)
    refine D.mid (cs := [10]) [0, 5, 7] [] [] [] (by kernel_rfl) (by kernel_rfl) trivial (by kernel_rfl) ⟨?_, trivial⟩
    refine EvStep.mk (some 25) (new := fun p5_10 => [(11, some 26, .pointer (some ⟨p0_0, 0, none⟩))]) ([0, 5, 7, 11] ++ []) (by kernel_rfl) (Ev.appFull (d := kd70) (e := 70) (xs := (cutL x1_1.f0 ((0 : Int).toNat) ((x2_2 : Int).toNat))) (ys := (cutL x1_1.f0 (((IntKind.wrap .i64 (x2_2 + 1)) : Int).toNat) (((x1_1.f0.length : Int) : Int).toNat))) (hx := ((p5_4, (cutL x1_1.f0 ((0 : Int).toNat) ((x2_2 : Int).toNat)).length) : Hd)) (hy := p5_9) (x := .tmp 19) (y := .tmp 24) (t := 22) (bytes := 48) 0 1 (by kernel_rfl) (by kernel_rfl) (by kernel_rfl) rfl rfl (by kernel_rfl) (by decide) hy5_10a) (fun p5_10 => by kernel_rfl) (fun p5_10 => ?_)
    refine D.mid (cs := [12]) [0, 5, 7, 11] [] [] [] (by kernel_rfl) (by kernel_rfl) trivial (by kernel_rfl) ⟨?_, trivial⟩
    refine EvStep.mk none (new := fun _ => []) ([] ++ []) (by kernel_rfl) (Ev.store (kk := 1) (cs := [.slice p5_10.1 ((cutL x1_1.f0 ((0 : Int).toNat) ((x2_2 : Int).toNat)) ++ (cutL x1_1.f0 (((IntKind.wrap .i64 (x2_2 + 1)) : Int).toNat) (((x1_1.f0.length : Int) : Int).toNat))).length p5_10.2]) (1, 0) [p0_0, 0] (by kernel_rfl)) (fun _ => by kernel_rfl) (fun _ => ?_)
    refine D.fin (fr' := [(2, .pointer (some ⟨p0_0, 0, none⟩)), (4, .pointer (some ⟨p0_1, 0, none⟩))]) [] [] [] [] [2, 4] (by kernel_rfl) (by kernel_rfl) trivial (by kernel_rfl) ?_
    exact J.conv2 [2, 4] [0, 2, 1, 3, 4] [0, 1] [] (by kernel_rfl) (by kernel_rfl) (by kernel_rfl) (by kernel_rfl) (by decide) (hk_ (p5_4, p5_9, p5_10))
/-! ### (haywain/ckpt.Change).drop: function 46 -/
def ckpt_Change__drop_f46.f (K : Nat) (a0 : S48) (a1 : S24) : Option (S24 × Int) := (disk_Drop_f66.f K a1 a0.f1).bind fun x1_3 => some ((x1_3.1, x1_3.2))
set_option maxRecDepth 100000 in
set_option maxHeartbeats 1000000 in
theorem ckpt_Change__drop_f46.con (K : Nat) (a0 : S48) (a1 : S24) (h0 : Hd) (h1 : Hd) (r : (S24 × Int)) (X : Nat → Nat → Prop) (w : World) (hS : St X w [] [] [] [] [Rd (Kd.int .u8) h0.1 h0.2 a0.f2, Rd kd70 h1.1 h1.2 a1.f0] w) (H : ckpt_Change__drop_f46.f K a0 a1 = some r) :
    Cn Try.prog 46 [.agg #[.int .i64 a0.f0, .string a0.f1, .slice h0.1 a0.f2.length h0.2], .agg #[.slice h1.1 a1.f0.length h1.2]] X w [] (fun i : Hd => .tuple #[.agg #[.slice i.1 r.1.f0.length i.2], .int .i64 r.2]) (fun i => []) (fun i => []) (fun i => [Rd kd70 i.1 i.2 r.1.f0]) := by
 refine Cn.of Try.func46 (by kernel_rfl) hS ?_
 unfold ckpt_Change__drop_f46.f at H
 refine J.seq (by kernel_rfl) ?_
 refine J.region (by kernel_rfl) ?_
 refine O.e (some 2) (Ev.box (t := 48) (x := .tmp 0) (v := .agg #[.int .i64 a0.f0, .string a0.f1, .slice h0.1 a0.f2.length h0.2]) (by kernel_rfl) (by kernel_rfl)) (by kernel_rfl) (fun p0_0 => ?_)
 refine O.e (some 3) (Ev.box (t := 24) (x := .tmp 1) (v := .agg #[.slice h1.1 a1.f0.length h1.2]) (by kernel_rfl) (by kernel_rfl)) (by kernel_rfl) (fun p0_1 => ?_)
 refine O.e (some 4) (Ev.alloc (t := 24) (z := .agg #[.slice none 0 0]) (by kernel_rfl) (by kernel_rfl)) (by kernel_rfl) (fun p0_2 => ?_)
 refine O.pure 1 [] [2, 3, 4] [] (fr' := [(2, .pointer (some ⟨p0_0, 0, none⟩)), (3, .pointer (some ⟨p0_1, 0, none⟩)), (4, .pointer (some ⟨p0_2, 0, none⟩))]) (bx' := [⟨p0_2, [.slice none 0 0], 24⟩, ⟨p0_1, [.slice h1.1 a1.f0.length h1.2], 24⟩, ⟨p0_0, [.int .i64 a0.f0, .string a0.f1, .slice h0.1 a0.f2.length h0.2], 48⟩]) (by kernel_rfl) ?_
 refine O.nil (by kernel_rfl) ?_
 refine J.seq (by kernel_rfl) ?_
 obtain ⟨x1_3, hx1_3, H⟩ := bindE H
 refine J.region (by kernel_rfl) ?_
 refine O.pure 3 [(1, 0), (2, 1)] [4, 6, 8] [p0_1, 0, p0_0, 1] (fr' := [(4, .pointer (some ⟨p0_2, 0, none⟩)), (6, .agg #[.slice h1.1 a1.f0.length h1.2]), (8, .string a0.f1)]) (bx' := [⟨p0_2, [.slice none 0 0], 24⟩, ⟨p0_1, [.slice h1.1 a1.f0.length h1.2], 24⟩, ⟨p0_0, [.int .i64 a0.f0, .string a0.f1, .slice h0.1 a0.f2.length h0.2], 48⟩]) (by kernel_rfl) ?_
 refine O.e (some 9) (Ev.call0 (xs := [.tmp 6, .tmp 8]) [1] (by kernel_rfl) (by kernel_rfl) (fun w hS => disk_Drop_f66.con K a1 a0.f1 h1  _ _ w hS hx1_3)) (by kernel_rfl) (fun p1_3 => ?_)
 refine O.pure 4 [(0, 0)] [4, 5] [p0_2, 0] (fr' := [(4, .pointer (some ⟨p0_2, 0, none⟩)), (5, .int .i64 x1_3.2)]) (bx' := [⟨p0_2, [.slice p1_3.1 x1_3.1.f0.length p1_3.2], 24⟩, ⟨p0_1, [.slice h1.1 a1.f0.length h1.2], 24⟩, ⟨p0_0, [.int .i64 a0.f0, .string a0.f1, .slice h0.1 a0.f2.length h0.2], 48⟩]) (by kernel_rfl) ?_
 refine O.nil (by kernel_rfl) ?_
 obtain rfl := Option.some.inj H
 exact J.doneS [(0, 0)] [p0_2, 0] [0] [] [] p1_3 (vs := [.agg #[.slice p1_3.1 x1_3.1.f0.length p1_3.2], .int .i64 x1_3.2]) (by kernel_rfl) (by kernel_rfl) (by kernel_rfl) (by kernel_rfl) (by kernel_rfl) (by decide)
end Go.Proofs.Ytkcpbehgjbionaa.G
