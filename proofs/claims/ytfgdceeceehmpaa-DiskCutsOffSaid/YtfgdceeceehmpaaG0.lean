/- Functions of the program as plain Lean, with their contracts (part 0); printed by a program of this session. -/
import Derived.Test.YtfgdceeceehmpaaHw
import Derived.Test.YtfgdceeceehmpaaProg
set_option linter.unusedVariables false
set_option linter.unusedSimpArgs false
namespace Go.Proofs.Ytfgdceeceehmpaa.G
open Go Go.RowKit Go.Hw
structure S43 where
  f0 : ByteArray
  f1 : List Int
  f2 : Int
def kd43 : Kd S43 where
  sz := 3
  K := fun w x cs => ∃ h1 : Hd, cs = [.string x.f0, .slice h1.1 x.f1.length h1.2, .int .i64 x.f2] ∧ Rd (Kd.int .u8) h1.1 h1.2 x.f1 w
  len := by rintro w x cs ⟨h1, rfl, g1⟩; rfl
  one := by rintro w x cs ⟨h1, rfl, g1⟩ u hu; simp at hu; rcases hu with rfl | rfl | rfl <;> rfl
  mono := by rintro w w' x cs hw ⟨h1, rfl, g1⟩; exact ⟨h1, rfl, g1.mono hw⟩
theorem op43 (x : S43) : Lay kd43 x (fun i : Hd => [.string x.f0, .slice i.1 x.f1.length i.2, .int .i64 x.f2]) (fun i => [Rd (Kd.int .u8) i.1 i.2 x.f1]) := by
  intro X w cs h
  obtain ⟨h1, rfl, _⟩ := h w (Away.refl _ _)
  refine ⟨h1, rfl, fun f hf w' hw => ?_⟩
  obtain ⟨k1, e, g1⟩ := h w' hw
  simp only [List.cons.injEq, Value.slice.injEq, and_true, true_and] at e
  obtain ⟨e1, e1'⟩ := e
  obtain rfl : k1 = h1 := Prod.ext e1.symm e1'.symm
  simp only [List.mem_cons, List.not_mem_nil, or_false] at hf
  rcases hf with rfl
  · exact g1
def wf43 (x : S43) : Prop := (x.f0.size ≤ 140737488351232) ∧ (x.f1.length * 1 ≤ 140737488351232 ∧ ∀ x_ ∈ x.f1, (Lit.int .u8 x_).wf = true) ∧ ((Lit.int .i64 x.f2).wf = true)
structure S24 where
  f0 : List S43
def kd24 : Kd S24 where
  sz := 1
  K := fun w x cs => ∃ h0 : Hd, cs = [.slice h0.1 x.f0.length h0.2] ∧ Rd kd43 h0.1 h0.2 x.f0 w
  len := by rintro w x cs ⟨h0, rfl, g0⟩; rfl
  one := by rintro w x cs ⟨h0, rfl, g0⟩ u hu; simp at hu; rcases hu with rfl <;> rfl
  mono := by rintro w w' x cs hw ⟨h0, rfl, g0⟩; exact ⟨h0, rfl, g0.mono hw⟩
theorem op24 (x : S24) : Lay kd24 x (fun i : Hd => [.slice i.1 x.f0.length i.2]) (fun i => [Rd kd43 i.1 i.2 x.f0]) := by
  intro X w cs h
  obtain ⟨h0, rfl, _⟩ := h w (Away.refl _ _)
  refine ⟨h0, rfl, fun f hf w' hw => ?_⟩
  obtain ⟨k0, e, g0⟩ := h w' hw
  simp only [List.cons.injEq, Value.slice.injEq, and_true, true_and] at e
  obtain ⟨e0, e0'⟩ := e
  obtain rfl : k0 = h0 := Prod.ext e0.symm e0'.symm
  simp only [List.mem_cons, List.not_mem_nil, or_false] at hf
  rcases hf with rfl
  · exact g0
def wf24 (x : S24) : Prop := (x.f0.length * 48 ≤ 140737488351232 ∧ ∀ x_ ∈ x.f0, wf43 x_)
structure S39 where
  f0 : ByteArray
  f1 : List Int
  f2 : Int
def kd39 : Kd S39 where
  sz := 3
  K := fun w x cs => ∃ h1 : Hd, cs = [.string x.f0, .slice h1.1 x.f1.length h1.2, .int .i64 x.f2] ∧ Rd (Kd.int .u8) h1.1 h1.2 x.f1 w
  len := by rintro w x cs ⟨h1, rfl, g1⟩; rfl
  one := by rintro w x cs ⟨h1, rfl, g1⟩ u hu; simp at hu; rcases hu with rfl | rfl | rfl <;> rfl
  mono := by rintro w w' x cs hw ⟨h1, rfl, g1⟩; exact ⟨h1, rfl, g1.mono hw⟩
theorem op39 (x : S39) : Lay kd39 x (fun i : Hd => [.string x.f0, .slice i.1 x.f1.length i.2, .int .i64 x.f2]) (fun i => [Rd (Kd.int .u8) i.1 i.2 x.f1]) := by
  intro X w cs h
  obtain ⟨h1, rfl, _⟩ := h w (Away.refl _ _)
  refine ⟨h1, rfl, fun f hf w' hw => ?_⟩
  obtain ⟨k1, e, g1⟩ := h w' hw
  simp only [List.cons.injEq, Value.slice.injEq, and_true, true_and] at e
  obtain ⟨e1, e1'⟩ := e
  obtain rfl : k1 = h1 := Prod.ext e1.symm e1'.symm
  simp only [List.mem_cons, List.not_mem_nil, or_false] at hf
  rcases hf with rfl
  · exact g1
def wf39 (x : S39) : Prop := (x.f0.size ≤ 140737488351232) ∧ (x.f1.length * 1 ≤ 140737488351232 ∧ ∀ x_ ∈ x.f1, (Lit.int .u8 x_).wf = true) ∧ ((Lit.int .i64 x.f2).wf = true)
structure S52 where
  f0 : Int
  f1 : Int
  f2 : ByteArray
  f3 : List Int
  f4 : List Int
def kd52 : Kd S52 where
  sz := 5
  K := fun w x cs => ∃ h3 h4 : Hd, cs = [.int .i64 x.f0, .int .i64 x.f1, .string x.f2, .slice h3.1 x.f3.length h3.2, .slice h4.1 x.f4.length h4.2] ∧ Rd (Kd.int .u8) h3.1 h3.2 x.f3 w ∧ Rd (Kd.int .i64) h4.1 h4.2 x.f4 w
  len := by rintro w x cs ⟨h3, h4, rfl, g3, g4⟩; rfl
  one := by rintro w x cs ⟨h3, h4, rfl, g3, g4⟩ u hu; simp at hu; rcases hu with rfl | rfl | rfl | rfl | rfl <;> rfl
  mono := by rintro w w' x cs hw ⟨h3, h4, rfl, g3, g4⟩; exact ⟨h3, h4, rfl, g3.mono hw, g4.mono hw⟩
theorem op52 (x : S52) : Lay kd52 x (fun i : Hd × Hd => [.int .i64 x.f0, .int .i64 x.f1, .string x.f2, .slice i.1.1 x.f3.length i.1.2, .slice i.2.1 x.f4.length i.2.2]) (fun i => [Rd (Kd.int .u8) i.1.1 i.1.2 x.f3, Rd (Kd.int .i64) i.2.1 i.2.2 x.f4]) := by
  intro X w cs h
  obtain ⟨h3, h4, rfl, _, _⟩ := h w (Away.refl _ _)
  refine ⟨(h3, h4), rfl, fun f hf w' hw => ?_⟩
  obtain ⟨k3, k4, e, g3, g4⟩ := h w' hw
  simp only [List.cons.injEq, Value.slice.injEq, and_true, true_and] at e
  obtain ⟨⟨e3, e3'⟩, e4, e4'⟩ := e
  obtain rfl : k3 = h3 := Prod.ext e3.symm e3'.symm
  obtain rfl : k4 = h4 := Prod.ext e4.symm e4'.symm
  simp only [List.mem_cons, List.not_mem_nil, or_false] at hf
  rcases hf with rfl | rfl
  · exact g3
  · exact g4
def wf52 (x : S52) : Prop := ((Lit.int .i64 x.f0).wf = true) ∧ ((Lit.int .i64 x.f1).wf = true) ∧ (x.f2.size ≤ 140737488351232) ∧ (x.f3.length * 1 ≤ 140737488351232 ∧ ∀ x_ ∈ x.f3, (Lit.int .u8 x_).wf = true) ∧ (x.f4.length * 8 ≤ 140737488351232 ∧ ∀ x_ ∈ x.f4, (Lit.int .i64 x_).wf = true)
/-! ### haywain/haywainlaw13.great: function 9 -/
def haywainlaw13_great.l2 (K : Nat) (a0 : S24) : Nat → Int → Option Bool
  | 0, _ => none
  | k + 1, s2 => cond (decide (s2 < (a0.f0.length : Int))) ((idxO a0.f0 s2).bind fun x6_3 => cond (decide ((x6_3.f1.length : Int) > 30000)) (some (true)) ((idxO a0.f0 s2).bind fun x6_12 => cond (decide ((x6_12.f0.size : Int) > 100)) (some (true)) (haywainlaw13_great.l2 K a0 k (IntKind.wrap .i64 (s2 + 1))))) (some (false))
def haywainlaw13_great.f (K : Nat) (a0 : S24) : Option Bool := cond (decide ((a0.f0.length : Int) > 100)) (some (true)) (haywainlaw13_great.l2 K a0 K 0)
set_option maxRecDepth 100000 in
set_option maxHeartbeats 1000000 in
theorem haywainlaw13_great.con (K : Nat) (a0 : S24) (h0 : Hd) (r : Bool) (X : Nat → Nat → Prop) (w : World) (hS : St X w [] [] [] [] [Rd kd43 h0.1 h0.2 a0.f0] w) (H : haywainlaw13_great.f K a0 = some r) :
    Cn Try.prog 9 [.agg #[.slice h0.1 a0.f0.length h0.2]] X w [] (fun i : Unit => .bool r) (fun i => []) (fun i => []) (fun i => []) := by
  refine Cn.of Try.func9 (by kernel_rfl) hS ?_
  unfold haywainlaw13_great.f at H
  refine J.seq (by kernel_rfl) ?_
  refine J.region (by kernel_rfl) ?_
  refine O.e (some 1) (Ev.box (t := 24) (x := .tmp 0) (v := .agg #[.slice h0.1 a0.f0.length h0.2]) (by kernel_rfl) (by kernel_rfl)) (by kernel_rfl) (fun p0_0 => ?_)
  refine O.pure 1 [] [1] [] (fr' := [(1, .pointer (some ⟨p0_0, 0, none⟩))]) (bx' := [⟨p0_0, [.slice h0.1 a0.f0.length h0.2], 24⟩]) (by kernel_rfl) ?_
  refine O.nil (by kernel_rfl) ?_
  refine J.seq (by kernel_rfl) ?_
  refine J.seq (by kernel_rfl) ?_
  refine J.region (by kernel_rfl) ?_
  refine O.pure 4 [(0, 0)] [1, 7] [p0_0, 0] (fr' := [(1, .pointer (some ⟨p0_0, 0, none⟩)), (7, .bool (decide ((a0.f0.length : Int) > 100)))]) (bx' := [⟨p0_0, [.slice h0.1 a0.f0.length h0.2], 24⟩]) (by kernel_rfl) ?_
  refine O.nil (by kernel_rfl) ?_
  rcases condE H with ⟨hc1, H⟩ | ⟨hc1, H⟩
  · refine J.condT (x := .tmp 7) (t := (decide ((a0.f0.length : Int) > 100))) (by kernel_rfl) (by kernel_rfl) hc1 ?_
    refine J.seq (by kernel_rfl) ?_
    refine J.region (by kernel_rfl) ?_
    refine O.pure 1 [] [2] [] (fr' := [(2, .bool true)]) (bx' := [⟨p0_0, [.slice h0.1 a0.f0.length h0.2], 24⟩]) (by kernel_rfl) ?_
    refine O.nil (by kernel_rfl) ?_
    obtain rfl := Option.some.inj H
    exact J.doneS [] [] [] [] [] () (vs := [.bool true]) (by kernel_rfl) (by kernel_rfl) (by kernel_rfl) (by kernel_rfl) (by kernel_rfl) (by decide)
  · refine J.condF (x := .tmp 7) (t := (decide ((a0.f0.length : Int) > 100))) (by kernel_rfl) (by kernel_rfl) hc1 ?_
    refine J.skip (by kernel_rfl) ?_
    refine J.seq (by kernel_rfl) ?_
    refine J.seq (by kernel_rfl) ?_
    refine J.region (by kernel_rfl) ?_
    refine O.pure 1 [] [1, 3] [] (fr' := [(1, .pointer (some ⟨p0_0, 0, none⟩)), (3, .int .i64 0)]) (bx' := [⟨p0_0, [.slice h0.1 a0.f0.length h0.2], 24⟩]) (by kernel_rfl) ?_
    refine O.nil (by kernel_rfl) ?_
    refine J.block (id := 0) (by kernel_rfl) ?_
    refine J.loopI (σ := Int) (γ := Unit) (f := fun m_ s_ => haywainlaw13_great.l2 K a0 m_ s_) (fun s2 g2 => [(1, .pointer (some ⟨p0_0, 0, none⟩)), (3, .int .i64 s2)]) (fun s2 g2 => St X w [] [⟨p0_0, [.slice h0.1 a0.f0.length h0.2], 24⟩] [] [] [Rd kd43 h0.1 h0.2 a0.f0]) K 0 () (by kernel_rfl) H (fun _ => rfl) (fun m_ s2 H ih2 g2 => ?_) (fun h_ => ?_)
    · unfold haywainlaw13_great.l2 at H
      refine J.seq (by kernel_rfl) ?_
      refine J.seq (by kernel_rfl) ?_
      refine J.region (by kernel_rfl) ?_
      refine O.pure 5 [(0, 0)] [1, 3, 12] [p0_0, 0] (fr' := [(1, .pointer (some ⟨p0_0, 0, none⟩)), (3, .int .i64 s2), (12, .bool (decide (s2 < (a0.f0.length : Int))))]) (bx' := [⟨p0_0, [.slice h0.1 a0.f0.length h0.2], 24⟩]) (by kernel_rfl) ?_
      refine O.nil (by kernel_rfl) ?_
      rcases condE H with ⟨hc9, H⟩ | ⟨hc9, H⟩
      · refine J.condT (x := .tmp 12) (t := (decide (s2 < (a0.f0.length : Int)))) (by kernel_rfl) (by kernel_rfl) hc9 ?_
        refine J.skip (by kernel_rfl) ?_
        refine J.seq (by kernel_rfl) ?_
        refine J.block (id := 1) (by kernel_rfl) ?_
        refine J.seq (by kernel_rfl) ?_
        obtain ⟨x6_3, hx6_3, H⟩ := bindE H
        obtain ⟨hx6_3a, hx6_3⟩ := idxE hx6_3
        rcases condE H with ⟨hc10, H⟩ | ⟨hc10, H⟩
        · refine J.region (by kernel_rfl) ?_
          refine O.pure 3 [(0, 0)] [1, 3, 16, 17] [p0_0, 0] (fr' := [(1, .pointer (some ⟨p0_0, 0, none⟩)), (3, .int .i64 s2), (16, .slice h0.1 a0.f0.length h0.2), (17, .int .i64 s2)]) (bx' := [⟨p0_0, [.slice h0.1 a0.f0.length h0.2], 24⟩]) (by kernel_rfl) ?_
          refine O.open (d := kd43) (h := h0) (i := s2) 0 rfl hx6_3 (op43 _) (fun p6_3 hp6_3A => ?_)
          refine O.q (v := .pointer (some ⟨p6_3.1, p6_3.2.1 + s2.toNat * 3, none⟩)) (some 18) (Qu.idx (t := 22) (x := .tmp 16) (y := .tmp 17) (c := h0.2) (kk := .i64) (sz := 3) (by kernel_rfl) (by kernel_rfl) (by kernel_rfl) (by kernel_rfl) hx6_3a (idx_lt hx6_3) hp6_3A) (by kernel_rfl) ?_
          refine O.pure 3 [(1, 1)] [1, 3, 21] [p6_3.1, p6_3.2.1 + s2.toNat * 3 + 1] (fr' := [(1, .pointer (some ⟨p0_0, 0, none⟩)), (3, .int .i64 s2), (21, .int .i64 (x6_3.f1.length : Int))]) (bx' := [⟨p0_0, [.slice h0.1 a0.f0.length h0.2], 24⟩]) (by kernel_rfl) ?_
          refine O.q (v := .bool true) (some 22) (Qu.eqv (u := .bool (decide ((x6_3.f1.length : Int) > 30000))) (v := .bool true) (0, 0) [] (by kernel_rfl) (congrArg Value.bool hc10)) (by kernel_rfl) ?_
          refine O.pure 10 [] [1, 3, 24, 25, 26, 27, 28, 29, 30, 31, 32] [] (fr' := [(1, .pointer (some ⟨p0_0, 0, none⟩)), (3, .int .i64 s2), (24, undef), (25, undef), (26, undef), (27, undef), (28, undef), (29, undef), (30, undef), (31, undef), (32, .bool true)]) (bx' := [⟨p0_0, [.slice h0.1 a0.f0.length h0.2], 24⟩]) (by kernel_rfl) ?_
          refine O.nil (by kernel_rfl) ?_
          refine J.cond (o := .tmp 32) true (by kernel_rfl) (by kernel_rfl) ?_
          refine J.seq (by kernel_rfl) ?_
          refine J.region (by kernel_rfl) ?_
          refine O.pure 1 [] [2] [] (fr' := [(2, .bool true)]) (bx' := [⟨p0_0, [.slice h0.1 a0.f0.length h0.2], 24⟩]) (by kernel_rfl) ?_
          refine O.nil (by kernel_rfl) ?_
          obtain rfl := Option.some.inj H
          exact J.doneS [] [] [] [] [] () (vs := [.bool true]) (by kernel_rfl) (by kernel_rfl) (by kernel_rfl) (by kernel_rfl) (by kernel_rfl) (by decide)
        · obtain ⟨x6_12, hx6_12, H⟩ := bindE H
          obtain ⟨hx6_12a, hx6_12⟩ := idxE hx6_12
          refine J.region (by kernel_rfl) ?_
          refine O.pure 3 [(0, 0)] [1, 3, 16, 17] [p0_0, 0] (fr' := [(1, .pointer (some ⟨p0_0, 0, none⟩)), (3, .int .i64 s2), (16, .slice h0.1 a0.f0.length h0.2), (17, .int .i64 s2)]) (bx' := [⟨p0_0, [.slice h0.1 a0.f0.length h0.2], 24⟩]) (by kernel_rfl) ?_
          refine O.open (d := kd43) (h := h0) (i := s2) 0 rfl hx6_3 (op43 _) (fun p6_3 hp6_3A => ?_)
          refine O.q (v := .pointer (some ⟨p6_3.1, p6_3.2.1 + s2.toNat * 3, none⟩)) (some 18) (Qu.idx (t := 22) (x := .tmp 16) (y := .tmp 17) (c := h0.2) (kk := .i64) (sz := 3) (by kernel_rfl) (by kernel_rfl) (by kernel_rfl) (by kernel_rfl) hx6_3a (idx_lt hx6_3) hp6_3A) (by kernel_rfl) ?_
          refine O.pure 3 [(1, 1)] [1, 3, 21] [p6_3.1, p6_3.2.1 + s2.toNat * 3 + 1] (fr' := [(1, .pointer (some ⟨p0_0, 0, none⟩)), (3, .int .i64 s2), (21, .int .i64 (x6_3.f1.length : Int))]) (bx' := [⟨p0_0, [.slice h0.1 a0.f0.length h0.2], 24⟩]) (by kernel_rfl) ?_
          refine O.q (v := .bool false) (some 22) (Qu.eqv (u := .bool (decide ((x6_3.f1.length : Int) > 30000))) (v := .bool false) (0, 0) [] (by kernel_rfl) (congrArg Value.bool hc10)) (by kernel_rfl) ?_
          refine O.pure 4 [(0, 0)] [1, 3, 23, 24, 25, 26] [p0_0, 0] (fr' := [(1, .pointer (some ⟨p0_0, 0, none⟩)), (3, .int .i64 s2), (23, .bool false), (24, .pointer (some ⟨p0_0, 0, none⟩)), (25, .slice h0.1 a0.f0.length h0.2), (26, .int .i64 s2)]) (bx' := [⟨p0_0, [.slice h0.1 a0.f0.length h0.2], 24⟩]) (by kernel_rfl) ?_
          refine O.open (d := kd43) (h := h0) (i := s2) 1 rfl hx6_12 (op43 _) (fun p6_12 hp6_12A => ?_)
          refine O.q (v := .pointer (some ⟨p6_12.1, p6_12.2.1 + s2.toNat * 3, none⟩)) (some 27) (Qu.idx (t := 22) (x := .tmp 25) (y := .tmp 26) (c := h0.2) (kk := .i64) (sz := 3) (by kernel_rfl) (by kernel_rfl) (by kernel_rfl) (by kernel_rfl) hx6_12a (idx_lt hx6_12) hp6_12A) (by kernel_rfl) ?_
          refine O.pure 5 [(1, 0)] [1, 3, 24, 25, 26, 27, 28, 29, 30, 31, 32] [p6_12.1, p6_12.2.1 + s2.toNat * 3] (fr' := [(1, .pointer (some ⟨p0_0, 0, none⟩)), (3, .int .i64 s2), (24, .pointer (some ⟨p0_0, 0, none⟩)), (25, .slice h0.1 a0.f0.length h0.2), (26, .int .i64 s2), (27, .pointer (some ⟨p6_12.1, p6_12.2.1 + s2.toNat * 3, none⟩)), (28, .pointer (some ⟨p6_12.1, p6_12.2.1 + s2.toNat * 3, none⟩)), (29, .string x6_12.f0), (30, .int .i64 (x6_12.f0.size : Int)), (31, .bool (decide ((x6_12.f0.size : Int) > 100))), (32, .bool (decide ((x6_12.f0.size : Int) > 100)))]) (bx' := [⟨p0_0, [.slice h0.1 a0.f0.length h0.2], 24⟩]) (by kernel_rfl) ?_
          refine O.nil (by kernel_rfl) ?_
          rcases condE H with ⟨hc11, H⟩ | ⟨hc11, H⟩
          · refine J.condT (x := .tmp 32) (t := (decide ((x6_12.f0.size : Int) > 100))) (by kernel_rfl) (by kernel_rfl) hc11 ?_
            refine J.seq (by kernel_rfl) ?_
            refine J.region (by kernel_rfl) ?_
            refine O.pure 1 [] [2] [] (fr' := [(2, .bool true)]) (bx' := [⟨p0_0, [.slice h0.1 a0.f0.length h0.2], 24⟩]) (by kernel_rfl) ?_
            refine O.nil (by kernel_rfl) ?_
            obtain rfl := Option.some.inj H
            exact J.doneS [] [] [] [] [] () (vs := [.bool true]) (by kernel_rfl) (by kernel_rfl) (by kernel_rfl) (by kernel_rfl) (by kernel_rfl) (by decide)
          · refine J.condF (x := .tmp 32) (t := (decide ((x6_12.f0.size : Int) > 100))) (by kernel_rfl) (by kernel_rfl) hc11 ?_
            refine J.skip (by kernel_rfl) ?_
            refine J.out ?_
            refine J.region (by kernel_rfl) ?_
            refine O.pure 3 [] [1, 3, 24, 25, 26, 27, 28, 29, 30, 31] [] (fr' := [(1, .pointer (some ⟨p0_0, 0, none⟩)), (3, .int .i64 (IntKind.wrap .i64 (s2 + 1))), (24, .pointer (some ⟨p0_0, 0, none⟩)), (25, .slice h0.1 a0.f0.length h0.2), (26, .int .i64 s2), (27, .pointer (some ⟨p6_12.1, p6_12.2.1 + s2.toNat * 3, none⟩)), (28, .pointer (some ⟨p6_12.1, p6_12.2.1 + s2.toNat * 3, none⟩)), (29, .string x6_12.f0), (30, .int .i64 (x6_12.f0.size : Int)), (31, .bool (decide ((x6_12.f0.size : Int) > 100)))]) (bx' := [⟨p0_0, [.slice h0.1 a0.f0.length h0.2], 24⟩]) (by kernel_rfl) ?_
            refine O.nil (by kernel_rfl) ?_
            exact J.conv2 [1, 3] [2] [0] [] (by kernel_rfl) (by kernel_rfl) (by kernel_rfl) (by kernel_rfl) (by decide) (ih2 (IntKind.wrap .i64 (s2 + 1)) () H)
      · refine J.condF (x := .tmp 12) (t := (decide (s2 < (a0.f0.length : Int)))) (by kernel_rfl) (by kernel_rfl) hc9 ?_
        refine J.exit (id := 0) (by kernel_rfl) rfl ?_
        refine J.seq (by kernel_rfl) ?_
        refine J.region (by kernel_rfl) ?_
        refine O.pure 1 [] [2] [] (fr' := [(2, .bool false)]) (bx' := [⟨p0_0, [.slice h0.1 a0.f0.length h0.2], 24⟩]) (by kernel_rfl) ?_
        refine O.nil (by kernel_rfl) ?_
        obtain rfl := Option.some.inj H
        exact J.doneS [] [] [] [] [] () (vs := [.bool false]) (by kernel_rfl) (by kernel_rfl) (by kernel_rfl) (by kernel_rfl) (by kernel_rfl) (by decide)
    · exact J.conv2 [1, 3] [0] [0] [] (by kernel_rfl) (by kernel_rfl) (by kernel_rfl) (by kernel_rfl) (by decide) h_
/-! ### haywain/disk.named: function 30 -/
def disk_named.f (K : Nat) (a0 : ByteArray) : Option Bool := cond (decide ((a0.size : Int) ≥ 1)) (some ((decide ((a0.size : Int) ≤ 16)))) (some (false))
set_option maxRecDepth 100000 in
set_option maxHeartbeats 1000000 in
theorem disk_named.con (K : Nat) (a0 : ByteArray) (r : Bool) (X : Nat → Nat → Prop) (w : World) (hS : St X w [] [] [] [] [] w) (H : disk_named.f K a0 = some r) :
    Cn Try.prog 30 [.string a0] X w [] (fun i : Unit => .bool r) (fun i => []) (fun i => []) (fun i => []) := by
  refine Cn.of Try.func30 (by kernel_rfl) hS ?_
  unfold disk_named.f at H
  refine J.seq (by kernel_rfl) ?_
  refine J.region (by kernel_rfl) ?_
  refine O.pure 1 [] [0] [] (fr' := [(0, .string a0)]) (bx' := []) (by kernel_rfl) ?_
  refine O.nil (by kernel_rfl) ?_
  refine J.seq (by kernel_rfl) ?_
  rcases condE H with ⟨hc1, H⟩ | ⟨hc1, H⟩
  · refine J.region (by kernel_rfl) ?_
    refine O.pure 2 [] [0, 4] [] (fr' := [(0, .string a0), (4, .int .i64 (a0.size : Int))]) (bx' := []) (by kernel_rfl) ?_
    refine O.q (v := .bool true) (some 5) (Qu.eqv (u := .bool (decide ((a0.size : Int) ≥ 1))) (v := .bool true) (0, 0) [] (by kernel_rfl) (congrArg Value.bool hc1)) (by kernel_rfl) ?_
    refine O.pure 6 [] [2] [] (fr' := [(2, .bool (decide ((a0.size : Int) ≤ 16)))]) (bx' := []) (by kernel_rfl) ?_
    refine O.nil (by kernel_rfl) ?_
    obtain rfl := Option.some.inj H
    exact J.doneS [] [] [] [] [] () (vs := [.bool (decide ((a0.size : Int) ≤ 16))]) (by kernel_rfl) (by kernel_rfl) (by kernel_rfl) (by kernel_rfl) (by kernel_rfl) (by decide)
  · refine J.region (by kernel_rfl) ?_
    refine O.pure 2 [] [0, 4] [] (fr' := [(0, .string a0), (4, .int .i64 (a0.size : Int))]) (bx' := []) (by kernel_rfl) ?_
    refine O.q (v := .bool false) (some 5) (Qu.eqv (u := .bool (decide ((a0.size : Int) ≥ 1))) (v := .bool false) (0, 0) [] (by kernel_rfl) (congrArg Value.bool hc1)) (by kernel_rfl) ?_
    refine O.pure 6 [] [2] [] (fr' := [(2, .bool false)]) (bx' := []) (by kernel_rfl) ?_
    refine O.nil (by kernel_rfl) ?_
    obtain rfl := Option.some.inj H
    exact J.doneS [] [] [] [] [] () (vs := [.bool false]) (by kernel_rfl) (by kernel_rfl) (by kernel_rfl) (by kernel_rfl) (by kernel_rfl) (by decide)
/-! ### haywain/disk.Right: function 18 -/
def disk_Right.l1 (K : Nat) (a0 : S24) : Nat → (ByteArray × Int) → Option Bool
  | 0, _ => none
  | k + 1, s1 => cond (decide (s1.2 < (a0.f0.length : Int))) ((idxO a0.f0 s1.2).bind fun x4_0 => (disk_named.f K x4_0.f0).bind fun x5_2 => cond (!x5_2) (some (false)) (cond ((Op.bytesLess x4_0.f0.toList s1.1.toList) || (x4_0.f0.toList == s1.1.toList)) (some (false)) (cond (decide ((x4_0.f1.length : Int) > 20000)) (some (false)) (cond (decide (x4_0.f2 < 0)) (some (false)) (cond (decide (x4_0.f2 > (x4_0.f1.length : Int))) (some (false)) (disk_Right.l1 K a0 k (x4_0.f0, (IntKind.wrap .i64 (s1.2 + 1))))))))) (some ((decide ((a0.f0.length : Int) ≤ 40))))
def disk_Right.f (K : Nat) (a0 : S24) : Option Bool := disk_Right.l1 K a0 K ((⟨#[]⟩ : ByteArray), 0)
set_option maxRecDepth 100000 in
set_option maxHeartbeats 1000000 in
theorem disk_Right.con (K : Nat) (a0 : S24) (h0 : Hd) (r : Bool) (X : Nat → Nat → Prop) (w : World) (hS : St X w [] [] [] [] [Rd kd43 h0.1 h0.2 a0.f0] w) (H : disk_Right.f K a0 = some r) :
    Cn Try.prog 18 [.agg #[.slice h0.1 a0.f0.length h0.2]] X w [] (fun i : Unit => .bool r) (fun i => []) (fun i => []) (fun i => []) := by
  refine Cn.of Try.func18 (by kernel_rfl) hS ?_
  unfold disk_Right.f at H
  refine J.seq (by kernel_rfl) ?_
  refine J.region (by kernel_rfl) ?_
  refine O.e (some 1) (Ev.box (t := 24) (x := .tmp 0) (v := .agg #[.slice h0.1 a0.f0.length h0.2]) (by kernel_rfl) (by kernel_rfl)) (by kernel_rfl) (fun p0_0 => ?_)
  refine O.pure 1 [] [1] [] (fr' := [(1, .pointer (some ⟨p0_0, 0, none⟩))]) (bx' := [⟨p0_0, [.slice h0.1 a0.f0.length h0.2], 24⟩]) (by kernel_rfl) ?_
  refine O.nil (by kernel_rfl) ?_
  refine J.seq (by kernel_rfl) ?_
  refine J.region (by kernel_rfl) ?_
  refine O.pure 1 [] [1, 3] [] (fr' := [(1, .pointer (some ⟨p0_0, 0, none⟩)), (3, .string (⟨#[]⟩ : ByteArray))]) (bx' := [⟨p0_0, [.slice h0.1 a0.f0.length h0.2], 24⟩]) (by kernel_rfl) ?_
  refine O.nil (by kernel_rfl) ?_
  refine J.seq (by kernel_rfl) ?_
  refine J.seq (by kernel_rfl) ?_
  refine J.region (by kernel_rfl) ?_
  refine O.pure 4 [(0, 0)] [1, 3, 7, 8, 9] [p0_0, 0] (fr' := [(1, .pointer (some ⟨p0_0, 0, none⟩)), (3, .string (⟨#[]⟩ : ByteArray)), (7, .slice h0.1 a0.f0.length h0.2), (8, .int .i64 (a0.f0.length : Int)), (9, .int .i64 0)]) (bx' := [⟨p0_0, [.slice h0.1 a0.f0.length h0.2], 24⟩]) (by kernel_rfl) ?_
  refine O.nil (by kernel_rfl) ?_
  refine J.block (id := 0) (by kernel_rfl) ?_
  refine J.loopI (σ := ByteArray × Int) (γ := Unit) (f := fun m_ s_ => disk_Right.l1 K a0 m_ s_) (fun s1 g1 => [(1, .pointer (some ⟨p0_0, 0, none⟩)), (3, .string s1.1), (7, .slice h0.1 a0.f0.length h0.2), (8, .int .i64 (a0.f0.length : Int)), (9, .int .i64 s1.2)]) (fun s1 g1 => St X w [] [⟨p0_0, [.slice h0.1 a0.f0.length h0.2], 24⟩] [] [] [Rd kd43 h0.1 h0.2 a0.f0]) K ((⟨#[]⟩ : ByteArray), 0) () (by kernel_rfl) H (fun _ => rfl) (fun m_ s1 H ih1 g1 => ?_) (fun h_ => ?_)
  · unfold disk_Right.l1 at H
    refine J.seq (by kernel_rfl) ?_
    refine J.region (by kernel_rfl) ?_
    refine O.pure 1 [] [1, 3, 7, 8, 9, 10] [] (fr' := [(1, .pointer (some ⟨p0_0, 0, none⟩)), (3, .string s1.1), (7, .slice h0.1 a0.f0.length h0.2), (8, .int .i64 (a0.f0.length : Int)), (9, .int .i64 s1.2), (10, .bool (decide (s1.2 < (a0.f0.length : Int))))]) (bx' := [⟨p0_0, [.slice h0.1 a0.f0.length h0.2], 24⟩]) (by kernel_rfl) ?_
    refine O.nil (by kernel_rfl) ?_
    refine J.seq (by kernel_rfl) ?_
    rcases condE H with ⟨hc14, H⟩ | ⟨hc14, H⟩
    · refine J.condT (x := .tmp 10) (t := (decide (s1.2 < (a0.f0.length : Int)))) (by kernel_rfl) (by kernel_rfl) hc14 ?_
      refine J.skip (by kernel_rfl) ?_
      refine J.seq (by kernel_rfl) ?_
      refine J.block (id := 1) (by kernel_rfl) ?_
      refine J.seq (by kernel_rfl) ?_
      obtain ⟨x4_0, hx4_0, H⟩ := bindE H
      obtain ⟨hx4_0a, hx4_0⟩ := idxE hx4_0
      refine J.region (by kernel_rfl) ?_
      refine O.open (d := kd43) (h := h0) (i := s1.2) 0 rfl hx4_0 (op43 _) (fun p4_0 hp4_0A => ?_)
      refine O.q (v := .pointer (some ⟨p4_0.1, p4_0.2.1 + s1.2.toNat * 3, none⟩)) (some 11) (Qu.idx (t := 22) (x := .tmp 7) (y := .tmp 9) (c := h0.2) (kk := .i64) (sz := 3) (by kernel_rfl) (by kernel_rfl) (by kernel_rfl) (by kernel_rfl) hx4_0a (idx_lt hx4_0) hp4_0A) (by kernel_rfl) ?_
      refine O.pure 1 [(1, 0)] [1, 3, 7, 8, 9, 12] [p4_0.1, p4_0.2.1 + s1.2.toNat * 3] (fr' := [(1, .pointer (some ⟨p0_0, 0, none⟩)), (3, .string s1.1), (7, .slice h0.1 a0.f0.length h0.2), (8, .int .i64 (a0.f0.length : Int)), (9, .int .i64 s1.2), (12, .agg #[.string x4_0.f0, .slice p4_0.2.2.1 x4_0.f1.length p4_0.2.2.2, .int .i64 x4_0.f2])]) (bx' := [⟨p0_0, [.slice h0.1 a0.f0.length h0.2], 24⟩]) (by kernel_rfl) ?_
      refine O.e (some 5) (Ev.alloc (t := 43) (z := .agg #[.string (⟨#[]⟩ : ByteArray), .slice none 0 0, .int .i64 0]) (by kernel_rfl) (by kernel_rfl)) (by kernel_rfl) (fun p4_2 => ?_)
      refine O.pure 1 [(0, 0)] [1, 3, 5, 7, 8, 9] [p4_2, 0] (fr' := [(1, .pointer (some ⟨p0_0, 0, none⟩)), (3, .string s1.1), (5, .pointer (some ⟨p4_2, 0, none⟩)), (7, .slice h0.1 a0.f0.length h0.2), (8, .int .i64 (a0.f0.length : Int)), (9, .int .i64 s1.2)]) (bx' := [⟨p4_2, [.string x4_0.f0, .slice p4_0.2.2.1 x4_0.f1.length p4_0.2.2.2, .int .i64 x4_0.f2], 43⟩, ⟨p0_0, [.slice h0.1 a0.f0.length h0.2], 24⟩]) (by kernel_rfl) ?_
      refine O.nil (by kernel_rfl) ?_
      refine J.seq (by kernel_rfl) ?_
      refine J.seq (by kernel_rfl) ?_
      obtain ⟨x5_2, hx5_2, H⟩ := bindE H
      rcases condE H with ⟨hc15, H⟩ | ⟨hc15, H⟩
      · refine J.region (by kernel_rfl) ?_
        refine O.pure 2 [(0, 0)] [1, 3, 5, 7, 8, 9, 14] [p4_2, 0] (fr' := [(1, .pointer (some ⟨p0_0, 0, none⟩)), (3, .string s1.1), (5, .pointer (some ⟨p4_2, 0, none⟩)), (7, .slice h0.1 a0.f0.length h0.2), (8, .int .i64 (a0.f0.length : Int)), (9, .int .i64 s1.2), (14, .string x4_0.f0)]) (bx' := [⟨p4_2, [.string x4_0.f0, .slice p4_0.2.2.1 x4_0.f1.length p4_0.2.2.2, .int .i64 x4_0.f2], 43⟩, ⟨p0_0, [.slice h0.1 a0.f0.length h0.2], 24⟩]) (by kernel_rfl) ?_
        refine O.e (some 15) (Ev.call0 (xs := [.tmp 14]) [] (by kernel_rfl) (by kernel_rfl) (fun w hS => disk_named.con K x4_0.f0  _ _ w hS hx5_2)) (by kernel_rfl) (fun _ => ?_)
        refine O.q (v := .bool true) (some 16) (Qu.eqv (u := .bool (!x5_2)) (v := .bool true) (0, 0) [] (by kernel_rfl) (congrArg Value.bool hc15)) (by kernel_rfl) ?_
        refine O.pure 25 [] [1, 5, 7, 8, 9, 18, 19, 20, 21, 24, 25, 26, 27, 30, 31, 32, 35, 36, 37, 38, 39, 40, 41] [] (fr' := [(1, .pointer (some ⟨p0_0, 0, none⟩)), (5, .pointer (some ⟨p4_2, 0, none⟩)), (7, .slice h0.1 a0.f0.length h0.2), (8, .int .i64 (a0.f0.length : Int)), (9, .int .i64 s1.2), (18, undef), (19, undef), (20, undef), (21, undef), (24, undef), (25, undef), (26, undef), (27, undef), (30, undef), (31, undef), (32, undef), (35, undef), (36, undef), (37, undef), (38, undef), (39, undef), (40, undef), (41, .bool true)]) (bx' := [⟨p4_2, [.string x4_0.f0, .slice p4_0.2.2.1 x4_0.f1.length p4_0.2.2.2, .int .i64 x4_0.f2], 43⟩, ⟨p0_0, [.slice h0.1 a0.f0.length h0.2], 24⟩]) (by kernel_rfl) ?_
        refine O.nil (by kernel_rfl) ?_
        refine J.cond (o := .tmp 41) true (by kernel_rfl) (by kernel_rfl) ?_
        refine J.seq (by kernel_rfl) ?_
        refine J.region (by kernel_rfl) ?_
        refine O.pure 1 [] [2] [] (fr' := [(2, .bool false)]) (bx' := [⟨p4_2, [.string x4_0.f0, .slice p4_0.2.2.1 x4_0.f1.length p4_0.2.2.2, .int .i64 x4_0.f2], 43⟩, ⟨p0_0, [.slice h0.1 a0.f0.length h0.2], 24⟩]) (by kernel_rfl) ?_
        refine O.nil (by kernel_rfl) ?_
        obtain rfl := Option.some.inj H
        exact J.doneS [] [] [] [] [] () (vs := [.bool false]) (by kernel_rfl) (by kernel_rfl) (by kernel_rfl) (by kernel_rfl) (by kernel_rfl) (by decide)
      · rcases condE H with ⟨hc16, H⟩ | ⟨hc16, H⟩
        · refine J.region (by kernel_rfl) ?_
          refine O.pure 2 [(0, 0)] [1, 3, 5, 7, 8, 9, 14] [p4_2, 0] (fr' := [(1, .pointer (some ⟨p0_0, 0, none⟩)), (3, .string s1.1), (5, .pointer (some ⟨p4_2, 0, none⟩)), (7, .slice h0.1 a0.f0.length h0.2), (8, .int .i64 (a0.f0.length : Int)), (9, .int .i64 s1.2), (14, .string x4_0.f0)]) (bx' := [⟨p4_2, [.string x4_0.f0, .slice p4_0.2.2.1 x4_0.f1.length p4_0.2.2.2, .int .i64 x4_0.f2], 43⟩, ⟨p0_0, [.slice h0.1 a0.f0.length h0.2], 24⟩]) (by kernel_rfl) ?_
          refine O.e (some 15) (Ev.call0 (xs := [.tmp 14]) [] (by kernel_rfl) (by kernel_rfl) (fun w hS => disk_named.con K x4_0.f0  _ _ w hS hx5_2)) (by kernel_rfl) (fun _ => ?_)
          refine O.q (v := .bool false) (some 16) (Qu.eqv (u := .bool (!x5_2)) (v := .bool false) (0, 0) [] (by kernel_rfl) (congrArg Value.bool hc15)) (by kernel_rfl) ?_
          refine O.pure 4 [(0, 0)] [1, 5, 7, 8, 9, 17, 18, 19, 20] [p4_2, 0] (fr' := [(1, .pointer (some ⟨p0_0, 0, none⟩)), (5, .pointer (some ⟨p4_2, 0, none⟩)), (7, .slice h0.1 a0.f0.length h0.2), (8, .int .i64 (a0.f0.length : Int)), (9, .int .i64 s1.2), (17, .bool false), (18, .pointer (some ⟨p4_2, 0, none⟩)), (19, .string x4_0.f0), (20, .string s1.1)]) (bx' := [⟨p4_2, [.string x4_0.f0, .slice p4_0.2.2.1 x4_0.f1.length p4_0.2.2.2, .int .i64 x4_0.f2], 43⟩, ⟨p0_0, [.slice h0.1 a0.f0.length h0.2], 24⟩]) (by kernel_rfl) ?_
          refine O.q (v := .bool true) (some 21) (Qu.eqv (u := .bool ((Op.bytesLess x4_0.f0.toList s1.1.toList) || (x4_0.f0.toList == s1.1.toList))) (v := .bool true) (0, 0) [] (by kernel_rfl) (congrArg Value.bool hc16)) (by kernel_rfl) ?_
          refine O.pure 20 [] [1, 5, 7, 8, 9, 18, 19, 20, 21, 24, 25, 26, 27, 30, 31, 32, 35, 36, 37, 38, 39, 40, 41] [] (fr' := [(1, .pointer (some ⟨p0_0, 0, none⟩)), (5, .pointer (some ⟨p4_2, 0, none⟩)), (7, .slice h0.1 a0.f0.length h0.2), (8, .int .i64 (a0.f0.length : Int)), (9, .int .i64 s1.2), (18, .pointer (some ⟨p4_2, 0, none⟩)), (19, .string x4_0.f0), (20, .string s1.1), (21, .bool true), (24, undef), (25, undef), (26, undef), (27, undef), (30, undef), (31, undef), (32, undef), (35, undef), (36, undef), (37, undef), (38, undef), (39, undef), (40, undef), (41, .bool true)]) (bx' := [⟨p4_2, [.string x4_0.f0, .slice p4_0.2.2.1 x4_0.f1.length p4_0.2.2.2, .int .i64 x4_0.f2], 43⟩, ⟨p0_0, [.slice h0.1 a0.f0.length h0.2], 24⟩]) (by kernel_rfl) ?_
          refine O.nil (by kernel_rfl) ?_
          refine J.cond (o := .tmp 41) true (by kernel_rfl) (by kernel_rfl) ?_
          refine J.seq (by kernel_rfl) ?_
          refine J.region (by kernel_rfl) ?_
          refine O.pure 1 [] [2] [] (fr' := [(2, .bool false)]) (bx' := [⟨p4_2, [.string x4_0.f0, .slice p4_0.2.2.1 x4_0.f1.length p4_0.2.2.2, .int .i64 x4_0.f2], 43⟩, ⟨p0_0, [.slice h0.1 a0.f0.length h0.2], 24⟩]) (by kernel_rfl) ?_
          refine O.nil (by kernel_rfl) ?_
          obtain rfl := Option.some.inj H
          exact J.doneS [] [] [] [] [] () (vs := [.bool false]) (by kernel_rfl) (by kernel_rfl) (by kernel_rfl) (by kernel_rfl) (by kernel_rfl) (by decide)
        · rcases condE H with ⟨hc17, H⟩ | ⟨hc17, H⟩
          · refine J.region (by kernel_rfl) ?_
            refine O.pure 2 [(0, 0)] [1, 3, 5, 7, 8, 9, 14] [p4_2, 0] (fr' := [(1, .pointer (some ⟨p0_0, 0, none⟩)), (3, .string s1.1), (5, .pointer (some ⟨p4_2, 0, none⟩)), (7, .slice h0.1 a0.f0.length h0.2), (8, .int .i64 (a0.f0.length : Int)), (9, .int .i64 s1.2), (14, .string x4_0.f0)]) (bx' := [⟨p4_2, [.string x4_0.f0, .slice p4_0.2.2.1 x4_0.f1.length p4_0.2.2.2, .int .i64 x4_0.f2], 43⟩, ⟨p0_0, [.slice h0.1 a0.f0.length h0.2], 24⟩]) (by kernel_rfl) ?_
            refine O.e (some 15) (Ev.call0 (xs := [.tmp 14]) [] (by kernel_rfl) (by kernel_rfl) (fun w hS => disk_named.con K x4_0.f0  _ _ w hS hx5_2)) (by kernel_rfl) (fun _ => ?_)
            refine O.q (v := .bool false) (some 16) (Qu.eqv (u := .bool (!x5_2)) (v := .bool false) (0, 0) [] (by kernel_rfl) (congrArg Value.bool hc15)) (by kernel_rfl) ?_
            refine O.pure 4 [(0, 0)] [1, 5, 7, 8, 9, 17, 18, 19, 20] [p4_2, 0] (fr' := [(1, .pointer (some ⟨p0_0, 0, none⟩)), (5, .pointer (some ⟨p4_2, 0, none⟩)), (7, .slice h0.1 a0.f0.length h0.2), (8, .int .i64 (a0.f0.length : Int)), (9, .int .i64 s1.2), (17, .bool false), (18, .pointer (some ⟨p4_2, 0, none⟩)), (19, .string x4_0.f0), (20, .string s1.1)]) (bx' := [⟨p4_2, [.string x4_0.f0, .slice p4_0.2.2.1 x4_0.f1.length p4_0.2.2.2, .int .i64 x4_0.f2], 43⟩, ⟨p0_0, [.slice h0.1 a0.f0.length h0.2], 24⟩]) (by kernel_rfl) ?_
            refine O.q (v := .bool false) (some 21) (Qu.eqv (u := .bool ((Op.bytesLess x4_0.f0.toList s1.1.toList) || (x4_0.f0.toList == s1.1.toList))) (v := .bool false) (0, 0) [] (by kernel_rfl) (congrArg Value.bool hc16)) (by kernel_rfl) ?_
            refine O.pure 5 [(0, 1)] [1, 5, 7, 8, 9, 18, 19, 20, 21, 23, 24, 25, 26] [p4_2, 1] (fr' := [(1, .pointer (some ⟨p0_0, 0, none⟩)), (5, .pointer (some ⟨p4_2, 0, none⟩)), (7, .slice h0.1 a0.f0.length h0.2), (8, .int .i64 (a0.f0.length : Int)), (9, .int .i64 s1.2), (18, .pointer (some ⟨p4_2, 0, none⟩)), (19, .string x4_0.f0), (20, .string s1.1), (21, .bool false), (23, .bool false), (24, .pointer (some ⟨p4_2, 1, none⟩)), (25, .slice p4_0.2.2.1 x4_0.f1.length p4_0.2.2.2), (26, .int .i64 (x4_0.f1.length : Int))]) (bx' := [⟨p4_2, [.string x4_0.f0, .slice p4_0.2.2.1 x4_0.f1.length p4_0.2.2.2, .int .i64 x4_0.f2], 43⟩, ⟨p0_0, [.slice h0.1 a0.f0.length h0.2], 24⟩]) (by kernel_rfl) ?_
            refine O.q (v := .bool true) (some 27) (Qu.eqv (u := .bool (decide ((x4_0.f1.length : Int) > 20000))) (v := .bool true) (0, 0) [] (by kernel_rfl) (congrArg Value.bool hc17)) (by kernel_rfl) ?_
            refine O.pure 14 [] [1, 5, 7, 8, 9, 18, 19, 20, 21, 24, 25, 26, 27, 30, 31, 32, 35, 36, 37, 38, 39, 40, 41] [] (fr' := [(1, .pointer (some ⟨p0_0, 0, none⟩)), (5, .pointer (some ⟨p4_2, 0, none⟩)), (7, .slice h0.1 a0.f0.length h0.2), (8, .int .i64 (a0.f0.length : Int)), (9, .int .i64 s1.2), (18, .pointer (some ⟨p4_2, 0, none⟩)), (19, .string x4_0.f0), (20, .string s1.1), (21, .bool false), (24, .pointer (some ⟨p4_2, 1, none⟩)), (25, .slice p4_0.2.2.1 x4_0.f1.length p4_0.2.2.2), (26, .int .i64 (x4_0.f1.length : Int)), (27, .bool true), (30, undef), (31, undef), (32, undef), (35, undef), (36, undef), (37, undef), (38, undef), (39, undef), (40, undef), (41, .bool true)]) (bx' := [⟨p4_2, [.string x4_0.f0, .slice p4_0.2.2.1 x4_0.f1.length p4_0.2.2.2, .int .i64 x4_0.f2], 43⟩, ⟨p0_0, [.slice h0.1 a0.f0.length h0.2], 24⟩]) (by kernel_rfl) ?_
            refine O.nil (by kernel_rfl) ?_
            refine J.cond (o := .tmp 41) true (by kernel_rfl) (by kernel_rfl) ?_
            refine J.seq (by kernel_rfl) ?_
            refine J.region (by kernel_rfl) ?_
            refine O.pure 1 [] [2] [] (fr' := [(2, .bool false)]) (bx' := [⟨p4_2, [.string x4_0.f0, .slice p4_0.2.2.1 x4_0.f1.length p4_0.2.2.2, .int .i64 x4_0.f2], 43⟩, ⟨p0_0, [.slice h0.1 a0.f0.length h0.2], 24⟩]) (by kernel_rfl) ?_
            refine O.nil (by kernel_rfl) ?_
            obtain rfl := Option.some.inj H
            exact J.doneS [] [] [] [] [] () (vs := [.bool false]) (by kernel_rfl) (by kernel_rfl) (by kernel_rfl) (by kernel_rfl) (by kernel_rfl) (by decide)
          · rcases condE H with ⟨hc18, H⟩ | ⟨hc18, H⟩
            · refine J.region (by kernel_rfl) ?_
              refine O.pure 2 [(0, 0)] [1, 3, 5, 7, 8, 9, 14] [p4_2, 0] (fr' := [(1, .pointer (some ⟨p0_0, 0, none⟩)), (3, .string s1.1), (5, .pointer (some ⟨p4_2, 0, none⟩)), (7, .slice h0.1 a0.f0.length h0.2), (8, .int .i64 (a0.f0.length : Int)), (9, .int .i64 s1.2), (14, .string x4_0.f0)]) (bx' := [⟨p4_2, [.string x4_0.f0, .slice p4_0.2.2.1 x4_0.f1.length p4_0.2.2.2, .int .i64 x4_0.f2], 43⟩, ⟨p0_0, [.slice h0.1 a0.f0.length h0.2], 24⟩]) (by kernel_rfl) ?_
              refine O.e (some 15) (Ev.call0 (xs := [.tmp 14]) [] (by kernel_rfl) (by kernel_rfl) (fun w hS => disk_named.con K x4_0.f0  _ _ w hS hx5_2)) (by kernel_rfl) (fun _ => ?_)
              refine O.q (v := .bool false) (some 16) (Qu.eqv (u := .bool (!x5_2)) (v := .bool false) (0, 0) [] (by kernel_rfl) (congrArg Value.bool hc15)) (by kernel_rfl) ?_
              refine O.pure 4 [(0, 0)] [1, 5, 7, 8, 9, 17, 18, 19, 20] [p4_2, 0] (fr' := [(1, .pointer (some ⟨p0_0, 0, none⟩)), (5, .pointer (some ⟨p4_2, 0, none⟩)), (7, .slice h0.1 a0.f0.length h0.2), (8, .int .i64 (a0.f0.length : Int)), (9, .int .i64 s1.2), (17, .bool false), (18, .pointer (some ⟨p4_2, 0, none⟩)), (19, .string x4_0.f0), (20, .string s1.1)]) (bx' := [⟨p4_2, [.string x4_0.f0, .slice p4_0.2.2.1 x4_0.f1.length p4_0.2.2.2, .int .i64 x4_0.f2], 43⟩, ⟨p0_0, [.slice h0.1 a0.f0.length h0.2], 24⟩]) (by kernel_rfl) ?_
              refine O.q (v := .bool false) (some 21) (Qu.eqv (u := .bool ((Op.bytesLess x4_0.f0.toList s1.1.toList) || (x4_0.f0.toList == s1.1.toList))) (v := .bool false) (0, 0) [] (by kernel_rfl) (congrArg Value.bool hc16)) (by kernel_rfl) ?_
              refine O.pure 5 [(0, 1)] [1, 5, 7, 8, 9, 18, 19, 20, 21, 23, 24, 25, 26] [p4_2, 1] (fr' := [(1, .pointer (some ⟨p0_0, 0, none⟩)), (5, .pointer (some ⟨p4_2, 0, none⟩)), (7, .slice h0.1 a0.f0.length h0.2), (8, .int .i64 (a0.f0.length : Int)), (9, .int .i64 s1.2), (18, .pointer (some ⟨p4_2, 0, none⟩)), (19, .string x4_0.f0), (20, .string s1.1), (21, .bool false), (23, .bool false), (24, .pointer (some ⟨p4_2, 1, none⟩)), (25, .slice p4_0.2.2.1 x4_0.f1.length p4_0.2.2.2), (26, .int .i64 (x4_0.f1.length : Int))]) (bx' := [⟨p4_2, [.string x4_0.f0, .slice p4_0.2.2.1 x4_0.f1.length p4_0.2.2.2, .int .i64 x4_0.f2], 43⟩, ⟨p0_0, [.slice h0.1 a0.f0.length h0.2], 24⟩]) (by kernel_rfl) ?_
              refine O.q (v := .bool false) (some 27) (Qu.eqv (u := .bool (decide ((x4_0.f1.length : Int) > 20000))) (v := .bool false) (0, 0) [] (by kernel_rfl) (congrArg Value.bool hc17)) (by kernel_rfl) ?_
              refine O.pure 4 [(0, 2)] [1, 5, 7, 8, 9, 18, 19, 20, 21, 24, 25, 26, 27, 29, 30, 31] [p4_2, 2] (fr' := [(1, .pointer (some ⟨p0_0, 0, none⟩)), (5, .pointer (some ⟨p4_2, 0, none⟩)), (7, .slice h0.1 a0.f0.length h0.2), (8, .int .i64 (a0.f0.length : Int)), (9, .int .i64 s1.2), (18, .pointer (some ⟨p4_2, 0, none⟩)), (19, .string x4_0.f0), (20, .string s1.1), (21, .bool false), (24, .pointer (some ⟨p4_2, 1, none⟩)), (25, .slice p4_0.2.2.1 x4_0.f1.length p4_0.2.2.2), (26, .int .i64 (x4_0.f1.length : Int)), (27, .bool false), (29, .bool false), (30, .pointer (some ⟨p4_2, 2, none⟩)), (31, .int .i64 x4_0.f2)]) (bx' := [⟨p4_2, [.string x4_0.f0, .slice p4_0.2.2.1 x4_0.f1.length p4_0.2.2.2, .int .i64 x4_0.f2], 43⟩, ⟨p0_0, [.slice h0.1 a0.f0.length h0.2], 24⟩]) (by kernel_rfl) ?_
              refine O.q (v := .bool true) (some 32) (Qu.eqv (u := .bool (decide (x4_0.f2 < 0))) (v := .bool true) (0, 0) [] (by kernel_rfl) (congrArg Value.bool hc18)) (by kernel_rfl) ?_
              refine O.pure 9 [] [1, 5, 7, 8, 9, 18, 19, 20, 21, 24, 25, 26, 27, 30, 31, 32, 35, 36, 37, 38, 39, 40, 41] [] (fr' := [(1, .pointer (some ⟨p0_0, 0, none⟩)), (5, .pointer (some ⟨p4_2, 0, none⟩)), (7, .slice h0.1 a0.f0.length h0.2), (8, .int .i64 (a0.f0.length : Int)), (9, .int .i64 s1.2), (18, .pointer (some ⟨p4_2, 0, none⟩)), (19, .string x4_0.f0), (20, .string s1.1), (21, .bool false), (24, .pointer (some ⟨p4_2, 1, none⟩)), (25, .slice p4_0.2.2.1 x4_0.f1.length p4_0.2.2.2), (26, .int .i64 (x4_0.f1.length : Int)), (27, .bool false), (30, .pointer (some ⟨p4_2, 2, none⟩)), (31, .int .i64 x4_0.f2), (32, .bool true), (35, undef), (36, undef), (37, undef), (38, undef), (39, undef), (40, undef), (41, .bool true)]) (bx' := [⟨p4_2, [.string x4_0.f0, .slice p4_0.2.2.1 x4_0.f1.length p4_0.2.2.2, .int .i64 x4_0.f2], 43⟩, ⟨p0_0, [.slice h0.1 a0.f0.length h0.2], 24⟩]) (by kernel_rfl) ?_
              refine O.nil (by kernel_rfl) ?_
              refine J.cond (o := .tmp 41) true (by kernel_rfl) (by kernel_rfl) ?_
              refine J.seq (by kernel_rfl) ?_
              refine J.region (by kernel_rfl) ?_
              refine O.pure 1 [] [2] [] (fr' := [(2, .bool false)]) (bx' := [⟨p4_2, [.string x4_0.f0, .slice p4_0.2.2.1 x4_0.f1.length p4_0.2.2.2, .int .i64 x4_0.f2], 43⟩, ⟨p0_0, [.slice h0.1 a0.f0.length h0.2], 24⟩]) (by kernel_rfl) ?_
              refine O.nil (by kernel_rfl) ?_
              obtain rfl := Option.some.inj H
              exact J.doneS [] [] [] [] [] () (vs := [.bool false]) (by kernel_rfl) (by kernel_rfl) (by kernel_rfl) (by kernel_rfl) (by kernel_rfl) (by decide)
            · refine J.region (by kernel_rfl) ?_
              refine O.pure 2 [(0, 0)] [1, 3, 5, 7, 8, 9, 14] [p4_2, 0] (fr' := [(1, .pointer (some ⟨p0_0, 0, none⟩)), (3, .string s1.1), (5, .pointer (some ⟨p4_2, 0, none⟩)), (7, .slice h0.1 a0.f0.length h0.2), (8, .int .i64 (a0.f0.length : Int)), (9, .int .i64 s1.2), (14, .string x4_0.f0)]) (bx' := [⟨p4_2, [.string x4_0.f0, .slice p4_0.2.2.1 x4_0.f1.length p4_0.2.2.2, .int .i64 x4_0.f2], 43⟩, ⟨p0_0, [.slice h0.1 a0.f0.length h0.2], 24⟩]) (by kernel_rfl) ?_
              refine O.e (some 15) (Ev.call0 (xs := [.tmp 14]) [] (by kernel_rfl) (by kernel_rfl) (fun w hS => disk_named.con K x4_0.f0  _ _ w hS hx5_2)) (by kernel_rfl) (fun _ => ?_)
              refine O.q (v := .bool false) (some 16) (Qu.eqv (u := .bool (!x5_2)) (v := .bool false) (0, 0) [] (by kernel_rfl) (congrArg Value.bool hc15)) (by kernel_rfl) ?_
              refine O.pure 4 [(0, 0)] [1, 5, 7, 8, 9, 17, 18, 19, 20] [p4_2, 0] (fr' := [(1, .pointer (some ⟨p0_0, 0, none⟩)), (5, .pointer (some ⟨p4_2, 0, none⟩)), (7, .slice h0.1 a0.f0.length h0.2), (8, .int .i64 (a0.f0.length : Int)), (9, .int .i64 s1.2), (17, .bool false), (18, .pointer (some ⟨p4_2, 0, none⟩)), (19, .string x4_0.f0), (20, .string s1.1)]) (bx' := [⟨p4_2, [.string x4_0.f0, .slice p4_0.2.2.1 x4_0.f1.length p4_0.2.2.2, .int .i64 x4_0.f2], 43⟩, ⟨p0_0, [.slice h0.1 a0.f0.length h0.2], 24⟩]) (by kernel_rfl) ?_
              refine O.q (v := .bool false) (some 21) (Qu.eqv (u := .bool ((Op.bytesLess x4_0.f0.toList s1.1.toList) || (x4_0.f0.toList == s1.1.toList))) (v := .bool false) (0, 0) [] (by kernel_rfl) (congrArg Value.bool hc16)) (by kernel_rfl) ?_
              refine O.pure 5 [(0, 1)] [1, 5, 7, 8, 9, 18, 19, 20, 21, 23, 24, 25, 26] [p4_2, 1] (fr' := [(1, .pointer (some ⟨p0_0, 0, none⟩)), (5, .pointer (some ⟨p4_2, 0, none⟩)), (7, .slice h0.1 a0.f0.length h0.2), (8, .int .i64 (a0.f0.length : Int)), (9, .int .i64 s1.2), (18, .pointer (some ⟨p4_2, 0, none⟩)), (19, .string x4_0.f0), (20, .string s1.1), (21, .bool false), (23, .bool false), (24, .pointer (some ⟨p4_2, 1, none⟩)), (25, .slice p4_0.2.2.1 x4_0.f1.length p4_0.2.2.2), (26, .int .i64 (x4_0.f1.length : Int))]) (bx' := [⟨p4_2, [.string x4_0.f0, .slice p4_0.2.2.1 x4_0.f1.length p4_0.2.2.2, .int .i64 x4_0.f2], 43⟩, ⟨p0_0, [.slice h0.1 a0.f0.length h0.2], 24⟩]) (by kernel_rfl) ?_
              refine O.q (v := .bool false) (some 27) (Qu.eqv (u := .bool (decide ((x4_0.f1.length : Int) > 20000))) (v := .bool false) (0, 0) [] (by kernel_rfl) (congrArg Value.bool hc17)) (by kernel_rfl) ?_
              refine O.pure 4 [(0, 2)] [1, 5, 7, 8, 9, 18, 19, 20, 21, 24, 25, 26, 27, 29, 30, 31] [p4_2, 2] (fr' := [(1, .pointer (some ⟨p0_0, 0, none⟩)), (5, .pointer (some ⟨p4_2, 0, none⟩)), (7, .slice h0.1 a0.f0.length h0.2), (8, .int .i64 (a0.f0.length : Int)), (9, .int .i64 s1.2), (18, .pointer (some ⟨p4_2, 0, none⟩)), (19, .string x4_0.f0), (20, .string s1.1), (21, .bool false), (24, .pointer (some ⟨p4_2, 1, none⟩)), (25, .slice p4_0.2.2.1 x4_0.f1.length p4_0.2.2.2), (26, .int .i64 (x4_0.f1.length : Int)), (27, .bool false), (29, .bool false), (30, .pointer (some ⟨p4_2, 2, none⟩)), (31, .int .i64 x4_0.f2)]) (bx' := [⟨p4_2, [.string x4_0.f0, .slice p4_0.2.2.1 x4_0.f1.length p4_0.2.2.2, .int .i64 x4_0.f2], 43⟩, ⟨p0_0, [.slice h0.1 a0.f0.length h0.2], 24⟩]) (by kernel_rfl) ?_
              refine O.q (v := .bool false) (some 32) (Qu.eqv (u := .bool (decide (x4_0.f2 < 0))) (v := .bool false) (0, 0) [] (by kernel_rfl) (congrArg Value.bool hc18)) (by kernel_rfl) ?_
              refine O.pure 9 [(0, 2), (0, 1)] [1, 5, 7, 8, 9, 18, 19, 20, 21, 24, 25, 26, 27, 30, 31, 32, 35, 36, 37, 38, 39, 40, 41] [p4_2, 2, p4_2, 1] (fr' := [(1, .pointer (some ⟨p0_0, 0, none⟩)), (5, .pointer (some ⟨p4_2, 0, none⟩)), (7, .slice h0.1 a0.f0.length h0.2), (8, .int .i64 (a0.f0.length : Int)), (9, .int .i64 s1.2), (18, .pointer (some ⟨p4_2, 0, none⟩)), (19, .string x4_0.f0), (20, .string s1.1), (21, .bool false), (24, .pointer (some ⟨p4_2, 1, none⟩)), (25, .slice p4_0.2.2.1 x4_0.f1.length p4_0.2.2.2), (26, .int .i64 (x4_0.f1.length : Int)), (27, .bool false), (30, .pointer (some ⟨p4_2, 2, none⟩)), (31, .int .i64 x4_0.f2), (32, .bool false), (35, .pointer (some ⟨p4_2, 2, none⟩)), (36, .int .i64 x4_0.f2), (37, .pointer (some ⟨p4_2, 1, none⟩)), (38, .slice p4_0.2.2.1 x4_0.f1.length p4_0.2.2.2), (39, .int .i64 (x4_0.f1.length : Int)), (40, .bool (decide (x4_0.f2 > (x4_0.f1.length : Int)))), (41, .bool (decide (x4_0.f2 > (x4_0.f1.length : Int))))]) (bx' := [⟨p4_2, [.string x4_0.f0, .slice p4_0.2.2.1 x4_0.f1.length p4_0.2.2.2, .int .i64 x4_0.f2], 43⟩, ⟨p0_0, [.slice h0.1 a0.f0.length h0.2], 24⟩]) (by kernel_rfl) ?_
              refine O.nil (by kernel_rfl) ?_
              rcases condE H with ⟨hc19, H⟩ | ⟨hc19, H⟩
              · refine J.condT (x := .tmp 41) (t := (decide (x4_0.f2 > (x4_0.f1.length : Int)))) (by kernel_rfl) (by kernel_rfl) hc19 ?_
                refine J.seq (by kernel_rfl) ?_
                refine J.region (by kernel_rfl) ?_
                refine O.pure 1 [] [2] [] (fr' := [(2, .bool false)]) (bx' := [⟨p4_2, [.string x4_0.f0, .slice p4_0.2.2.1 x4_0.f1.length p4_0.2.2.2, .int .i64 x4_0.f2], 43⟩, ⟨p0_0, [.slice h0.1 a0.f0.length h0.2], 24⟩]) (by kernel_rfl) ?_
                refine O.nil (by kernel_rfl) ?_
                obtain rfl := Option.some.inj H
                exact J.doneS [] [] [] [] [] () (vs := [.bool false]) (by kernel_rfl) (by kernel_rfl) (by kernel_rfl) (by kernel_rfl) (by kernel_rfl) (by decide)
              · refine J.condF (x := .tmp 41) (t := (decide (x4_0.f2 > (x4_0.f1.length : Int)))) (by kernel_rfl) (by kernel_rfl) hc19 ?_
                refine J.skip (by kernel_rfl) ?_
                refine J.region (by kernel_rfl) ?_
                refine O.pure 3 [(0, 0)] [1, 3, 7, 8, 9, 18, 19, 20, 21, 24, 25, 26, 27, 30, 31, 32, 35, 36, 37, 38, 39, 40] [p4_2, 0] (fr' := [(1, .pointer (some ⟨p0_0, 0, none⟩)), (3, .string x4_0.f0), (7, .slice h0.1 a0.f0.length h0.2), (8, .int .i64 (a0.f0.length : Int)), (9, .int .i64 s1.2), (18, .pointer (some ⟨p4_2, 0, none⟩)), (19, .string x4_0.f0), (20, .string s1.1), (21, .bool false), (24, .pointer (some ⟨p4_2, 1, none⟩)), (25, .slice p4_0.2.2.1 x4_0.f1.length p4_0.2.2.2), (26, .int .i64 (x4_0.f1.length : Int)), (27, .bool false), (30, .pointer (some ⟨p4_2, 2, none⟩)), (31, .int .i64 x4_0.f2), (32, .bool false), (35, .pointer (some ⟨p4_2, 2, none⟩)), (36, .int .i64 x4_0.f2), (37, .pointer (some ⟨p4_2, 1, none⟩)), (38, .slice p4_0.2.2.1 x4_0.f1.length p4_0.2.2.2), (39, .int .i64 (x4_0.f1.length : Int)), (40, .bool (decide (x4_0.f2 > (x4_0.f1.length : Int))))]) (bx' := [⟨p4_2, [.string x4_0.f0, .slice p4_0.2.2.1 x4_0.f1.length p4_0.2.2.2, .int .i64 x4_0.f2], 43⟩, ⟨p0_0, [.slice h0.1 a0.f0.length h0.2], 24⟩]) (by kernel_rfl) ?_
                refine O.nil (by kernel_rfl) ?_
                refine J.out ?_
                refine J.region (by kernel_rfl) ?_
                refine O.pure 2 [] [1, 3, 7, 8, 9, 18, 19, 20, 21, 24, 25, 26, 27, 30, 31, 32, 35, 36, 37, 38, 39, 40] [] (fr' := [(1, .pointer (some ⟨p0_0, 0, none⟩)), (3, .string x4_0.f0), (7, .slice h0.1 a0.f0.length h0.2), (8, .int .i64 (a0.f0.length : Int)), (9, .int .i64 (IntKind.wrap .i64 (s1.2 + 1))), (18, .pointer (some ⟨p4_2, 0, none⟩)), (19, .string x4_0.f0), (20, .string s1.1), (21, .bool false), (24, .pointer (some ⟨p4_2, 1, none⟩)), (25, .slice p4_0.2.2.1 x4_0.f1.length p4_0.2.2.2), (26, .int .i64 (x4_0.f1.length : Int)), (27, .bool false), (30, .pointer (some ⟨p4_2, 2, none⟩)), (31, .int .i64 x4_0.f2), (32, .bool false), (35, .pointer (some ⟨p4_2, 2, none⟩)), (36, .int .i64 x4_0.f2), (37, .pointer (some ⟨p4_2, 1, none⟩)), (38, .slice p4_0.2.2.1 x4_0.f1.length p4_0.2.2.2), (39, .int .i64 (x4_0.f1.length : Int)), (40, .bool (decide (x4_0.f2 > (x4_0.f1.length : Int))))]) (bx' := [⟨p4_2, [.string x4_0.f0, .slice p4_0.2.2.1 x4_0.f1.length p4_0.2.2.2, .int .i64 x4_0.f2], 43⟩, ⟨p0_0, [.slice h0.1 a0.f0.length h0.2], 24⟩]) (by kernel_rfl) ?_
                refine O.nil (by kernel_rfl) ?_
                exact J.conv2 [1, 3, 7, 8, 9] [1] [1] [] (by kernel_rfl) (by kernel_rfl) (by kernel_rfl) (by kernel_rfl) (by decide) (ih1 (x4_0.f0, (IntKind.wrap .i64 (s1.2 + 1))) () H)
    · refine J.condF (x := .tmp 10) (t := (decide (s1.2 < (a0.f0.length : Int)))) (by kernel_rfl) (by kernel_rfl) hc14 ?_
      refine J.exit (id := 0) (by kernel_rfl) rfl ?_
      refine J.seq (by kernel_rfl) ?_
      refine J.region (by kernel_rfl) ?_
      refine O.pure 5 [(0, 0)] [2] [p0_0, 0] (fr' := [(2, .bool (decide ((a0.f0.length : Int) ≤ 40)))]) (bx' := [⟨p0_0, [.slice h0.1 a0.f0.length h0.2], 24⟩]) (by kernel_rfl) ?_
      refine O.nil (by kernel_rfl) ?_
      obtain rfl := Option.some.inj H
      exact J.doneS [] [] [] [] [] () (vs := [.bool (decide ((a0.f0.length : Int) ≤ 40))]) (by kernel_rfl) (by kernel_rfl) (by kernel_rfl) (by kernel_rfl) (by kernel_rfl) (by decide)
  · exact J.conv2 [1, 3, 7, 8, 9] [0] [0] [] (by kernel_rfl) (by kernel_rfl) (by kernel_rfl) (by kernel_rfl) (by decide) h_
/-! ### haywain/disk.own: function 28 -/
def disk_own.l2 (K : Nat) (a0 : S24) : Nat → (Int × (List S43)) → Option S24
  | 0, _ => none
  | k + 1, s2 => cond (decide (s2.1 < (a0.f0.length : Int))) ((idxO a0.f0 s2.1).bind fun x6_0 => (appO 1 ([] : List Int) x6_0.f1).bind fun y7_3 => (appO 48 s2.2 ([(⟨x6_0.f0, (([] : List Int) ++ x6_0.f1), x6_0.f2⟩ : S43)] : List S43)).bind fun y8_4 => disk_own.l2 K a0 k ((IntKind.wrap .i64 (s2.1 + 1)), (s2.2 ++ ([(⟨x6_0.f0, (([] : List Int) ++ x6_0.f1), x6_0.f2⟩ : S43)] : List S43)))) (some ((⟨s2.2⟩ : S24)))
def disk_own.f (K : Nat) (a0 : S24) : Option S24 := (disk_Right.f K a0).bind fun x1_1 => cond (!x1_1) (some ((⟨([] : List S43)⟩ : S24))) (disk_own.l2 K a0 K (0, ([] : List S43)))
set_option maxRecDepth 100000 in
set_option maxHeartbeats 1000000 in
theorem disk_own.con (K : Nat) (a0 : S24) (h0 : Hd) (r : S24) (X : Nat → Nat → Prop) (w : World) (hS : St X w [] [] [] [] [Rd kd43 h0.1 h0.2 a0.f0] w) (H : disk_own.f K a0 = some r) :
    Cn Try.prog 28 [.agg #[.slice h0.1 a0.f0.length h0.2]] X w [] (fun i : Hd => .agg #[.slice i.1 r.f0.length i.2]) (fun i => []) (fun i => [mkRow kd43 43 (.slice i.1 r.f0.length i.2) r.f0]) (fun i => []) := by
  refine Cn.of Try.func28 (by kernel_rfl) hS ?_
  unfold disk_own.f at H
  refine J.seq (by kernel_rfl) ?_
  refine J.region (by kernel_rfl) ?_
  refine O.e (some 1) (Ev.box (t := 24) (x := .tmp 0) (v := .agg #[.slice h0.1 a0.f0.length h0.2]) (by kernel_rfl) (by kernel_rfl)) (by kernel_rfl) (fun p0_0 => ?_)
  refine O.e (some 2) (Ev.alloc (t := 24) (z := .agg #[.slice none 0 0]) (by kernel_rfl) (by kernel_rfl)) (by kernel_rfl) (fun p0_1 => ?_)
  refine O.nil (by kernel_rfl) ?_
  refine J.seq (by kernel_rfl) ?_
  refine J.seq (by kernel_rfl) ?_
  obtain ⟨x1_1, hx1_1, H⟩ := bindE H
  refine J.region (by kernel_rfl) ?_
  refine O.pure 1 [(1, 0)] [1, 2, 6] [p0_0, 0] (fr' := [(1, .pointer (some ⟨p0_0, 0, none⟩)), (2, .pointer (some ⟨p0_1, 0, none⟩)), (6, .agg #[.slice h0.1 a0.f0.length h0.2])]) (bx' := [⟨p0_1, [.slice none 0 0], 24⟩, ⟨p0_0, [.slice h0.1 a0.f0.length h0.2], 24⟩]) (by kernel_rfl) ?_
  refine O.e (some 7) (Ev.call0 (xs := [.tmp 6]) [0] (by kernel_rfl) (by kernel_rfl) (fun w hS => disk_Right.con K a0 h0  _ _ w hS hx1_1)) (by kernel_rfl) (fun _ => ?_)
  refine O.pure 1 [] [1, 2, 8] [] (fr' := [(1, .pointer (some ⟨p0_0, 0, none⟩)), (2, .pointer (some ⟨p0_1, 0, none⟩)), (8, .bool (!x1_1))]) (bx' := [⟨p0_1, [.slice none 0 0], 24⟩, ⟨p0_0, [.slice h0.1 a0.f0.length h0.2], 24⟩]) (by kernel_rfl) ?_
  refine O.nil (by kernel_rfl) ?_
  rcases condE H with ⟨hc1, H⟩ | ⟨hc1, H⟩
  · refine J.condT (x := .tmp 8) (t := (!x1_1)) (by kernel_rfl) (by kernel_rfl) hc1 ?_
    refine J.seq (by kernel_rfl) ?_
    refine J.region (by kernel_rfl) ?_
    refine O.pure 2 [(0, 0)] [2] [p0_1, 0] (fr' := [(2, .pointer (some ⟨p0_1, 0, none⟩))]) (bx' := [⟨p0_1, [.slice none 0 0], 24⟩, ⟨p0_0, [.slice h0.1 a0.f0.length h0.2], 24⟩]) (by kernel_rfl) ?_
    refine O.nil (by kernel_rfl) ?_
    obtain rfl := Option.some.inj H
    refine J.nilrow kd43 43 ?_
    exact J.doneS [(0, 0)] [p0_1, 0] [] [] [0] (none, 0) (vs := [.agg #[.slice none 0 0]]) (by kernel_rfl) (by kernel_rfl) (by kernel_rfl) (by kernel_rfl) (by kernel_rfl) (by decide)
  · refine J.condF (x := .tmp 8) (t := (!x1_1)) (by kernel_rfl) (by kernel_rfl) hc1 ?_
    refine J.skip (by kernel_rfl) ?_
    refine J.seq (by kernel_rfl) ?_
    refine J.region (by kernel_rfl) ?_
    refine O.e (some 3) (Ev.alloc (t := 24) (z := .agg #[.slice none 0 0]) (by kernel_rfl) (by kernel_rfl)) (by kernel_rfl) (fun p3_0 => ?_)
    refine O.nil (by kernel_rfl) ?_
    refine J.seq (by kernel_rfl) ?_
    refine J.seq (by kernel_rfl) ?_
    refine J.region (by kernel_rfl) ?_
    refine O.pure 4 [(2, 0)] [2, 3, 11, 12, 13] [p0_0, 0] (fr' := [(2, .pointer (some ⟨p0_1, 0, none⟩)), (3, .pointer (some ⟨p3_0, 0, none⟩)), (11, .slice h0.1 a0.f0.length h0.2), (12, .int .i64 (a0.f0.length : Int)), (13, .int .i64 0)]) (bx' := [⟨p3_0, [.slice none 0 0], 24⟩, ⟨p0_1, [.slice none 0 0], 24⟩, ⟨p0_0, [.slice h0.1 a0.f0.length h0.2], 24⟩]) (by kernel_rfl) ?_
    refine O.nil (by kernel_rfl) ?_
    refine J.block (id := 0) (by kernel_rfl) ?_
    refine J.loopI (σ := Int × (List S43)) (γ := Hd) (f := fun m_ s_ => disk_own.l2 K a0 m_ s_) (fun s2 g2 => [(2, .pointer (some ⟨p0_1, 0, none⟩)), (3, .pointer (some ⟨p3_0, 0, none⟩)), (11, .slice h0.1 a0.f0.length h0.2), (12, .int .i64 (a0.f0.length : Int)), (13, .int .i64 s2.1)]) (fun s2 g2 => St X w [] [⟨p3_0, [.slice g2.1 s2.2.length g2.2], 24⟩, ⟨p0_1, [.slice none 0 0], 24⟩] [mkRow kd43 43 (.slice g2.1 s2.2.length g2.2) s2.2] [] [Rd kd43 h0.1 h0.2 a0.f0]) K (0, ([] : List S43)) (none, 0) (by kernel_rfl) H (fun _ => rfl) (fun m_ s2 H ih2 g2 => ?_) (fun h_ => ?_)
    · unfold disk_own.l2 at H
      refine J.seq (by kernel_rfl) ?_
      refine J.region (by kernel_rfl) ?_
      refine O.pure 1 [] [2, 3, 11, 12, 13, 14] [] (fr' := [(2, .pointer (some ⟨p0_1, 0, none⟩)), (3, .pointer (some ⟨p3_0, 0, none⟩)), (11, .slice h0.1 a0.f0.length h0.2), (12, .int .i64 (a0.f0.length : Int)), (13, .int .i64 s2.1), (14, .bool (decide (s2.1 < (a0.f0.length : Int))))]) (bx' := [⟨p3_0, [.slice g2.1 s2.2.length g2.2], 24⟩, ⟨p0_1, [.slice none 0 0], 24⟩]) (by kernel_rfl) ?_
      refine O.nil (by kernel_rfl) ?_
      refine J.seq (by kernel_rfl) ?_
      rcases condE H with ⟨hc5, H⟩ | ⟨hc5, H⟩
      · refine J.condT (x := .tmp 14) (t := (decide (s2.1 < (a0.f0.length : Int)))) (by kernel_rfl) (by kernel_rfl) hc5 ?_
        refine J.skip (by kernel_rfl) ?_
        refine J.seq (by kernel_rfl) ?_
        refine J.block (id := 1) (by kernel_rfl) ?_
        refine J.seq (by kernel_rfl) ?_
        obtain ⟨x6_0, hx6_0, H⟩ := bindE H
        obtain ⟨hx6_0a, hx6_0⟩ := idxE hx6_0
        refine J.region (by kernel_rfl) ?_
        refine O.open (d := kd43) (h := h0) (i := s2.1) 0 rfl hx6_0 (op43 _) (fun p6_0 hp6_0A => ?_)
        refine O.q (v := .pointer (some ⟨p6_0.1, p6_0.2.1 + s2.1.toNat * 3, none⟩)) (some 15) (Qu.idx (t := 22) (x := .tmp 11) (y := .tmp 13) (c := h0.2) (kk := .i64) (sz := 3) (by kernel_rfl) (by kernel_rfl) (by kernel_rfl) (by kernel_rfl) hx6_0a (idx_lt hx6_0) hp6_0A) (by kernel_rfl) ?_
        refine O.pure 1 [(2, 0)] [2, 3, 11, 12, 13, 16] [p6_0.1, p6_0.2.1 + s2.1.toNat * 3] (fr' := [(2, .pointer (some ⟨p0_1, 0, none⟩)), (3, .pointer (some ⟨p3_0, 0, none⟩)), (11, .slice h0.1 a0.f0.length h0.2), (12, .int .i64 (a0.f0.length : Int)), (13, .int .i64 s2.1), (16, .agg #[.string x6_0.f0, .slice p6_0.2.2.1 x6_0.f1.length p6_0.2.2.2, .int .i64 x6_0.f2])]) (bx' := [⟨p3_0, [.slice g2.1 s2.2.length g2.2], 24⟩, ⟨p0_1, [.slice none 0 0], 24⟩]) (by kernel_rfl) ?_
        refine O.e (some 5) (Ev.alloc (t := 43) (z := .agg #[.string (⟨#[]⟩ : ByteArray), .slice none 0 0, .int .i64 0]) (by kernel_rfl) (by kernel_rfl)) (by kernel_rfl) (fun p6_2 => ?_)
        refine O.pure 1 [(0, 0)] [2, 3, 5, 11, 12, 13] [p6_2, 0] (fr' := [(2, .pointer (some ⟨p0_1, 0, none⟩)), (3, .pointer (some ⟨p3_0, 0, none⟩)), (5, .pointer (some ⟨p6_2, 0, none⟩)), (11, .slice h0.1 a0.f0.length h0.2), (12, .int .i64 (a0.f0.length : Int)), (13, .int .i64 s2.1)]) (bx' := [⟨p6_2, [.string x6_0.f0, .slice p6_0.2.2.1 x6_0.f1.length p6_0.2.2.2, .int .i64 x6_0.f2], 43⟩, ⟨p3_0, [.slice g2.1 s2.2.length g2.2], 24⟩, ⟨p0_1, [.slice none 0 0], 24⟩]) (by kernel_rfl) ?_
        refine O.nil (by kernel_rfl) ?_
        refine J.seq (by kernel_rfl) ?_
        obtain ⟨y7_3, hy7_3, H⟩ := bindE H
        have hy7_3a := (appE hy7_3).1
        refine J.region (by kernel_rfl) ?_
        refine O.e (some 17) (Ev.lit (t := 30) (len := 0) (parts := #[]) (ps := []) (cs := []) (e := 5) (Kd.int .u8) ([] : List Int) (by kernel_rfl) (by kernel_rfl) (by kernel_rfl) (by kernel_rfl) (by kernel_rfl) (by decide) (fun w' hφ => (Els.nil _ _ _))) (by kernel_rfl) (fun p7_0 => ?_)
        refine O.pure 2 [(0, 1)] [2, 3, 5, 11, 12, 13, 17, 19] [p6_2, 1] (fr' := [(2, .pointer (some ⟨p0_1, 0, none⟩)), (3, .pointer (some ⟨p3_0, 0, none⟩)), (5, .pointer (some ⟨p6_2, 0, none⟩)), (11, .slice h0.1 a0.f0.length h0.2), (12, .int .i64 (a0.f0.length : Int)), (13, .int .i64 s2.1), (17, .slice ((some ⟨p7_0, 0, none⟩, 0) : Hd).1 ([] : List Int).length ((some ⟨p7_0, 0, none⟩, 0) : Hd).2), (19, .slice p6_0.2.2.1 x6_0.f1.length p6_0.2.2.2)]) (bx' := [⟨p6_2, [.string x6_0.f0, .slice p6_0.2.2.1 x6_0.f1.length p6_0.2.2.2, .int .i64 x6_0.f2], 43⟩, ⟨p3_0, [.slice g2.1 s2.2.length g2.2], 24⟩, ⟨p0_1, [.slice none 0 0], 24⟩]) (by kernel_rfl) ?_
        refine O.e (some 20) (Ev.appSl (d := (Kd.int .u8)) (ys := x6_0.f1) (A := p6_0.2.2.1) (c := p6_0.2.2.2) (x := .tmp 17) (y := .tmp 19) (t := 30) (bytes := 1) 0 (by kernel_rfl) (by kernel_rfl) (by kernel_rfl) rfl (by kernel_rfl) (by decide) hy7_3a) (by kernel_rfl) (fun p7_3 => ?_)
        refine O.pure 2 [(0, 1)] [2, 3, 5, 11, 12, 13] [p6_2, 1] (fr' := [(2, .pointer (some ⟨p0_1, 0, none⟩)), (3, .pointer (some ⟨p3_0, 0, none⟩)), (5, .pointer (some ⟨p6_2, 0, none⟩)), (11, .slice h0.1 a0.f0.length h0.2), (12, .int .i64 (a0.f0.length : Int)), (13, .int .i64 s2.1)]) (bx' := [⟨p6_2, [.string x6_0.f0, .slice p7_3.1 (([] : List Int) ++ x6_0.f1).length p7_3.2, .int .i64 x6_0.f2], 43⟩, ⟨p3_0, [.slice g2.1 s2.2.length g2.2], 24⟩, ⟨p0_1, [.slice none 0 0], 24⟩]) (by kernel_rfl) ?_
        refine O.nil (by kernel_rfl) ?_
        obtain ⟨y8_4, hy8_4, H⟩ := bindE H
        have hy8_4a := (appE hy8_4).1
        refine J.region (by kernel_rfl) ?_
        refine O.pure 3 [(1, 0), (0, 0)] [2, 3, 11, 12, 13, 23, 24] [p3_0, 0, p6_2, 0] (fr' := [(2, .pointer (some ⟨p0_1, 0, none⟩)), (3, .pointer (some ⟨p3_0, 0, none⟩)), (11, .slice h0.1 a0.f0.length h0.2), (12, .int .i64 (a0.f0.length : Int)), (13, .int .i64 s2.1), (23, .slice g2.1 s2.2.length g2.2), (24, .agg #[.string x6_0.f0, .slice p7_3.1 (([] : List Int) ++ x6_0.f1).length p7_3.2, .int .i64 x6_0.f2])]) (bx' := [⟨p6_2, [.string x6_0.f0, .slice p7_3.1 (([] : List Int) ++ x6_0.f1).length p7_3.2, .int .i64 x6_0.f2], 43⟩, ⟨p3_0, [.slice g2.1 s2.2.length g2.2], 24⟩, ⟨p0_1, [.slice none 0 0], 24⟩]) (by kernel_rfl) ?_
        refine O.e (some 25) (Ev.mono (fun w hS => hS.freezeH (h := p7_3) (xs := (([] : List Int) ++ x6_0.f1))) (Ev.lit (t := 22) (len := 1) (parts := #[(0, .tmp 24)]) (ps := [(0, .agg #[.string x6_0.f0, .slice p7_3.1 (([] : List Int) ++ x6_0.f1).length p7_3.2, .int .i64 x6_0.f2])]) (cs := [.string x6_0.f0, .slice p7_3.1 (([] : List Int) ++ x6_0.f1).length p7_3.2, .int .i64 x6_0.f2]) (e := 43) kd43 ([(⟨x6_0.f0, (([] : List Int) ++ x6_0.f1), x6_0.f2⟩ : S43)] : List S43) (by kernel_rfl) (by kernel_rfl) (by kernel_rfl) (by kernel_rfl) (by kernel_rfl) (by decide) (fun w' hφ => (Els.cons (c := [.string x6_0.f0, .slice p7_3.1 (([] : List Int) ++ x6_0.f1).length p7_3.2, .int .i64 x6_0.f2]) (⟨p7_3, rfl, hφ _ (List.mem_of_getElem? (i := 0) rfl)⟩) (Els.nil _ _ _))))) (by kernel_rfl) (fun p8_3 => ?_)
        refine O.e (some 26) (Ev.appLit (x := .tmp 23) (y := .tmp 25) (t := 22) (bytes := 48) (by kernel_rfl) (by kernel_rfl) (by kernel_rfl) (by kernel_rfl) (by kernel_rfl) (by decide) hy8_4a) (by kernel_rfl) (fun p8_4 => ?_)
        refine O.pure 2 [(1, 0)] [2, 3, 11, 12, 13] [p3_0, 0] (fr' := [(2, .pointer (some ⟨p0_1, 0, none⟩)), (3, .pointer (some ⟨p3_0, 0, none⟩)), (11, .slice h0.1 a0.f0.length h0.2), (12, .int .i64 (a0.f0.length : Int)), (13, .int .i64 s2.1)]) (bx' := [⟨p6_2, [.string x6_0.f0, .slice p7_3.1 (([] : List Int) ++ x6_0.f1).length p7_3.2, .int .i64 x6_0.f2], 43⟩, ⟨p3_0, [.slice p8_4.1 (s2.2 ++ ([(⟨x6_0.f0, (([] : List Int) ++ x6_0.f1), x6_0.f2⟩ : S43)] : List S43)).length p8_4.2], 24⟩, ⟨p0_1, [.slice none 0 0], 24⟩]) (by kernel_rfl) ?_
        refine O.nil (by kernel_rfl) ?_
        refine J.out ?_
        refine J.region (by kernel_rfl) ?_
        refine O.pure 2 [] [2, 3, 11, 12, 13] [] (fr' := [(2, .pointer (some ⟨p0_1, 0, none⟩)), (3, .pointer (some ⟨p3_0, 0, none⟩)), (11, .slice h0.1 a0.f0.length h0.2), (12, .int .i64 (a0.f0.length : Int)), (13, .int .i64 (IntKind.wrap .i64 (s2.1 + 1)))]) (bx' := [⟨p6_2, [.string x6_0.f0, .slice p7_3.1 (([] : List Int) ++ x6_0.f1).length p7_3.2, .int .i64 x6_0.f2], 43⟩, ⟨p3_0, [.slice p8_4.1 (s2.2 ++ ([(⟨x6_0.f0, (([] : List Int) ++ x6_0.f1), x6_0.f2⟩ : S43)] : List S43)).length p8_4.2], 24⟩, ⟨p0_1, [.slice none 0 0], 24⟩]) (by kernel_rfl) ?_
        refine O.nil (by kernel_rfl) ?_
        exact J.conv2 [2, 3, 11, 12, 13] [2] [1, 2] [0] (by kernel_rfl) (by kernel_rfl) (by kernel_rfl) (by kernel_rfl) (by decide) (ih2 ((IntKind.wrap .i64 (s2.1 + 1)), (s2.2 ++ ([(⟨x6_0.f0, (([] : List Int) ++ x6_0.f1), x6_0.f2⟩ : S43)] : List S43))) p8_4 H)
      · refine J.condF (x := .tmp 14) (t := (decide (s2.1 < (a0.f0.length : Int)))) (by kernel_rfl) (by kernel_rfl) hc5 ?_
        refine J.exit (id := 0) (by kernel_rfl) rfl ?_
        refine J.seq (by kernel_rfl) ?_
        refine J.region (by kernel_rfl) ?_
        refine O.pure 2 [(0, 0), (1, 0)] [2] [p3_0, 0, p0_1, 0] (fr' := [(2, .pointer (some ⟨p0_1, 0, none⟩))]) (bx' := [⟨p3_0, [.slice g2.1 s2.2.length g2.2], 24⟩, ⟨p0_1, [.slice g2.1 s2.2.length g2.2], 24⟩]) (by kernel_rfl) ?_
        refine O.nil (by kernel_rfl) ?_
        obtain rfl := Option.some.inj H
        exact J.doneS [(1, 0)] [p0_1, 0] [] [] [0] g2 (vs := [.agg #[.slice g2.1 s2.2.length g2.2]]) (by kernel_rfl) (by kernel_rfl) (by kernel_rfl) (by kernel_rfl) (by kernel_rfl) (by decide)
    · refine J.nilrow kd43 43 ?_
      exact J.conv2 [2, 3, 11, 12, 13] [0] [0, 1] [0] (by kernel_rfl) (by kernel_rfl) (by kernel_rfl) (by kernel_rfl) (by decide) h_
/-! ### disk.own once more: where the elements' bytes lie -/
def sh43 : Sh1 S43 where
  sz := 3
  cl := fun x h => [.string x.f0, .slice h.1 x.f1.length h.2, .int .i64 x.f2]
  dat := fun x => x.f1
  len := fun _ _ => rfl
  one := by intro x h u hu; simp at hu; rcases hu with rfl | rfl | rfl <;> rfl
theorem imp43 (lk : S43 → Hd → Prop) : ∀ (w : World) (x : S43) (cs : List Value), (sh43.kd lk (fun _ => True)).K w x cs → kd43.K w x cs := by
  rintro w x cs ⟨h, rfl, _, hr⟩
  exact ⟨h, rfl, hr trivial⟩
theorem opS43 (zs : List (S43 × Hd)) (x : S43) : Lay (sh43.kdS zs) x (fun i : Hd => [.string x.f0, .slice i.1 x.f1.length i.2, .int .i64 x.f2]) (fun i => [Rd (Kd.int .u8) i.1 i.2 x.f1, fun _ => (x, i) ∈ zs ∨ i = (none, 0)]) := by
  intro X w cs h
  obtain ⟨h0, rfl, hl, hr⟩ := h w (Away.refl _ _)
  refine ⟨h0, rfl, fun f hf w' hw => ?_⟩
  obtain ⟨k, e, kl, kr⟩ := h w' hw
  simp only [sh43, List.cons.injEq, Value.slice.injEq, and_true, true_and] at e
  obtain rfl : k = h0 := Prod.ext e.1.symm e.2.symm
  simp only [List.mem_cons, List.not_mem_nil, or_false] at hf
  rcases hf with rfl | rfl
  · exact kr trivial
  · exact kl
theorem opE43 (p : S43 → Prop) (x : S43) : Lay (sh43.kdE p) x (fun i : Hd => [.string x.f0, .slice i.1 x.f1.length i.2, .int .i64 x.f2]) (fun i => []) := by
  intro X w cs h
  obtain ⟨h0, rfl, hl, hr⟩ := h w (Away.refl _ _)
  exact ⟨h0, rfl, fun f hf => by simp at hf⟩
set_option maxRecDepth 100000 in
set_option maxHeartbeats 1000000 in
theorem disk_own.conD (K : Nat) (a0 : S24) (h0 : Hd) (r : S24) (X : Nat → Nat → Prop) (w : World) (hS : St X w [] [] [] [] [Rd kd43 h0.1 h0.2 a0.f0] w) (H : disk_own.f K a0 = some r) :
    Calls Try.prog 28 ([.agg #[.slice h0.1 a0.f0.length h0.2]] : List Value).toArray w fun e w' => ∃ u, e = .returned u ∧ ∃ i : Hd × List (S43 × Hd), u = .agg #[.slice i.1.1 r.f0.length i.1.2] ∧ St X w [] [] [mkRow (sh43.kdS i.2) 43 (.slice i.1.1 r.f0.length i.1.2) r.f0] [] [] w' ∧ Deep w.heap.size 5 i.2 w' ∧ ∀ z ∈ i.2, ∀ b ∈ hdB z.2, b ∉ ownB (.slice i.1.1 r.f0.length i.1.2) := by
  refine Calls.ofQ (Q := fun u w' => ∃ i : Hd × List (S43 × Hd), u = .agg #[.slice i.1.1 r.f0.length i.1.2] ∧ St X w [] [] [mkRow (sh43.kdS i.2) 43 (.slice i.1.1 r.f0.length i.1.2) r.f0] [] [] w' ∧ Deep w.heap.size 5 i.2 w' ∧ ∀ z ∈ i.2, ∀ b ∈ hdB z.2, b ∉ ownB (.slice i.1.1 r.f0.length i.1.2)) Try.func28 (by kernel_rfl) hS ?_
  unfold disk_own.f at H
  refine J.seq (by kernel_rfl) ?_
  refine J.region (by kernel_rfl) ?_
  refine O.e (some 1) (Ev.box (t := 24) (x := .tmp 0) (v := .agg #[.slice h0.1 a0.f0.length h0.2]) (by kernel_rfl) (by kernel_rfl)) (by kernel_rfl) (fun p0_0 => ?_)
  refine O.e (some 2) (Ev.alloc (t := 24) (z := .agg #[.slice none 0 0]) (by kernel_rfl) (by kernel_rfl)) (by kernel_rfl) (fun p0_1 => ?_)
  refine O.nil (by kernel_rfl) ?_
  refine J.seq (by kernel_rfl) ?_
  refine J.seq (by kernel_rfl) ?_
  obtain ⟨x1_1, hx1_1, H⟩ := bindE H
  refine J.region (by kernel_rfl) ?_
  refine O.pure 1 [(1, 0)] [1, 2, 6] [p0_0, 0] (fr' := [(1, .pointer (some ⟨p0_0, 0, none⟩)), (2, .pointer (some ⟨p0_1, 0, none⟩)), (6, .agg #[.slice h0.1 a0.f0.length h0.2])]) (bx' := [⟨p0_1, [.slice none 0 0], 24⟩, ⟨p0_0, [.slice h0.1 a0.f0.length h0.2], 24⟩]) (by kernel_rfl) ?_
  refine O.e (some 7) (Ev.call0 (xs := [.tmp 6]) [0] (by kernel_rfl) (by kernel_rfl) (fun w hS => disk_Right.con K a0 h0  _ _ w hS hx1_1)) (by kernel_rfl) (fun _ => ?_)
  refine O.pure 1 [] [1, 2, 8] [] (fr' := [(1, .pointer (some ⟨p0_0, 0, none⟩)), (2, .pointer (some ⟨p0_1, 0, none⟩)), (8, .bool (!x1_1))]) (bx' := [⟨p0_1, [.slice none 0 0], 24⟩, ⟨p0_0, [.slice h0.1 a0.f0.length h0.2], 24⟩]) (by kernel_rfl) ?_
  refine O.nil (by kernel_rfl) ?_
  rcases condE H with ⟨hc1, H⟩ | ⟨hc1, H⟩
  · refine J.condT (x := .tmp 8) (t := (!x1_1)) (by kernel_rfl) (by kernel_rfl) hc1 ?_
    refine J.seq (by kernel_rfl) ?_
    refine J.region (by kernel_rfl) ?_
    refine O.pure 2 [(0, 0)] [2] [p0_1, 0] (fr' := [(2, .pointer (some ⟨p0_1, 0, none⟩))]) (bx' := [⟨p0_1, [.slice none 0 0], 24⟩, ⟨p0_0, [.slice h0.1 a0.f0.length h0.2], 24⟩]) (by kernel_rfl) ?_
    refine O.nil (by kernel_rfl) ?_
    obtain rfl := Option.some.inj H
    refine J.nilrow (sh43.kdS []) 43 ?_
    refine J.doneQ [(0, 0)] [p0_1, 0] (vs := [.agg #[.slice none 0 0]]) (by kernel_rfl) (by kernel_rfl) (fun w' hS' => ?_)
    refine ⟨((none, 0), []), rfl, ?_, Deep.nil _ _ _, fun z hz => by simp at hz⟩
    exact St.sub (hS'.facts_sel [] rfl).noro (fun p hp => by simp at hp) (fun r hr => hr) (by simp [keys, mkRow, ownB])
  · refine J.condF (x := .tmp 8) (t := (!x1_1)) (by kernel_rfl) (by kernel_rfl) hc1 ?_
    refine J.skip (by kernel_rfl) ?_
    refine J.seq (by kernel_rfl) ?_
    refine J.region (by kernel_rfl) ?_
    refine O.e (some 3) (Ev.alloc (t := 24) (z := .agg #[.slice none 0 0]) (by kernel_rfl) (by kernel_rfl)) (by kernel_rfl) (fun p3_0 => ?_)
    refine O.nil (by kernel_rfl) ?_
    refine J.seq (by kernel_rfl) ?_
    refine J.seq (by kernel_rfl) ?_
    refine J.region (by kernel_rfl) ?_
    refine O.pure 4 [(2, 0)] [2, 3, 11, 12, 13] [p0_0, 0] (fr' := [(2, .pointer (some ⟨p0_1, 0, none⟩)), (3, .pointer (some ⟨p3_0, 0, none⟩)), (11, .slice h0.1 a0.f0.length h0.2), (12, .int .i64 (a0.f0.length : Int)), (13, .int .i64 0)]) (bx' := [⟨p3_0, [.slice none 0 0], 24⟩, ⟨p0_1, [.slice none 0 0], 24⟩, ⟨p0_0, [.slice h0.1 a0.f0.length h0.2], 24⟩]) (by kernel_rfl) ?_
    refine O.nil (by kernel_rfl) ?_
    refine J.block (id := 0) (by kernel_rfl) ?_
    refine J.loopI (σ := Int × (List S43)) (γ := Hd × List (S43 × Hd)) (f := fun m_ s_ => disk_own.l2 K a0 m_ s_) (fun s2 g2 => [(2, .pointer (some ⟨p0_1, 0, none⟩)), (3, .pointer (some ⟨p3_0, 0, none⟩)), (11, .slice h0.1 a0.f0.length h0.2), (12, .int .i64 (a0.f0.length : Int)), (13, .int .i64 s2.1)]) (fun s2 g2 w' => St X w [] [⟨p3_0, [.slice g2.1.1 g2.2.length g2.1.2], 24⟩, ⟨p0_1, [.slice none 0 0], 24⟩] (mkRow sh43.kdH 43 (.slice g2.1.1 g2.2.length g2.1.2) g2.2 :: sh43.inner 5 g2.2) [] [Rd kd43 h0.1 h0.2 a0.f0] w' ∧ g2.2.map (·.1) = s2.2) K (0, ([] : List S43)) ((none, 0), []) (by kernel_rfl) H (fun _ => rfl) (fun m_ s2 H ih2 g2 => ?_) (fun h_ => ?_)
    · refine J.andp (fun hzs => ?_)
      unfold disk_own.l2 at H
      refine J.seq (by kernel_rfl) ?_
      refine J.region (by kernel_rfl) ?_
      refine O.pure 1 [] [2, 3, 11, 12, 13, 14] [] (fr' := [(2, .pointer (some ⟨p0_1, 0, none⟩)), (3, .pointer (some ⟨p3_0, 0, none⟩)), (11, .slice h0.1 a0.f0.length h0.2), (12, .int .i64 (a0.f0.length : Int)), (13, .int .i64 s2.1), (14, .bool (decide (s2.1 < (a0.f0.length : Int))))]) (bx' := [⟨p3_0, [.slice g2.1.1 g2.2.length g2.1.2], 24⟩, ⟨p0_1, [.slice none 0 0], 24⟩]) (by kernel_rfl) ?_
      refine O.nil (by kernel_rfl) ?_
      refine J.seq (by kernel_rfl) ?_
      rcases condE H with ⟨hc5, H⟩ | ⟨hc5, H⟩
      · refine J.condT (x := .tmp 14) (t := (decide (s2.1 < (a0.f0.length : Int)))) (by kernel_rfl) (by kernel_rfl) hc5 ?_
        refine J.skip (by kernel_rfl) ?_
        refine J.seq (by kernel_rfl) ?_
        refine J.block (id := 1) (by kernel_rfl) ?_
        refine J.seq (by kernel_rfl) ?_
        obtain ⟨x6_0, hx6_0, H⟩ := bindE H
        obtain ⟨hx6_0a, hx6_0⟩ := idxE hx6_0
        refine J.region (by kernel_rfl) ?_
        refine O.open (d := kd43) (h := h0) (i := s2.1) 0 rfl hx6_0 (op43 _) (fun p6_0 hp6_0A => ?_)
        refine O.q (v := .pointer (some ⟨p6_0.1, p6_0.2.1 + s2.1.toNat * 3, none⟩)) (some 15) (Qu.idx (t := 22) (x := .tmp 11) (y := .tmp 13) (c := h0.2) (kk := .i64) (sz := 3) (by kernel_rfl) (by kernel_rfl) (by kernel_rfl) (by kernel_rfl) hx6_0a (idx_lt hx6_0) hp6_0A) (by kernel_rfl) ?_
        refine O.pure 1 [(2, 0)] [2, 3, 11, 12, 13, 16] [p6_0.1, p6_0.2.1 + s2.1.toNat * 3] (fr' := [(2, .pointer (some ⟨p0_1, 0, none⟩)), (3, .pointer (some ⟨p3_0, 0, none⟩)), (11, .slice h0.1 a0.f0.length h0.2), (12, .int .i64 (a0.f0.length : Int)), (13, .int .i64 s2.1), (16, .agg #[.string x6_0.f0, .slice p6_0.2.2.1 x6_0.f1.length p6_0.2.2.2, .int .i64 x6_0.f2])]) (bx' := [⟨p3_0, [.slice g2.1.1 g2.2.length g2.1.2], 24⟩, ⟨p0_1, [.slice none 0 0], 24⟩]) (by kernel_rfl) ?_
        refine O.e (some 5) (Ev.alloc (t := 43) (z := .agg #[.string (⟨#[]⟩ : ByteArray), .slice none 0 0, .int .i64 0]) (by kernel_rfl) (by kernel_rfl)) (by kernel_rfl) (fun p6_2 => ?_)
        refine O.pure 1 [(0, 0)] [2, 3, 5, 11, 12, 13] [p6_2, 0] (fr' := [(2, .pointer (some ⟨p0_1, 0, none⟩)), (3, .pointer (some ⟨p3_0, 0, none⟩)), (5, .pointer (some ⟨p6_2, 0, none⟩)), (11, .slice h0.1 a0.f0.length h0.2), (12, .int .i64 (a0.f0.length : Int)), (13, .int .i64 s2.1)]) (bx' := [⟨p6_2, [.string x6_0.f0, .slice p6_0.2.2.1 x6_0.f1.length p6_0.2.2.2, .int .i64 x6_0.f2], 43⟩, ⟨p3_0, [.slice g2.1.1 g2.2.length g2.1.2], 24⟩, ⟨p0_1, [.slice none 0 0], 24⟩]) (by kernel_rfl) ?_
        refine O.nil (by kernel_rfl) ?_
        refine J.seq (by kernel_rfl) ?_
        obtain ⟨y7_3, hy7_3, H⟩ := bindE H
        have hy7_3a := (appE hy7_3).1
        refine J.region (by kernel_rfl) ?_
        refine O.e (some 17) (Ev.lit (t := 30) (len := 0) (parts := #[]) (ps := []) (cs := []) (e := 5) (Kd.int .u8) ([] : List Int) (by kernel_rfl) (by kernel_rfl) (by kernel_rfl) (by kernel_rfl) (by kernel_rfl) (by decide) (fun w' hφ => (Els.nil _ _ _))) (by kernel_rfl) (fun p7_0 => ?_)
        refine O.pure 2 [(0, 1)] [2, 3, 5, 11, 12, 13, 17, 19] [p6_2, 1] (fr' := [(2, .pointer (some ⟨p0_1, 0, none⟩)), (3, .pointer (some ⟨p3_0, 0, none⟩)), (5, .pointer (some ⟨p6_2, 0, none⟩)), (11, .slice h0.1 a0.f0.length h0.2), (12, .int .i64 (a0.f0.length : Int)), (13, .int .i64 s2.1), (17, .slice ((some ⟨p7_0, 0, none⟩, 0) : Hd).1 ([] : List Int).length ((some ⟨p7_0, 0, none⟩, 0) : Hd).2), (19, .slice p6_0.2.2.1 x6_0.f1.length p6_0.2.2.2)]) (bx' := [⟨p6_2, [.string x6_0.f0, .slice p6_0.2.2.1 x6_0.f1.length p6_0.2.2.2, .int .i64 x6_0.f2], 43⟩, ⟨p3_0, [.slice g2.1.1 g2.2.length g2.1.2], 24⟩, ⟨p0_1, [.slice none 0 0], 24⟩]) (by kernel_rfl) ?_
        refine O.e (some 20) (Ev.appSl (d := (Kd.int .u8)) (ys := x6_0.f1) (A := p6_0.2.2.1) (c := p6_0.2.2.2) (x := .tmp 17) (y := .tmp 19) (t := 30) (bytes := 1) 0 (by kernel_rfl) (by kernel_rfl) (by kernel_rfl) rfl (by kernel_rfl) (by decide) hy7_3a) (by kernel_rfl) (fun p7_3 => ?_)
        refine O.pure 2 [(0, 1)] [2, 3, 5, 11, 12, 13] [p6_2, 1] (fr' := [(2, .pointer (some ⟨p0_1, 0, none⟩)), (3, .pointer (some ⟨p3_0, 0, none⟩)), (5, .pointer (some ⟨p6_2, 0, none⟩)), (11, .slice h0.1 a0.f0.length h0.2), (12, .int .i64 (a0.f0.length : Int)), (13, .int .i64 s2.1)]) (bx' := [⟨p6_2, [.string x6_0.f0, .slice p7_3.1 (([] : List Int) ++ x6_0.f1).length p7_3.2, .int .i64 x6_0.f2], 43⟩, ⟨p3_0, [.slice g2.1.1 g2.2.length g2.1.2], 24⟩, ⟨p0_1, [.slice none 0 0], 24⟩]) (by kernel_rfl) ?_
        refine O.nil (by kernel_rfl) ?_
        obtain ⟨y8_4, hy8_4, H⟩ := bindE H
        have hy8_4a := (appE hy8_4).1
        have hlen : (g2.2.length + ([((⟨x6_0.f0, (([] : List Int) ++ x6_0.f1), x6_0.f2⟩ : S43), p7_3)] : List (S43 × Hd)).length) * 48 ≤ 140737488355328 := by
          have : s2.2.length = g2.2.length := by rw [← hzs, List.length_map]
          rw [← this]; exact hy8_4a
        refine J.mono (fun w' hS' => St.perm hS' (List.Perm.swap _ _ _)) ?_
        refine J.region (by kernel_rfl) ?_
        refine O.pure 3 [(1, 0), (0, 0)] [2, 3, 11, 12, 13, 23, 24] [p3_0, 0, p6_2, 0] (fr' := [(2, .pointer (some ⟨p0_1, 0, none⟩)), (3, .pointer (some ⟨p3_0, 0, none⟩)), (11, .slice h0.1 a0.f0.length h0.2), (12, .int .i64 (a0.f0.length : Int)), (13, .int .i64 s2.1), (23, .slice g2.1.1 g2.2.length g2.1.2), (24, .agg #[.string x6_0.f0, .slice p7_3.1 (([] : List Int) ++ x6_0.f1).length p7_3.2, .int .i64 x6_0.f2])]) (bx' := [⟨p6_2, [.string x6_0.f0, .slice p7_3.1 (([] : List Int) ++ x6_0.f1).length p7_3.2, .int .i64 x6_0.f2], 43⟩, ⟨p3_0, [.slice g2.1.1 g2.2.length g2.1.2], 24⟩, ⟨p0_1, [.slice none 0 0], 24⟩]) (by kernel_rfl) ?_
        refine O.e (some 25) (Ev.lit (t := 22) (len := 1) (parts := #[(0, .tmp 24)]) (ps := [(0, .agg #[.string x6_0.f0, .slice p7_3.1 (([] : List Int) ++ x6_0.f1).length p7_3.2, .int .i64 x6_0.f2])]) (cs := [.string x6_0.f0, .slice p7_3.1 (([] : List Int) ++ x6_0.f1).length p7_3.2, .int .i64 x6_0.f2]) (e := 43) sh43.kdH ([((⟨x6_0.f0, (([] : List Int) ++ x6_0.f1), x6_0.f2⟩ : S43), p7_3)] : List (S43 × Hd)) (by kernel_rfl) (by kernel_rfl) (by kernel_rfl) (by kernel_rfl) (by kernel_rfl) (by decide) (fun w' hφ => (Els.cons (c := [.string x6_0.f0, .slice p7_3.1 (([] : List Int) ++ x6_0.f1).length p7_3.2, .int .i64 x6_0.f2]) rfl (Els.nil _ _ _)))) (by kernel_rfl) (fun p8_3 => ?_)
        refine O.e (some 26) (Ev.appLit (x := .tmp 23) (y := .tmp 25) (t := 22) (bytes := 48) (by kernel_rfl) (by kernel_rfl) (by kernel_rfl) (by kernel_rfl) (by kernel_rfl) (by decide) hlen) (by kernel_rfl) (fun p8_4 => ?_)
        refine O.pure 2 [(1, 0)] [2, 3, 11, 12, 13] [p3_0, 0] (fr' := [(2, .pointer (some ⟨p0_1, 0, none⟩)), (3, .pointer (some ⟨p3_0, 0, none⟩)), (11, .slice h0.1 a0.f0.length h0.2), (12, .int .i64 (a0.f0.length : Int)), (13, .int .i64 s2.1)]) (bx' := [⟨p6_2, [.string x6_0.f0, .slice p7_3.1 (([] : List Int) ++ x6_0.f1).length p7_3.2, .int .i64 x6_0.f2], 43⟩, ⟨p3_0, [.slice p8_4.1 (g2.2 ++ ([((⟨x6_0.f0, (([] : List Int) ++ x6_0.f1), x6_0.f2⟩ : S43), p7_3)] : List (S43 × Hd))).length p8_4.2], 24⟩, ⟨p0_1, [.slice none 0 0], 24⟩]) (by kernel_rfl) ?_
        refine O.nil (by kernel_rfl) ?_
        refine J.out ?_
        refine J.region (by kernel_rfl) ?_
        refine O.pure 2 [] [2, 3, 11, 12, 13] [] (fr' := [(2, .pointer (some ⟨p0_1, 0, none⟩)), (3, .pointer (some ⟨p3_0, 0, none⟩)), (11, .slice h0.1 a0.f0.length h0.2), (12, .int .i64 (a0.f0.length : Int)), (13, .int .i64 (IntKind.wrap .i64 (s2.1 + 1)))]) (bx' := [⟨p6_2, [.string x6_0.f0, .slice p7_3.1 (([] : List Int) ++ x6_0.f1).length p7_3.2, .int .i64 x6_0.f2], 43⟩, ⟨p3_0, [.slice p8_4.1 (g2.2 ++ ([((⟨x6_0.f0, (([] : List Int) ++ x6_0.f1), x6_0.f2⟩ : S43), p7_3)] : List (S43 × Hd))).length p8_4.2], 24⟩, ⟨p0_1, [.slice none 0 0], 24⟩]) (by kernel_rfl) ?_
        refine O.nil (by kernel_rfl) ?_
        refine J.mono (fun w' hS' => ⟨?_, ?_⟩) (ih2 ((IntKind.wrap .i64 (s2.1 + 1)), (s2.2 ++ ([(⟨x6_0.f0, (([] : List Int) ++ x6_0.f1), x6_0.f2⟩ : S43)] : List S43))) (p8_4, g2.2 ++ [((⟨x6_0.f0, (([] : List Int) ++ x6_0.f1), x6_0.f2⟩ : S43), p7_3)]) H)
        · have h1 := (hS'.facts_sel [1] rfl).noro
          have h2 : St X w [] [⟨p3_0, [.slice p8_4.1 (g2.2 ++ ([((⟨x6_0.f0, (([] : List Int) ++ x6_0.f1), x6_0.f2⟩ : S43), p7_3)] : List (S43 × Hd))).length p8_4.2], 24⟩, ⟨p0_1, [.slice none 0 0], 24⟩] _ [] [Rd kd43 h0.1 h0.2 a0.f0] w' := h1.sub (fun p hp => List.mem_cons_of_mem _ hp) (fun r hr => hr) (by
            have hn := h1.nodup
            simp only [keys, List.map_cons, List.cons_append, List.nodup_cons] at hn ⊢
            exact hn.2)
          refine h2.perm (List.Perm.cons _ ?_)
          rw [show sh43.inner 5 (g2.2 ++ [((⟨x6_0.f0, (([] : List Int) ++ x6_0.f1), x6_0.f2⟩ : S43), p7_3)]) = sh43.inner 5 g2.2 ++ [mkRow (Kd.int .u8) 5 (.slice p7_3.1 (([] : List Int) ++ x6_0.f1).length p7_3.2) (([] : List Int) ++ x6_0.f1)] from by simp only [Sh1.inner, List.map_append, List.map_cons, List.map_nil, sh43]]
          exact List.perm_append_comm (l₁ := [_])
        · simp only [List.map_append, List.map_cons, List.map_nil, hzs]
      · refine J.condF (x := .tmp 14) (t := (decide (s2.1 < (a0.f0.length : Int)))) (by kernel_rfl) (by kernel_rfl) hc5 ?_
        refine J.exit (id := 0) (by kernel_rfl) rfl ?_
        refine J.seq (by kernel_rfl) ?_
        refine J.region (by kernel_rfl) ?_
        refine O.pure 2 [(0, 0), (1, 0)] [2] [p3_0, 0, p0_1, 0] (fr' := [(2, .pointer (some ⟨p0_1, 0, none⟩))]) (bx' := [⟨p3_0, [.slice g2.1.1 g2.2.length g2.1.2], 24⟩, ⟨p0_1, [.slice g2.1.1 g2.2.length g2.1.2], 24⟩]) (by kernel_rfl) ?_
        refine O.nil (by kernel_rfl) ?_
        obtain rfl := Option.some.inj H
        refine J.doneQ [(1, 0)] [p0_1, 0] (vs := [.agg #[.slice g2.1.1 g2.2.length g2.1.2]]) (by kernel_rfl) (by kernel_rfl) (fun w' hS' => ?_)
        obtain ⟨hS2, hD⟩ := deep_end sh43 hS'
        have hl : s2.2.length = g2.2.length := by rw [← hzs, List.length_map]
        have hnd := hS'.nodup
        refine ⟨g2, by simp only [hl]; rfl, ?_, hD, ?_⟩
        · simp only [hl]
          rw [hzs] at hS2
          refine St.sub (hS2.facts_sel [] rfl).noro (fun p hp => by simp at hp) (fun r hr => hr) ?_
          have hn2 := hS2.nodup
          simp only [keys, List.nodup_append, List.map_nil, List.nil_append] at hn2 ⊢
          exact hn2.2.1
        · intro z hz b hb hb2
          simp only [hl] at hb2
          simp only [keys, List.flatMap_cons, List.nodup_append, inner_keys] at hnd
          exact hnd.2.1.2.2 b hb2 b (List.mem_flatMap.2 ⟨z, hz, hb⟩) rfl
    · refine J.nilrow sh43.kdH 43 ?_
      refine J.mono (fun w' hS' => ⟨?_, rfl⟩) h_
      have h1 := (hS'.facts_sel [0] rfl).noro
      exact h1.sub (fun p hp => by
        rcases List.mem_cons.1 hp with rfl | hp
        · exact List.mem_cons_self
        · rw [List.mem_singleton.1 hp]; exact List.mem_cons_of_mem _ List.mem_cons_self) (fun r hr => hr) (by
        have hn := h1.nodup
        simp only [keys, List.map_cons, List.map_nil, List.cons_append, List.nil_append, List.nodup_cons, List.mem_cons, not_or, Sh1.inner] at hn ⊢
        exact ⟨⟨hn.1.1, hn.1.2.2⟩, hn.2.1.2, hn.2.2.2⟩)
/-! ### haywain/disk.at$1: function 38 -/
def disk_at_1_f38.f (K : Nat) (a0 : S43) (c_0 : ByteArray) : Option Bool := some ((a0.f0.toList == c_0.toList))
set_option maxRecDepth 100000 in
set_option maxHeartbeats 1000000 in
theorem disk_at_1_f38.con (K : Nat) (a0 : S43) (c_0 : ByteArray) (gc_0 : Nat) (h0 : Hd) (r : Bool) (X : Nat → Nat → Prop) (w : World) (hS : St X w [] [] [] [] [Rd (Kd.int .u8) h0.1 h0.2 a0.f1, RowAt (gc_0, 0, [.string c_0])] w) (H : disk_at_1_f38.f K a0 c_0 = some r) :
    Cn Try.prog 38 [.agg #[.string a0.f0, .slice h0.1 a0.f1.length h0.2, .int .i64 a0.f2], .pointer (some ⟨gc_0, 0, none⟩)] X w [] (fun i : Unit => .bool r) (fun i => []) (fun i => []) (fun i => []) := by
  refine Cn.of Try.func38 (by kernel_rfl) hS ?_
  unfold disk_at_1_f38.f at H
  refine J.mono (fun w hS => hS.roF 1 rfl) ?_
  refine J.seq (by kernel_rfl) ?_
  refine J.region (by kernel_rfl) ?_
  refine O.e (some 2) (Ev.box (t := 43) (x := .tmp 0) (v := .agg #[.string a0.f0, .slice h0.1 a0.f1.length h0.2, .int .i64 a0.f2]) (by kernel_rfl) (by kernel_rfl)) (by kernel_rfl) (fun p0_0 => ?_)
  refine O.pure 1 [] [1, 2] [] (fr' := [(1, .pointer (some ⟨gc_0, 0, none⟩)), (2, .pointer (some ⟨p0_0, 0, none⟩))]) (bx' := [⟨p0_0, [.string a0.f0, .slice h0.1 a0.f1.length h0.2, .int .i64 a0.f2], 43⟩]) (by kernel_rfl) ?_
  refine O.nil (by kernel_rfl) ?_
  refine J.seq (by kernel_rfl) ?_
  refine J.region (by kernel_rfl) ?_
  refine O.pure 5 [(0, 0), (1, 0)] [3] [p0_0, 0, gc_0, 0] (fr' := [(3, .bool (a0.f0.toList == c_0.toList))]) (bx' := [⟨p0_0, [.string a0.f0, .slice h0.1 a0.f1.length h0.2, .int .i64 a0.f2], 43⟩]) (by kernel_rfl) ?_
  refine O.nil (by kernel_rfl) ?_
  obtain rfl := Option.some.inj H
  exact J.doneS [] [] [] [] [] () (vs := [.bool (a0.f0.toList == c_0.toList)]) (by kernel_rfl) (by kernel_rfl) (by kernel_rfl) (by kernel_rfl) (by kernel_rfl) (by decide)
/-! ### haywain/disk.find: function 31 -/
def disk_find_f38.l1 (K : Nat) (a0 : S24) (c1_0 : ByteArray) : Nat → Int → Option Int
  | 0, _ => none
  | k + 1, s1 => cond (decide (s1 < (a0.f0.length : Int))) ((idxO a0.f0 s1).bind fun x3_1 => (disk_at_1_f38.f K x3_1 c1_0).bind fun x4_2 => cond x4_2 (some (s1)) (disk_find_f38.l1 K a0 c1_0 k (IntKind.wrap .i64 (s1 + 1)))) (some ((-1)))
def disk_find_f38.f (K : Nat) (a0 : S24) (c1_0 : ByteArray) : Option Int := disk_find_f38.l1 K a0 c1_0 K 0
set_option maxRecDepth 100000 in
set_option maxHeartbeats 1000000 in
theorem disk_find_f38.con (K : Nat) (a0 : S24) (c1_0 : ByteArray) (gc1_0 : Nat) (h0 : Hd) (r : Int) (X : Nat → Nat → Prop) (w : World) (hS : St X w [] [] [] [] [Rd kd43 h0.1 h0.2 a0.f0, RowAt (gc1_0, 0, [.string c1_0])] w) (H : disk_find_f38.f K a0 c1_0 = some r) :
    Cn Try.prog 31 [.agg #[.slice h0.1 a0.f0.length h0.2], .func (.func 38) #[] #[.pointer (some ⟨gc1_0, 0, none⟩)]] X w [] (fun i : Unit => .int .i64 r) (fun i => []) (fun i => []) (fun i => []) := by
  refine Cn.of Try.func31 (by kernel_rfl) hS ?_
  unfold disk_find_f38.f at H
  refine J.seq (by kernel_rfl) ?_
  refine J.region (by kernel_rfl) ?_
  refine O.e (some 2) (Ev.box (t := 24) (x := .tmp 0) (v := .agg #[.slice h0.1 a0.f0.length h0.2]) (by kernel_rfl) (by kernel_rfl)) (by kernel_rfl) (fun p0_0 => ?_)
  refine O.pure 1 [] [1, 2] [] (fr' := [(1, .func (.func 38) #[] #[.pointer (some ⟨gc1_0, 0, none⟩)]), (2, .pointer (some ⟨p0_0, 0, none⟩))]) (bx' := [⟨p0_0, [.slice h0.1 a0.f0.length h0.2], 24⟩]) (by kernel_rfl) ?_
  refine O.nil (by kernel_rfl) ?_
  refine J.seq (by kernel_rfl) ?_
  refine J.seq (by kernel_rfl) ?_
  refine J.region (by kernel_rfl) ?_
  refine O.pure 4 [(0, 0)] [1, 8, 9, 10] [p0_0, 0] (fr' := [(1, .func (.func 38) #[] #[.pointer (some ⟨gc1_0, 0, none⟩)]), (8, .slice h0.1 a0.f0.length h0.2), (9, .int .i64 (a0.f0.length : Int)), (10, .int .i64 0)]) (bx' := [⟨p0_0, [.slice h0.1 a0.f0.length h0.2], 24⟩]) (by kernel_rfl) ?_
  refine O.nil (by kernel_rfl) ?_
  refine J.block (id := 0) (by kernel_rfl) ?_
  refine J.loopI (σ := Int) (γ := Unit) (f := fun m_ s_ => disk_find_f38.l1 K a0 c1_0 m_ s_) (fun s1 g1 => [(1, .func (.func 38) #[] #[.pointer (some ⟨gc1_0, 0, none⟩)]), (8, .slice h0.1 a0.f0.length h0.2), (9, .int .i64 (a0.f0.length : Int)), (10, .int .i64 s1)]) (fun s1 g1 => St X w [] [] [] [] [Rd kd43 h0.1 h0.2 a0.f0, RowAt (gc1_0, 0, [.string c1_0])]) K 0 () (by kernel_rfl) H (fun _ => rfl) (fun m_ s1 H ih1 g1 => ?_) (fun h_ => ?_)
  · unfold disk_find_f38.l1 at H
    refine J.seq (by kernel_rfl) ?_
    refine J.region (by kernel_rfl) ?_
    refine O.pure 1 [] [1, 8, 9, 10, 11] [] (fr' := [(1, .func (.func 38) #[] #[.pointer (some ⟨gc1_0, 0, none⟩)]), (8, .slice h0.1 a0.f0.length h0.2), (9, .int .i64 (a0.f0.length : Int)), (10, .int .i64 s1), (11, .bool (decide (s1 < (a0.f0.length : Int))))]) (bx' := []) (by kernel_rfl) ?_
    refine O.nil (by kernel_rfl) ?_
    refine J.seq (by kernel_rfl) ?_
    rcases condE H with ⟨hc6, H⟩ | ⟨hc6, H⟩
    · refine J.condT (x := .tmp 11) (t := (decide (s1 < (a0.f0.length : Int)))) (by kernel_rfl) (by kernel_rfl) hc6 ?_
      refine J.skip (by kernel_rfl) ?_
      refine J.seq (by kernel_rfl) ?_
      refine J.block (id := 1) (by kernel_rfl) ?_
      refine J.seq (by kernel_rfl) ?_
      obtain ⟨x3_1, hx3_1, H⟩ := bindE H
      obtain ⟨hx3_1a, hx3_1⟩ := idxE hx3_1
      refine J.region (by kernel_rfl) ?_
      refine O.pure 1 [] [1, 8, 9, 10, 12] [] (fr' := [(1, .func (.func 38) #[] #[.pointer (some ⟨gc1_0, 0, none⟩)]), (8, .slice h0.1 a0.f0.length h0.2), (9, .int .i64 (a0.f0.length : Int)), (10, .int .i64 s1), (12, .int .i64 s1)]) (bx' := []) (by kernel_rfl) ?_
      refine O.open (d := kd43) (h := h0) (i := s1) 0 rfl hx3_1 (op43 _) (fun p3_1 hp3_1A => ?_)
      refine O.q (v := .pointer (some ⟨p3_1.1, p3_1.2.1 + s1.toNat * 3, none⟩)) (some 13) (Qu.idx (t := 22) (x := .tmp 8) (y := .tmp 10) (c := h0.2) (kk := .i64) (sz := 3) (by kernel_rfl) (by kernel_rfl) (by kernel_rfl) (by kernel_rfl) hx3_1a (idx_lt hx3_1) hp3_1A) (by kernel_rfl) ?_
      refine O.pure 1 [(0, 0)] [1, 8, 9, 10, 12, 14] [p3_1.1, p3_1.2.1 + s1.toNat * 3] (fr' := [(1, .func (.func 38) #[] #[.pointer (some ⟨gc1_0, 0, none⟩)]), (8, .slice h0.1 a0.f0.length h0.2), (9, .int .i64 (a0.f0.length : Int)), (10, .int .i64 s1), (12, .int .i64 s1), (14, .agg #[.string x3_1.f0, .slice p3_1.2.2.1 x3_1.f1.length p3_1.2.2.2, .int .i64 x3_1.f2])]) (bx' := []) (by kernel_rfl) ?_
      refine O.e (some 6) (Ev.alloc (t := 43) (z := .agg #[.string (⟨#[]⟩ : ByteArray), .slice none 0 0, .int .i64 0]) (by kernel_rfl) (by kernel_rfl)) (by kernel_rfl) (fun p3_3 => ?_)
      refine O.pure 2 [(0, 0)] [1, 5, 6, 8, 9, 10] [p3_3, 0] (fr' := [(1, .func (.func 38) #[] #[.pointer (some ⟨gc1_0, 0, none⟩)]), (5, .int .i64 s1), (6, .pointer (some ⟨p3_3, 0, none⟩)), (8, .slice h0.1 a0.f0.length h0.2), (9, .int .i64 (a0.f0.length : Int)), (10, .int .i64 s1)]) (bx' := [⟨p3_3, [.string x3_1.f0, .slice p3_1.2.2.1 x3_1.f1.length p3_1.2.2.2, .int .i64 x3_1.f2], 43⟩]) (by kernel_rfl) ?_
      refine O.nil (by kernel_rfl) ?_
      refine J.seq (by kernel_rfl) ?_
      obtain ⟨x4_2, hx4_2, H⟩ := bindE H
      refine J.region (by kernel_rfl) ?_
      refine O.pure 2 [(0, 0)] [1, 5, 8, 9, 10, 15, 16] [p3_3, 0] (fr' := [(1, .func (.func 38) #[] #[.pointer (some ⟨gc1_0, 0, none⟩)]), (5, .int .i64 s1), (8, .slice h0.1 a0.f0.length h0.2), (9, .int .i64 (a0.f0.length : Int)), (10, .int .i64 s1), (15, .func (.func 38) #[] #[.pointer (some ⟨gc1_0, 0, none⟩)]), (16, .agg #[.string x3_1.f0, .slice p3_1.2.2.1 x3_1.f1.length p3_1.2.2.2, .int .i64 x3_1.f2])]) (bx' := [⟨p3_3, [.string x3_1.f0, .slice p3_1.2.2.1 x3_1.f1.length p3_1.2.2.2, .int .i64 x3_1.f2], 43⟩]) (by kernel_rfl) ?_
      refine O.e (some 17) (Ev.callF (g := 38) (caps := [.pointer (some ⟨gc1_0, 0, none⟩)]) (vs := [.agg #[.string x3_1.f0, .slice p3_1.2.2.1 x3_1.f1.length p3_1.2.2.2, .int .i64 x3_1.f2]]) (xs := [.tmp 16]) [0, 2] (by kernel_rfl) (by kernel_rfl) (fun w hS => disk_at_1_f38.con K x3_1 c1_0 gc1_0 p3_1.2.2  _ _ w hS hx4_2)) (by kernel_rfl) (fun _ => ?_)
      refine O.nil (by kernel_rfl) ?_
      rcases condE H with ⟨hc7, H⟩ | ⟨hc7, H⟩
      · refine J.condT (x := .tmp 17) (t := x4_2) (by kernel_rfl) (by kernel_rfl) hc7 ?_
        refine J.seq (by kernel_rfl) ?_
        refine J.region (by kernel_rfl) ?_
        refine O.pure 2 [] [4] [] (fr' := [(4, .int .i64 s1)]) (bx' := [⟨p3_3, [.string x3_1.f0, .slice p3_1.2.2.1 x3_1.f1.length p3_1.2.2.2, .int .i64 x3_1.f2], 43⟩]) (by kernel_rfl) ?_
        refine O.nil (by kernel_rfl) ?_
        obtain rfl := Option.some.inj H
        exact J.doneS [] [] [] [] [] () (vs := [.int .i64 s1]) (by kernel_rfl) (by kernel_rfl) (by kernel_rfl) (by kernel_rfl) (by kernel_rfl) (by decide)
      · refine J.condF (x := .tmp 17) (t := x4_2) (by kernel_rfl) (by kernel_rfl) hc7 ?_
        refine J.skip (by kernel_rfl) ?_
        refine J.out ?_
        refine J.region (by kernel_rfl) ?_
        refine O.pure 2 [] [1, 8, 9, 10] [] (fr' := [(1, .func (.func 38) #[] #[.pointer (some ⟨gc1_0, 0, none⟩)]), (8, .slice h0.1 a0.f0.length h0.2), (9, .int .i64 (a0.f0.length : Int)), (10, .int .i64 (IntKind.wrap .i64 (s1 + 1)))]) (bx' := [⟨p3_3, [.string x3_1.f0, .slice p3_1.2.2.1 x3_1.f1.length p3_1.2.2.2, .int .i64 x3_1.f2], 43⟩]) (by kernel_rfl) ?_
        refine O.nil (by kernel_rfl) ?_
        exact J.conv2 [1, 8, 9, 10] [1, 2] [] [] (by kernel_rfl) (by kernel_rfl) (by kernel_rfl) (by kernel_rfl) (by decide) (ih1 (IntKind.wrap .i64 (s1 + 1)) () H)
    · refine J.condF (x := .tmp 11) (t := (decide (s1 < (a0.f0.length : Int)))) (by kernel_rfl) (by kernel_rfl) hc6 ?_
      refine J.exit (id := 0) (by kernel_rfl) rfl ?_
      refine J.seq (by kernel_rfl) ?_
      refine J.region (by kernel_rfl) ?_
      refine O.pure 1 [] [4] [] (fr' := [(4, .int .i64 (-1))]) (bx' := []) (by kernel_rfl) ?_
      refine O.nil (by kernel_rfl) ?_
      obtain rfl := Option.some.inj H
      exact J.doneS [] [] [] [] [] () (vs := [.int .i64 (-1)]) (by kernel_rfl) (by kernel_rfl) (by kernel_rfl) (by kernel_rfl) (by kernel_rfl) (by decide)
  · exact J.conv2 [1, 8, 9, 10] [0, 1] [] [] (by kernel_rfl) (by kernel_rfl) (by kernel_rfl) (by kernel_rfl) (by decide) h_
/-! ### haywain/disk.at: function 29 -/
def disk_at.f (K : Nat) (a0 : S24) (a1 : ByteArray) : Option Int := (disk_find_f38.f K a0 a1).bind fun x1_2 => some (x1_2)
set_option maxRecDepth 100000 in
set_option maxHeartbeats 1000000 in
theorem disk_at.con (K : Nat) (a0 : S24) (a1 : ByteArray) (h0 : Hd) (r : Int) (X : Nat → Nat → Prop) (w : World) (hS : St X w [] [] [] [] [Rd kd43 h0.1 h0.2 a0.f0] w) (H : disk_at.f K a0 a1 = some r) :
    Cn Try.prog 29 [.agg #[.slice h0.1 a0.f0.length h0.2], .string a1] X w [] (fun i : Unit => .int .i64 r) (fun i => []) (fun i => []) (fun i => []) := by
  refine Cn.of Try.func29 (by kernel_rfl) hS ?_
  unfold disk_at.f at H
  refine J.seq (by kernel_rfl) ?_
  refine J.region (by kernel_rfl) ?_
  refine O.e (some 2) (Ev.box (t := 24) (x := .tmp 0) (v := .agg #[.slice h0.1 a0.f0.length h0.2]) (by kernel_rfl) (by kernel_rfl)) (by kernel_rfl) (fun p0_0 => ?_)
  refine O.e (some 3) (Ev.box (t := 9) (x := .tmp 1) (v := .string a1) (by kernel_rfl) (by kernel_rfl)) (by kernel_rfl) (fun p0_1 => ?_)
  refine O.pure 1 [] [2, 3] [] (fr' := [(2, .pointer (some ⟨p0_0, 0, none⟩)), (3, .pointer (some ⟨p0_1, 0, none⟩))]) (bx' := [⟨p0_1, [.string a1], 9⟩, ⟨p0_0, [.slice h0.1 a0.f0.length h0.2], 24⟩]) (by kernel_rfl) ?_
  refine O.nil (by kernel_rfl) ?_
  refine J.seq (by kernel_rfl) ?_
  obtain ⟨x1_2, hx1_2, H⟩ := bindE H
  refine J.region (by kernel_rfl) ?_
  refine O.pure 2 [(1, 0)] [5, 6] [p0_0, 0] (fr' := [(5, .agg #[.slice h0.1 a0.f0.length h0.2]), (6, .func (.func 38) #[] #[.pointer (some ⟨p0_1, 0, none⟩)])]) (bx' := [⟨p0_1, [.string a1], 9⟩, ⟨p0_0, [.slice h0.1 a0.f0.length h0.2], 24⟩]) (by kernel_rfl) ?_
  refine O.e (some 7) (Ev.callLb (xs1 := [.tmp 5, .tmp 6]) [1, 0] (fun w hS => (hS).boxfact 0 [1] rfl rfl (by decide)) (by kernel_rfl) (by kernel_rfl) (fun _ q hq => by cases hq) (fun w hS => disk_find_f38.con K a0 a1 p0_1 h0  _ _ w hS hx1_2)) (by kernel_rfl) (fun _ => ?_)
  refine O.pure 1 [] [4] [] (fr' := [(4, .int .i64 x1_2)]) (bx' := [⟨p0_1, [.string a1], 9⟩, ⟨p0_0, [.slice h0.1 a0.f0.length h0.2], 24⟩]) (by kernel_rfl) ?_
  refine O.nil (by kernel_rfl) ?_
  obtain rfl := Option.some.inj H
  exact J.doneS [] [] [] [] [] () (vs := [.int .i64 x1_2]) (by kernel_rfl) (by kernel_rfl) (by kernel_rfl) (by kernel_rfl) (by kernel_rfl) (by decide)
/-! ### haywain/disk.Get: function 13 -/
def disk_Get.f (K : Nat) (a0 : S24) (a1 : ByteArray) : Option ((List Int) × Int) := (disk_own.f K a0).bind fun x1_1 => (disk_at.f K x1_1 a1).bind fun x2_2 => cond (decide (x2_2 < 0)) (some ((([] : List Int), 4))) ((idxO x1_1.f0 x2_2).bind fun x5_3 => some ((x5_3.f1, 0)))
set_option maxRecDepth 100000 in
set_option maxHeartbeats 1000000 in
theorem disk_Get.con (K : Nat) (a0 : S24) (a1 : ByteArray) (h0 : Hd) (r : ((List Int) × Int)) (X : Nat → Nat → Prop) (w : World) (hS : St X w [] [] [] [] [Rd kd43 h0.1 h0.2 a0.f0] w) (H : disk_Get.f K a0 a1 = some r) :
    Cn Try.prog 13 [.agg #[.slice h0.1 a0.f0.length h0.2], .string a1] X w [] (fun i : Hd => .tuple #[.slice i.1 r.1.length i.2, .int .i64 r.2]) (fun i => []) (fun i => []) (fun i => [Rd (Kd.int .u8) i.1 i.2 r.1]) := by
  refine Cn.of Try.func13 (by kernel_rfl) hS ?_
  unfold disk_Get.f at H
  refine J.seq (by kernel_rfl) ?_
  refine J.region (by kernel_rfl) ?_
  refine O.e (some 2) (Ev.box (t := 24) (x := .tmp 0) (v := .agg #[.slice h0.1 a0.f0.length h0.2]) (by kernel_rfl) (by kernel_rfl)) (by kernel_rfl) (fun p0_0 => ?_)
  refine O.pure 2 [] [1, 2] [] (fr' := [(1, .string a1), (2, .pointer (some ⟨p0_0, 0, none⟩))]) (bx' := [⟨p0_0, [.slice h0.1 a0.f0.length h0.2], 24⟩]) (by kernel_rfl) ?_
  refine O.nil (by kernel_rfl) ?_
  refine J.seq (by kernel_rfl) ?_
  obtain ⟨x1_1, hx1_1, H⟩ := bindE H
  refine J.region (by kernel_rfl) ?_
  refine O.pure 1 [(0, 0)] [1, 2, 7] [p0_0, 0] (fr' := [(1, .string a1), (2, .pointer (some ⟨p0_0, 0, none⟩)), (7, .agg #[.slice h0.1 a0.f0.length h0.2])]) (bx' := [⟨p0_0, [.slice h0.1 a0.f0.length h0.2], 24⟩]) (by kernel_rfl) ?_
  refine O.e (some 8) (Ev.call0 (xs := [.tmp 7]) [0] (by kernel_rfl) (by kernel_rfl) (fun w hS => disk_own.con K a0 h0  _ _ w hS hx1_1)) (by kernel_rfl) (fun p1_1 => ?_)
  refine O.pure 1 [(0, 0)] [1, 2] [p0_0, 0] (fr' := [(1, .string a1), (2, .pointer (some ⟨p0_0, 0, none⟩))]) (bx' := [⟨p0_0, [.slice p1_1.1 x1_1.f0.length p1_1.2], 24⟩]) (by kernel_rfl) ?_
  refine O.nil (by kernel_rfl) ?_
  refine J.seq (by kernel_rfl) ?_
  obtain ⟨x2_2, hx2_2, H⟩ := bindE H
  refine J.region (by kernel_rfl) ?_
  refine O.pure 2 [(0, 0)] [2, 9, 10] [p0_0, 0] (fr' := [(2, .pointer (some ⟨p0_0, 0, none⟩)), (9, .agg #[.slice p1_1.1 x1_1.f0.length p1_1.2]), (10, .string a1)]) (bx' := [⟨p0_0, [.slice p1_1.1 x1_1.f0.length p1_1.2], 24⟩]) (by kernel_rfl) ?_
  refine O.e (some 11) (Ev.callLb (xs1 := [.tmp 9, .tmp 10]) [0] (fun w hS => (hS.rowsel [0] rfl (by decide)).freezeL (hh := p1_1) (m := x1_1.f0.length) (xs := x1_1.f0) rfl) (by kernel_rfl) (by kernel_rfl) (fun _ q hq => by cases hq) (fun w hS => disk_at.con K x1_1 a1 p1_1  _ _ w hS hx2_2)) (by kernel_rfl) (fun _ => ?_)
  refine O.pure 1 [] [2, 6] [] (fr' := [(2, .pointer (some ⟨p0_0, 0, none⟩)), (6, .int .i64 x2_2)]) (bx' := [⟨p0_0, [.slice p1_1.1 x1_1.f0.length p1_1.2], 24⟩]) (by kernel_rfl) ?_
  refine O.nil (by kernel_rfl) ?_
  refine J.seq (by kernel_rfl) ?_
  refine J.seq (by kernel_rfl) ?_
  refine J.region (by kernel_rfl) ?_
  refine O.pure 2 [] [2, 6, 13] [] (fr' := [(2, .pointer (some ⟨p0_0, 0, none⟩)), (6, .int .i64 x2_2), (13, .bool (decide (x2_2 < 0)))]) (bx' := [⟨p0_0, [.slice p1_1.1 x1_1.f0.length p1_1.2], 24⟩]) (by kernel_rfl) ?_
  refine O.nil (by kernel_rfl) ?_
  rcases condE H with ⟨hc1, H⟩ | ⟨hc1, H⟩
  · refine J.condT (x := .tmp 13) (t := (decide (x2_2 < 0))) (by kernel_rfl) (by kernel_rfl) hc1 ?_
    refine J.seq (by kernel_rfl) ?_
    refine J.region (by kernel_rfl) ?_
    refine O.pure 2 [] [4, 5] [] (fr' := [(4, .slice none 0 0), (5, .int .i64 4)]) (bx' := [⟨p0_0, [.slice p1_1.1 x1_1.f0.length p1_1.2], 24⟩]) (by kernel_rfl) ?_
    refine O.nil (by kernel_rfl) ?_
    obtain rfl := Option.some.inj H
    refine J.nilF (Kd.int .u8) ?_
    exact J.doneS [] [] [0] [] [] (none, 0) (vs := [.slice none 0 0, .int .i64 4]) (by kernel_rfl) (by kernel_rfl) (by kernel_rfl) (by kernel_rfl) (by kernel_rfl) (by decide)
  · refine J.condF (x := .tmp 13) (t := (decide (x2_2 < 0))) (by kernel_rfl) (by kernel_rfl) hc1 ?_
    refine J.skip (by kernel_rfl) ?_
    refine J.seq (by kernel_rfl) ?_
    obtain ⟨x5_3, hx5_3, H⟩ := bindE H
    obtain ⟨hx5_3a, hx5_3⟩ := idxE hx5_3
    refine J.region (by kernel_rfl) ?_
    refine O.pure 3 [(0, 0)] [15, 16] [p0_0, 0] (fr' := [(15, .slice p1_1.1 x1_1.f0.length p1_1.2), (16, .int .i64 x2_2)]) (bx' := [⟨p0_0, [.slice p1_1.1 x1_1.f0.length p1_1.2], 24⟩]) (by kernel_rfl) ?_
    refine O.mono (fun w hS => hS.freezeH (h := p1_1) (xs := x1_1.f0)) ?_
    refine O.open (d := kd43) (h := p1_1) (i := x2_2) 0 rfl hx5_3 (op43 _) (fun p5_3 hp5_3A => ?_)
    refine O.q (v := .pointer (some ⟨p5_3.1, p5_3.2.1 + x2_2.toNat * 3, none⟩)) (some 17) (Qu.idx (t := 22) (x := .tmp 15) (y := .tmp 16) (c := p1_1.2) (kk := .i64) (sz := 3) (by kernel_rfl) (by kernel_rfl) (by kernel_rfl) (by kernel_rfl) hx5_3a (idx_lt hx5_3) hp5_3A) (by kernel_rfl) ?_
    refine O.pure 4 [(1, 1)] [4, 5] [p5_3.1, p5_3.2.1 + x2_2.toNat * 3 + 1] (fr' := [(4, .slice p5_3.2.2.1 x5_3.f1.length p5_3.2.2.2), (5, .int .i64 0)]) (bx' := [⟨p0_0, [.slice p1_1.1 x1_1.f0.length p1_1.2], 24⟩]) (by kernel_rfl) ?_
    refine O.nil (by kernel_rfl) ?_
    obtain rfl := Option.some.inj H
    exact J.doneS [] [] [0] [] [] p5_3.2.2 (vs := [.slice p5_3.2.2.1 x5_3.f1.length p5_3.2.2.2, .int .i64 0]) (by kernel_rfl) (by kernel_rfl) (by kernel_rfl) (by kernel_rfl) (by kernel_rfl) (by decide)
/-! ### haywain/disk.Names: function 16 -/
def disk_Names.l1 (K : Nat) (x2_1 : S24) : Nat → ((List ByteArray) × Int) → Option (List ByteArray)
  | 0, _ => none
  | k + 1, s1 => cond (decide (s1.2 < (x2_1.f0.length : Int))) ((idxO x2_1.f0 s1.2).bind fun x4_0 => (appO 16 s1.1 ([x4_0.f0] : List ByteArray)).bind fun y5_4 => disk_Names.l1 K x2_1 k ((s1.1 ++ ([x4_0.f0] : List ByteArray)), (IntKind.wrap .i64 (s1.2 + 1)))) (some (s1.1))
def disk_Names.f (K : Nat) (a0 : S24) : Option (List ByteArray) := (disk_own.f K a0).bind fun x2_1 => disk_Names.l1 K x2_1 K (([] : List ByteArray), 0)
set_option maxRecDepth 100000 in
set_option maxHeartbeats 1000000 in
theorem disk_Names.con (K : Nat) (a0 : S24) (h0 : Hd) (r : (List ByteArray)) (X : Nat → Nat → Prop) (w : World) (hS : St X w [] [] [] [] [Rd kd43 h0.1 h0.2 a0.f0] w) (H : disk_Names.f K a0 = some r) :
    Cn Try.prog 16 [.agg #[.slice h0.1 a0.f0.length h0.2]] X w [] (fun i : Hd => .slice i.1 r.length i.2) (fun i => []) (fun i => [mkRow Kd.string 9 (.slice i.1 r.length i.2) r]) (fun i => []) := by
  refine Cn.of Try.func16 (by kernel_rfl) hS ?_
  unfold disk_Names.f at H
  refine J.seq (by kernel_rfl) ?_
  refine J.region (by kernel_rfl) ?_
  refine O.e (some 1) (Ev.box (t := 24) (x := .tmp 0) (v := .agg #[.slice h0.1 a0.f0.length h0.2]) (by kernel_rfl) (by kernel_rfl)) (by kernel_rfl) (fun p0_0 => ?_)
  refine O.pure 1 [] [1] [] (fr' := [(1, .pointer (some ⟨p0_0, 0, none⟩))]) (bx' := [⟨p0_0, [.slice h0.1 a0.f0.length h0.2], 24⟩]) (by kernel_rfl) ?_
  refine O.nil (by kernel_rfl) ?_
  refine J.seq (by kernel_rfl) ?_
  refine J.region (by kernel_rfl) ?_
  refine O.pure 1 [] [1, 3] [] (fr' := [(1, .pointer (some ⟨p0_0, 0, none⟩)), (3, .slice none 0 0)]) (bx' := [⟨p0_0, [.slice h0.1 a0.f0.length h0.2], 24⟩]) (by kernel_rfl) ?_
  refine O.nil (by kernel_rfl) ?_
  refine J.seq (by kernel_rfl) ?_
  refine J.seq (by kernel_rfl) ?_
  obtain ⟨x2_1, hx2_1, H⟩ := bindE H
  refine J.region (by kernel_rfl) ?_
  refine O.pure 1 [(0, 0)] [3, 6] [p0_0, 0] (fr' := [(3, .slice none 0 0), (6, .agg #[.slice h0.1 a0.f0.length h0.2])]) (bx' := [⟨p0_0, [.slice h0.1 a0.f0.length h0.2], 24⟩]) (by kernel_rfl) ?_
  refine O.e (some 7) (Ev.call0 (xs := [.tmp 6]) [0] (by kernel_rfl) (by kernel_rfl) (fun w hS => disk_own.con K a0 h0  _ _ w hS hx2_1)) (by kernel_rfl) (fun p2_1 => ?_)
  refine O.pure 3 [] [3, 8, 9, 10] [] (fr' := [(3, .slice none 0 0), (8, .slice p2_1.1 x2_1.f0.length p2_1.2), (9, .int .i64 (x2_1.f0.length : Int)), (10, .int .i64 0)]) (bx' := [⟨p0_0, [.slice h0.1 a0.f0.length h0.2], 24⟩]) (by kernel_rfl) ?_
  refine O.nil (by kernel_rfl) ?_
  refine J.block (id := 0) (by kernel_rfl) ?_
  refine J.loopI (σ := (List ByteArray) × Int) (γ := Hd) (f := fun m_ s_ => disk_Names.l1 K x2_1 m_ s_) (fun s1 g1 => [(3, .slice g1.1 s1.1.length g1.2), (8, .slice p2_1.1 x2_1.f0.length p2_1.2), (9, .int .i64 (x2_1.f0.length : Int)), (10, .int .i64 s1.2)]) (fun s1 g1 => St X w [] [] [mkRow Kd.string 9 (.slice g1.1 s1.1.length g1.2) s1.1] [] [Rd kd43 h0.1 h0.2 a0.f0, Rd kd43 p2_1.1 p2_1.2 x2_1.f0]) K (([] : List ByteArray), 0) (none, 0) (by kernel_rfl) H (fun _ => rfl) (fun m_ s1 H ih1 g1 => ?_) (fun h_ => ?_)
  · unfold disk_Names.l1 at H
    refine J.seq (by kernel_rfl) ?_
    refine J.region (by kernel_rfl) ?_
    refine O.pure 1 [] [3, 8, 9, 10, 11] [] (fr' := [(3, .slice g1.1 s1.1.length g1.2), (8, .slice p2_1.1 x2_1.f0.length p2_1.2), (9, .int .i64 (x2_1.f0.length : Int)), (10, .int .i64 s1.2), (11, .bool (decide (s1.2 < (x2_1.f0.length : Int))))]) (bx' := []) (by kernel_rfl) ?_
    refine O.nil (by kernel_rfl) ?_
    refine J.seq (by kernel_rfl) ?_
    rcases condE H with ⟨hc4, H⟩ | ⟨hc4, H⟩
    · refine J.condT (x := .tmp 11) (t := (decide (s1.2 < (x2_1.f0.length : Int)))) (by kernel_rfl) (by kernel_rfl) hc4 ?_
      refine J.skip (by kernel_rfl) ?_
      refine J.seq (by kernel_rfl) ?_
      refine J.block (id := 1) (by kernel_rfl) ?_
      refine J.seq (by kernel_rfl) ?_
      obtain ⟨x4_0, hx4_0, H⟩ := bindE H
      obtain ⟨hx4_0a, hx4_0⟩ := idxE hx4_0
      refine J.region (by kernel_rfl) ?_
      refine O.open (d := kd43) (h := p2_1) (i := s1.2) 1 rfl hx4_0 (op43 _) (fun p4_0 hp4_0A => ?_)
      refine O.q (v := .pointer (some ⟨p4_0.1, p4_0.2.1 + s1.2.toNat * 3, none⟩)) (some 12) (Qu.idx (t := 22) (x := .tmp 8) (y := .tmp 10) (c := p2_1.2) (kk := .i64) (sz := 3) (by kernel_rfl) (by kernel_rfl) (by kernel_rfl) (by kernel_rfl) hx4_0a (idx_lt hx4_0) hp4_0A) (by kernel_rfl) ?_
      refine O.pure 1 [(0, 0)] [3, 8, 9, 10, 13] [p4_0.1, p4_0.2.1 + s1.2.toNat * 3] (fr' := [(3, .slice g1.1 s1.1.length g1.2), (8, .slice p2_1.1 x2_1.f0.length p2_1.2), (9, .int .i64 (x2_1.f0.length : Int)), (10, .int .i64 s1.2), (13, .agg #[.string x4_0.f0, .slice p4_0.2.2.1 x4_0.f1.length p4_0.2.2.2, .int .i64 x4_0.f2])]) (bx' := []) (by kernel_rfl) ?_
      refine O.e (some 5) (Ev.alloc (t := 43) (z := .agg #[.string (⟨#[]⟩ : ByteArray), .slice none 0 0, .int .i64 0]) (by kernel_rfl) (by kernel_rfl)) (by kernel_rfl) (fun p4_2 => ?_)
      refine O.pure 1 [(0, 0)] [3, 5, 8, 9, 10] [p4_2, 0] (fr' := [(3, .slice g1.1 s1.1.length g1.2), (5, .pointer (some ⟨p4_2, 0, none⟩)), (8, .slice p2_1.1 x2_1.f0.length p2_1.2), (9, .int .i64 (x2_1.f0.length : Int)), (10, .int .i64 s1.2)]) (bx' := [⟨p4_2, [.string x4_0.f0, .slice p4_0.2.2.1 x4_0.f1.length p4_0.2.2.2, .int .i64 x4_0.f2], 43⟩]) (by kernel_rfl) ?_
      refine O.nil (by kernel_rfl) ?_
      obtain ⟨y5_4, hy5_4, H⟩ := bindE H
      have hy5_4a := (appE hy5_4).1
      refine J.region (by kernel_rfl) ?_
      refine O.pure 3 [(0, 0)] [3, 8, 9, 10, 14, 16] [p4_2, 0] (fr' := [(3, .slice g1.1 s1.1.length g1.2), (8, .slice p2_1.1 x2_1.f0.length p2_1.2), (9, .int .i64 (x2_1.f0.length : Int)), (10, .int .i64 s1.2), (14, .slice g1.1 s1.1.length g1.2), (16, .string x4_0.f0)]) (bx' := [⟨p4_2, [.string x4_0.f0, .slice p4_0.2.2.1 x4_0.f1.length p4_0.2.2.2, .int .i64 x4_0.f2], 43⟩]) (by kernel_rfl) ?_
      refine O.e (some 17) (Ev.lit (t := 36) (len := 1) (parts := #[(0, .tmp 16)]) (ps := [(0, .string x4_0.f0)]) (cs := [.string x4_0.f0]) (e := 9) Kd.string ([x4_0.f0] : List ByteArray) (by kernel_rfl) (by kernel_rfl) (by kernel_rfl) (by kernel_rfl) (by kernel_rfl) (by decide) (fun w' hφ => (Els.cons (c := [.string x4_0.f0]) (rfl) (Els.nil _ _ _)))) (by kernel_rfl) (fun p5_3 => ?_)
      refine O.e (some 18) (Ev.appLit (x := .tmp 14) (y := .tmp 17) (t := 36) (bytes := 16) (by kernel_rfl) (by kernel_rfl) (by kernel_rfl) (by kernel_rfl) (by kernel_rfl) (by decide) hy5_4a) (by kernel_rfl) (fun p5_4 => ?_)
      refine O.pure 1 [] [3, 8, 9, 10] [] (fr' := [(3, .slice p5_4.1 (s1.1 ++ ([x4_0.f0] : List ByteArray)).length p5_4.2), (8, .slice p2_1.1 x2_1.f0.length p2_1.2), (9, .int .i64 (x2_1.f0.length : Int)), (10, .int .i64 s1.2)]) (bx' := [⟨p4_2, [.string x4_0.f0, .slice p4_0.2.2.1 x4_0.f1.length p4_0.2.2.2, .int .i64 x4_0.f2], 43⟩]) (by kernel_rfl) ?_
      refine O.nil (by kernel_rfl) ?_
      refine J.out ?_
      refine J.region (by kernel_rfl) ?_
      refine O.pure 2 [] [3, 8, 9, 10] [] (fr' := [(3, .slice p5_4.1 (s1.1 ++ ([x4_0.f0] : List ByteArray)).length p5_4.2), (8, .slice p2_1.1 x2_1.f0.length p2_1.2), (9, .int .i64 (x2_1.f0.length : Int)), (10, .int .i64 (IntKind.wrap .i64 (s1.2 + 1)))]) (bx' := [⟨p4_2, [.string x4_0.f0, .slice p4_0.2.2.1 x4_0.f1.length p4_0.2.2.2, .int .i64 x4_0.f2], 43⟩]) (by kernel_rfl) ?_
      refine O.nil (by kernel_rfl) ?_
      exact J.conv2 [3, 8, 9, 10] [1, 2] [] [0] (by kernel_rfl) (by kernel_rfl) (by kernel_rfl) (by kernel_rfl) (by decide) (ih1 ((s1.1 ++ ([x4_0.f0] : List ByteArray)), (IntKind.wrap .i64 (s1.2 + 1))) p5_4 H)
    · refine J.condF (x := .tmp 11) (t := (decide (s1.2 < (x2_1.f0.length : Int)))) (by kernel_rfl) (by kernel_rfl) hc4 ?_
      refine J.exit (id := 0) (by kernel_rfl) rfl ?_
      refine J.seq (by kernel_rfl) ?_
      refine J.region (by kernel_rfl) ?_
      refine O.pure 2 [] [2] [] (fr' := [(2, .slice g1.1 s1.1.length g1.2)]) (bx' := []) (by kernel_rfl) ?_
      refine O.nil (by kernel_rfl) ?_
      obtain rfl := Option.some.inj H
      exact J.doneS [] [] [] [] [0] g1 (vs := [.slice g1.1 s1.1.length g1.2]) (by kernel_rfl) (by kernel_rfl) (by kernel_rfl) (by kernel_rfl) (by kernel_rfl) (by decide)
  · refine J.nilrow Kd.string 9 ?_
    refine J.mono (fun w hS => hS.rowsel [1, 0] rfl (by decide)) ?_
    refine J.mono (fun w hS => hS.freezeH (h := p2_1) (xs := x2_1.f0)) ?_
    exact J.conv2 [3, 8, 9, 10] [1, 0] [] [0] (by kernel_rfl) (by kernel_rfl) (by kernel_rfl) (by kernel_rfl) (by decide) h_
/-! ### haywain/disk.Crash: function 17 -/
def disk_Crash.l1 (K : Nat) (a1 : List Int) (x1_1 : S24) : Nat → ((List S43) × Int) → Option S24
  | 0, _ => none
  | k + 1, s1 => cond (decide (s1.2 < (x1_1.f0.length : Int))) ((idxO s1.1 s1.2).bind fun x4_1 => (cond (decide (s1.2 < (a1.length : Int))) ((idxO a1 s1.2).bind fun x7_2 => some ((if (if (IntKind.wrap .i64 ((x4_1.f1.length : Int) - x4_1.f2)) < x7_2 then (IntKind.wrap .i64 ((x4_1.f1.length : Int) - x4_1.f2)) else x7_2) > 0 then (if (IntKind.wrap .i64 ((x4_1.f1.length : Int) - x4_1.f2)) < x7_2 then (IntKind.wrap .i64 ((x4_1.f1.length : Int) - x4_1.f2)) else x7_2) else 0))) (some (0)) : Option Int).bind fun o11 : Int => (cutO x4_1.f1 0 (IntKind.wrap .i64 (o11 + x4_1.f2))).bind fun y9_10 => (idxO s1.1 s1.2).bind fun x9_12 => disk_Crash.l1 K a1 x1_1 k (((s1.1.set s1.2.toNat (⟨x9_12.f0, (cutL x4_1.f1 ((0 : Int).toNat) (((IntKind.wrap .i64 (o11 + x4_1.f2)) : Int).toNat)), x9_12.f2⟩ : S43)).set s1.2.toNat (⟨x9_12.f0, (cutL x4_1.f1 ((0 : Int).toNat) (((IntKind.wrap .i64 (o11 + x4_1.f2)) : Int).toNat)), (IntKind.wrap .i64 (o11 + x4_1.f2))⟩ : S43)), (IntKind.wrap .i64 (s1.2 + 1)))) (some ((⟨s1.1⟩ : S24)))
def disk_Crash.f (K : Nat) (a0 : S24) (a1 : List Int) : Option S24 := (disk_own.f K a0).bind fun x1_1 => disk_Crash.l1 K a1 x1_1 K (x1_1.f0, 0)
set_option maxRecDepth 100000 in
set_option maxHeartbeats 1000000 in
theorem disk_Crash.con (K : Nat) (a0 : S24) (a1 : List Int) (h0 : Hd) (h1 : Hd) (r : S24) (X : Nat → Nat → Prop) (w : World) (hS : St X w [] [] [] [] [Rd kd43 h0.1 h0.2 a0.f0, Rd (Kd.int .i64) h1.1 h1.2 a1] w) (H : disk_Crash.f K a0 a1 = some r) :
    Cn Try.prog 17 [.agg #[.slice h0.1 a0.f0.length h0.2], .slice h1.1 a1.length h1.2] X w [] (fun i : Hd => .agg #[.slice i.1 r.f0.length i.2]) (fun i => []) (fun i => [mkRow kd43 43 (.slice i.1 r.f0.length i.2) r.f0]) (fun i => []) := by
  refine Cn.of Try.func17 (by kernel_rfl) hS ?_
  unfold disk_Crash.f at H
  refine J.seq (by kernel_rfl) ?_
  refine J.region (by kernel_rfl) ?_
  refine O.e (some 2) (Ev.box (t := 24) (x := .tmp 0) (v := .agg #[.slice h0.1 a0.f0.length h0.2]) (by kernel_rfl) (by kernel_rfl)) (by kernel_rfl) (fun p0_0 => ?_)
  refine O.e (some 4) (Ev.alloc (t := 24) (z := .agg #[.slice none 0 0]) (by kernel_rfl) (by kernel_rfl)) (by kernel_rfl) (fun p0_1 => ?_)
  refine O.nil (by kernel_rfl) ?_
  refine J.seq (by kernel_rfl) ?_
  obtain ⟨x1_1, hx1_1, H⟩ := bindE H
  refine J.region (by kernel_rfl) ?_
  refine O.pure 1 [(1, 0)] [1, 2, 4, 8] [p0_0, 0] (fr' := [(1, .slice h1.1 a1.length h1.2), (2, .pointer (some ⟨p0_0, 0, none⟩)), (4, .pointer (some ⟨p0_1, 0, none⟩)), (8, .agg #[.slice h0.1 a0.f0.length h0.2])]) (bx' := [⟨p0_1, [.slice none 0 0], 24⟩, ⟨p0_0, [.slice h0.1 a0.f0.length h0.2], 24⟩]) (by kernel_rfl) ?_
  refine O.e (some 9) (Ev.call0 (xs := [.tmp 8]) [0] (by kernel_rfl) (by kernel_rfl) (fun w hS => disk_own.con K a0 h0  _ _ w hS hx1_1)) (by kernel_rfl) (fun p1_1 => ?_)
  refine O.pure 1 [(1, 0)] [1, 2, 4] [p0_0, 0] (fr' := [(1, .slice h1.1 a1.length h1.2), (2, .pointer (some ⟨p0_0, 0, none⟩)), (4, .pointer (some ⟨p0_1, 0, none⟩))]) (bx' := [⟨p0_1, [.slice none 0 0], 24⟩, ⟨p0_0, [.slice p1_1.1 x1_1.f0.length p1_1.2], 24⟩]) (by kernel_rfl) ?_
  refine O.nil (by kernel_rfl) ?_
  refine J.seq (by kernel_rfl) ?_
  refine J.seq (by kernel_rfl) ?_
  refine J.region (by kernel_rfl) ?_
  refine O.pure 4 [(1, 0)] [1, 2, 4, 11, 12, 13] [p0_0, 0] (fr' := [(1, .slice h1.1 a1.length h1.2), (2, .pointer (some ⟨p0_0, 0, none⟩)), (4, .pointer (some ⟨p0_1, 0, none⟩)), (11, .slice p1_1.1 x1_1.f0.length p1_1.2), (12, .int .i64 (x1_1.f0.length : Int)), (13, .int .i64 0)]) (bx' := [⟨p0_1, [.slice none 0 0], 24⟩, ⟨p0_0, [.slice p1_1.1 x1_1.f0.length p1_1.2], 24⟩]) (by kernel_rfl) ?_
  refine O.nil (by kernel_rfl) ?_
  refine J.block (id := 0) (by kernel_rfl) ?_
  refine J.loopI (σ := (List S43) × Int) (γ := Hd) (f := fun m_ s_ => disk_Crash.l1 K a1 x1_1 m_ s_) (fun s1 g1 => [(1, .slice h1.1 a1.length h1.2), (2, .pointer (some ⟨p0_0, 0, none⟩)), (4, .pointer (some ⟨p0_1, 0, none⟩)), (11, .slice g1.1 s1.1.length g1.2), (12, .int .i64 (x1_1.f0.length : Int)), (13, .int .i64 s1.2)]) (fun s1 g1 => St X w [] [⟨p0_1, [.slice none 0 0], 24⟩, ⟨p0_0, [.slice g1.1 s1.1.length g1.2], 24⟩] [mkRow kd43 43 (.slice g1.1 s1.1.length g1.2) s1.1] [] [Rd kd43 h0.1 h0.2 a0.f0, Rd (Kd.int .i64) h1.1 h1.2 a1]) K (x1_1.f0, 0) p1_1 (by kernel_rfl) H (fun _ => rfl) (fun m_ s1 H ih1 g1 => ?_) (fun h_ => ?_)
  · unfold disk_Crash.l1 at H
    refine J.seq (by kernel_rfl) ?_
    refine J.region (by kernel_rfl) ?_
    refine O.pure 1 [] [1, 2, 4, 11, 12, 13, 14] [] (fr' := [(1, .slice h1.1 a1.length h1.2), (2, .pointer (some ⟨p0_0, 0, none⟩)), (4, .pointer (some ⟨p0_1, 0, none⟩)), (11, .slice g1.1 s1.1.length g1.2), (12, .int .i64 (x1_1.f0.length : Int)), (13, .int .i64 s1.2), (14, .bool (decide (s1.2 < (x1_1.f0.length : Int))))]) (bx' := [⟨p0_1, [.slice none 0 0], 24⟩, ⟨p0_0, [.slice g1.1 s1.1.length g1.2], 24⟩]) (by kernel_rfl) ?_
    refine O.nil (by kernel_rfl) ?_
    refine J.seq (by kernel_rfl) ?_
    rcases condE H with ⟨hc10, H⟩ | ⟨hc10, H⟩
    · refine J.condT (x := .tmp 14) (t := (decide (s1.2 < (x1_1.f0.length : Int)))) (by kernel_rfl) (by kernel_rfl) hc10 ?_
      refine J.skip (by kernel_rfl) ?_
      refine J.seq (by kernel_rfl) ?_
      refine J.block (id := 1) (by kernel_rfl) ?_
      refine J.seq (by kernel_rfl) ?_
      obtain ⟨x4_1, hx4_1, H⟩ := bindE H
      obtain ⟨hx4_1a, hx4_1⟩ := idxE hx4_1
      refine J.region (by kernel_rfl) ?_
      refine O.pure 1 [] [1, 2, 4, 11, 12, 13, 15] [] (fr' := [(1, .slice h1.1 a1.length h1.2), (2, .pointer (some ⟨p0_0, 0, none⟩)), (4, .pointer (some ⟨p0_1, 0, none⟩)), (11, .slice g1.1 s1.1.length g1.2), (12, .int .i64 (x1_1.f0.length : Int)), (13, .int .i64 s1.2), (15, .int .i64 s1.2)]) (bx' := [⟨p0_1, [.slice none 0 0], 24⟩, ⟨p0_0, [.slice g1.1 s1.1.length g1.2], 24⟩]) (by kernel_rfl) ?_
      refine O.mono (fun w hS => hS.pk) ?_
      refine O.peek (d := kd43) (hh := g1) (m := s1.1.length) (i := s1.2) (by simpa only [List.length_set] using hx4_1) (op43 _) (fun p4_1 hp4_1A => ?_)
      refine O.q (v := .pointer (some ⟨p4_1.1, 0 + s1.2.toNat * 3, none⟩)) (some 16) (Qu.idx (t := 22) (x := .tmp 11) (y := .tmp 13) (len := s1.1.length) (c := g1.2) (kk := .i64) (sz := 3) (by kernel_rfl) (by kernel_rfl) (by kernel_rfl) (by kernel_rfl) hx4_1a (by have := idx_lt hx4_1; simpa only [List.length_set, List.length_replicate] using this) hp4_1A) (by kernel_rfl) ?_
      refine O.q (v := .agg #[.string x4_1.f0, .slice p4_1.2.1 x4_1.f1.length p4_1.2.2, .int .i64 x4_1.f2]) (some 17) (Qu.loadR (t := 43) (x := .tmp 16) (hh := g1) (m := s1.1.length) (i := s1.2.toNat) (u := .pointer (some ⟨p4_1.1, 0 + s1.2.toNat * 3, none⟩)) (r := .agg #[.string x4_1.f0, .slice p4_1.2.1 x4_1.f1.length p4_1.2.2, .int .i64 x4_1.f2]) (cs := [.string x4_1.f0, .slice p4_1.2.1 x4_1.f1.length p4_1.2.2, .int .i64 x4_1.f2]) 0 0 [p4_1.1, 0 + s1.2.toNat * 3] (by kernel_rfl) (by kernel_rfl) hp4_1A rfl (by kernel_rfl)) (by kernel_rfl) ?_
      refine O.e (some 6) (Ev.alloc (t := 43) (z := .agg #[.string (⟨#[]⟩ : ByteArray), .slice none 0 0, .int .i64 0]) (by kernel_rfl) (by kernel_rfl)) (by kernel_rfl) (fun p4_3 => ?_)
      refine O.pure 2 [(0, 0)] [1, 2, 4, 5, 6, 11, 12, 13] [p4_3, 0] (fr' := [(1, .slice h1.1 a1.length h1.2), (2, .pointer (some ⟨p0_0, 0, none⟩)), (4, .pointer (some ⟨p0_1, 0, none⟩)), (5, .int .i64 s1.2), (6, .pointer (some ⟨p4_3, 0, none⟩)), (11, .slice g1.1 s1.1.length g1.2), (12, .int .i64 (x1_1.f0.length : Int)), (13, .int .i64 s1.2)]) (bx' := [⟨p4_3, [.string x4_1.f0, .slice p4_1.2.1 x4_1.f1.length p4_1.2.2, .int .i64 x4_1.f2], 43⟩, ⟨p0_1, [.slice none 0 0], 24⟩, ⟨p0_0, [.slice g1.1 s1.1.length g1.2], 24⟩]) (by kernel_rfl) ?_
      refine O.nil (by kernel_rfl) ?_
      refine J.mono (fun w hS => hS.unpk) ?_
      refine J.seq (by kernel_rfl) ?_
      refine J.region (by kernel_rfl) ?_
      refine O.pure 1 [] [1, 2, 4, 5, 6, 7, 11, 12, 13] [] (fr' := [(1, .slice h1.1 a1.length h1.2), (2, .pointer (some ⟨p0_0, 0, none⟩)), (4, .pointer (some ⟨p0_1, 0, none⟩)), (5, .int .i64 s1.2), (6, .pointer (some ⟨p4_3, 0, none⟩)), (7, .int .i64 0), (11, .slice g1.1 s1.1.length g1.2), (12, .int .i64 (x1_1.f0.length : Int)), (13, .int .i64 s1.2)]) (bx' := [⟨p4_3, [.string x4_1.f0, .slice p4_1.2.1 x4_1.f1.length p4_1.2.2, .int .i64 x4_1.f2], 43⟩, ⟨p0_1, [.slice none 0 0], 24⟩, ⟨p0_0, [.slice g1.1 s1.1.length g1.2], 24⟩]) (by kernel_rfl) ?_
      refine O.nil (by kernel_rfl) ?_
      refine J.seq (by kernel_rfl) ?_
      refine J.seq (by kernel_rfl) ?_
      refine J.region (by kernel_rfl) ?_
      refine O.pure 4 [] [1, 2, 4, 5, 6, 7, 11, 12, 13, 21] [] (fr' := [(1, .slice h1.1 a1.length h1.2), (2, .pointer (some ⟨p0_0, 0, none⟩)), (4, .pointer (some ⟨p0_1, 0, none⟩)), (5, .int .i64 s1.2), (6, .pointer (some ⟨p4_3, 0, none⟩)), (7, .int .i64 0), (11, .slice g1.1 s1.1.length g1.2), (12, .int .i64 (x1_1.f0.length : Int)), (13, .int .i64 s1.2), (21, .bool (decide (s1.2 < (a1.length : Int))))]) (bx' := [⟨p4_3, [.string x4_1.f0, .slice p4_1.2.1 x4_1.f1.length p4_1.2.2, .int .i64 x4_1.f2], 43⟩, ⟨p0_1, [.slice none 0 0], 24⟩, ⟨p0_0, [.slice g1.1 s1.1.length g1.2], 24⟩]) (by kernel_rfl) ?_
      refine O.nil (by kernel_rfl) ?_
      refine J.join (α := Int) (γ := Unit) (fun o11 q11 => [(1, .slice h1.1 a1.length h1.2), (2, .pointer (some ⟨p0_0, 0, none⟩)), (4, .pointer (some ⟨p0_1, 0, none⟩)), (5, .int .i64 s1.2), (6, .pointer (some ⟨p4_3, 0, none⟩)), (7, .int .i64 o11), (11, .slice g1.1 s1.1.length g1.2), (12, .int .i64 (x1_1.f0.length : Int)), (13, .int .i64 s1.2)]) (fun o11 q11 => St X w [] [⟨p4_3, [.string x4_1.f0, .slice p4_1.2.1 x4_1.f1.length p4_1.2.2, .int .i64 x4_1.f2], 43⟩, ⟨p0_1, [.slice none 0 0], 24⟩, ⟨p0_0, [.slice g1.1 s1.1.length g1.2], 24⟩] [mkRow kd43 43 (.slice g1.1 s1.1.length g1.2) s1.1] [] [Rd (Kd.int .u8) p4_1.2.1 p4_1.2.2 x4_1.f1, Rd kd43 h0.1 h0.2 a0.f0, Rd (Kd.int .i64) h1.1 h1.2 a1]) H (fun o11 q11 H => ?_) (fun o11 H hj11 => ?_)
      · refine J.seq (by kernel_rfl) ?_
        refine J.region (by kernel_rfl) ?_
        refine O.pure 5 [(0, 2)] [1, 2, 4, 5, 6, 7, 11, 12, 13] [p4_3, 2] (fr' := [(1, .slice h1.1 a1.length h1.2), (2, .pointer (some ⟨p0_0, 0, none⟩)), (4, .pointer (some ⟨p0_1, 0, none⟩)), (5, .int .i64 s1.2), (6, .pointer (some ⟨p4_3, 0, none⟩)), (7, .int .i64 (IntKind.wrap .i64 (o11 + x4_1.f2))), (11, .slice g1.1 s1.1.length g1.2), (12, .int .i64 (x1_1.f0.length : Int)), (13, .int .i64 s1.2)]) (bx' := [⟨p4_3, [.string x4_1.f0, .slice p4_1.2.1 x4_1.f1.length p4_1.2.2, .int .i64 x4_1.f2], 43⟩, ⟨p0_1, [.slice none 0 0], 24⟩, ⟨p0_0, [.slice g1.1 s1.1.length g1.2], 24⟩]) (by kernel_rfl) ?_
        refine O.nil (by kernel_rfl) ?_
        obtain ⟨y9_10, hy9_10, H⟩ := bindE H
        obtain ⟨hy9_10a, hy9_10b, hy9_10c, -⟩ := cutE hy9_10
        obtain ⟨x9_12, hx9_12, H⟩ := bindE H
        obtain ⟨hx9_12a, hx9_12⟩ := idxE hx9_12
        refine J.mono (fun w hS => hS.pk) ?_
        refine J.peek (d := kd43) (hh := g1) (m := s1.1.length) (i := s1.2) (by simpa only [List.length_set] using hx9_12) (op43 _) (fun p9_12 hp9_12A => ?_)
        refine J.drawS (by kernel_rfl) [(0, some 38, .pointer (some ⟨p0_0, 0, none⟩)), (1, some 39, .slice g1.1 s1.1.length g1.2), (2, some 40, .int .i64 s1.2), (3, some 41, .pointer (some ⟨p0_0, 0, none⟩)), (4, some 42, .slice g1.1 s1.1.length g1.2), (5, some 43, .int .i64 s1.2), (6, some 44, .pointer (some ⟨p4_3, 1, none⟩)), (7, some 45, .slice p4_1.2.1 x4_1.f1.length p4_1.2.2), (8, some 46, .int .i64 (IntKind.wrap .i64 (o11 + x4_1.f2))), (9, some 47, .int .i64 (IntKind.wrap .i64 (o11 + x4_1.f2))), (11, some 49, .int .i64 (IntKind.wrap .i64 (o11 + x4_1.f2)))] ([0, 1, 2, 3, 4, 5, 6, 7, 8, 9, 11] ++ []) (by kernel_rfl) ?_
        refine D.mid (cs := [10]) [0, 1, 2, 3, 4, 5, 6, 7, 8, 9, 11] [] [(2, 0), (2, 0), (0, 1)] [p0_0, 0, p0_0, 0, p4_3, 1] (by kernel_rfl) (by kernel_rfl) trivial (by kernel_rfl) ⟨?_, trivial⟩
        refine EvStep.mk (some 48) (new := fun p9_10 => [(12, some 50, .pointer (some ⟨p9_12.1, 0 + s1.2.toNat * 3, none⟩)), (13, some 51, .pointer (some ⟨p9_12.1, 0 + s1.2.toNat * 3 + 1, none⟩))]) ([0, 1, 2, 3, 4, 5, 6, 11, 13] ++ [12]) (by kernel_rfl) (Ev.cut3 (d := (Kd.int .u8)) (xs := x4_1.f1) (t := 30) (x := .tmp 45) (lo := none) (hi := (some (.tmp 46))) (mx := (some (.tmp 47))) (vlo := none) (vhi := (some (.int .i64 (IntKind.wrap .i64 (o11 + x4_1.f2))))) (vmx := (some (.int .i64 (IntKind.wrap .i64 (o11 + x4_1.f2))))) (A := p4_1.2.1) (c := p4_1.2.2) (l := (0 : Int).toNat) (h := ((IntKind.wrap .i64 (o11 + x4_1.f2)) : Int).toNat) 1 (by kernel_rfl) (by kernel_rfl) (by kernel_rfl) (by kernel_rfl) (by kernel_rfl) (by kernel_rfl) (Bd.dflt _) ⟨_, _, rfl, by omega, rfl⟩ ⟨_, _, rfl, by omega, rfl⟩ (by omega) (by omega) rfl) (fun p9_10 => by kernel_rfl) (fun p9_10 => ?_)
        refine D.mid (cs := [14]) [0, 1, 2, 3, 4, 5, 6, 11, 13] [12] [(2, 0), (2, 0)] [p0_0, 0, p0_0, 0] (by kernel_rfl) (by kernel_rfl) (⟨QuAt.mk (v := .pointer (some ⟨p9_12.1, 0 + s1.2.toNat * 3, none⟩)) (some 50) (by kernel_rfl) (by kernel_rfl) (Qu.idx (t := 22) (x := .tmp 39) (y := .tmp 40) (len := s1.1.length) (c := g1.2) (kk := .i64) (sz := 3) (by kernel_rfl) (by kernel_rfl) (by kernel_rfl) (by kernel_rfl) hx9_12a (by have := idx_lt hx9_12; simpa only [List.length_set, List.length_replicate] using this) hp9_12A), trivial⟩) (by kernel_rfl) ⟨?_, trivial⟩
        refine EvStep.mk none (new := fun _ => [(15, some 52, .pointer (some ⟨p9_12.1, 0 + s1.2.toNat * 3, none⟩)), (16, some 53, .pointer (some ⟨p9_12.1, 0 + s1.2.toNat * 3 + 2, none⟩))]) ([3, 4, 5, 11, 16] ++ [12, 15]) (by kernel_rfl) (Ev.storeR (t := 30) (x := .tmp 51) (y := .tmp 48) (hh := g1) (m := s1.1.length) (g := p9_12.1) (i := s1.2.toNat) (f := 1) (s := 1) (u := .pointer (some ⟨p9_12.1, 0 + s1.2.toNat * 3 + 1, none⟩)) (z := .slice ((p9_10, (cutL x4_1.f1 ((0 : Int).toNat) (((IntKind.wrap .i64 (o11 + x4_1.f2)) : Int).toNat)).length) : Hd).1 (cutL x4_1.f1 ((0 : Int).toNat) (((IntKind.wrap .i64 (o11 + x4_1.f2)) : Int).toNat)).length ((p9_10, (cutL x4_1.f1 ((0 : Int).toNat) (((IntKind.wrap .i64 (o11 + x4_1.f2)) : Int).toNat)).length) : Hd).2) (cs := [.string x9_12.f0, .slice p9_12.2.1 x9_12.f1.length p9_12.2.2, .int .i64 x9_12.f2]) (ncs := [.string x9_12.f0, .slice ((p9_10, (cutL x4_1.f1 ((0 : Int).toNat) (((IntKind.wrap .i64 (o11 + x4_1.f2)) : Int).toNat)).length) : Hd).1 (cutL x4_1.f1 ((0 : Int).toNat) (((IntKind.wrap .i64 (o11 + x4_1.f2)) : Int).toNat)).length ((p9_10, (cutL x4_1.f1 ((0 : Int).toNat) (((IntKind.wrap .i64 (o11 + x4_1.f2)) : Int).toNat)).length) : Hd).2, .int .i64 x9_12.f2]) (⟨x9_12.f0, (cutL x4_1.f1 ((0 : Int).toNat) (((IntKind.wrap .i64 (o11 + x4_1.f2)) : Int).toNat)), x9_12.f2⟩ : S43) (some 0) (by kernel_rfl) (by kernel_rfl) rfl (by kernel_rfl) hp9_12A (by have := idx_lt hx9_12; simpa only [List.length_set] using this) ⟨by kernel_rfl, by kernel_rfl, by kernel_rfl, by kernel_rfl⟩ rfl (by kernel_rfl) (fun w' hφ => ⟨((p9_10, (cutL x4_1.f1 ((0 : Int).toNat) (((IntKind.wrap .i64 (o11 + x4_1.f2)) : Int).toNat)).length) : Hd), rfl, hφ _ (List.mem_of_getElem? (i := 0) rfl)⟩)) (fun _ => by kernel_rfl) (fun _ => ?_)
        refine D.mid (cs := [17]) [3, 4, 5, 11, 16] [12, 15] [(2, 0)] [p0_0, 0] (by kernel_rfl) (by kernel_rfl) (⟨QuAt.mk (v := .pointer (some ⟨p9_12.1, 0 + s1.2.toNat * 3, none⟩)) (some 50) (by kernel_rfl) (by kernel_rfl) (Qu.idx (t := 22) (x := .tmp 39) (y := .tmp 40) (len := s1.1.length) (c := g1.2) (kk := .i64) (sz := 3) (by kernel_rfl) (by kernel_rfl) (by kernel_rfl) (by kernel_rfl) hx9_12a (by have := idx_lt hx9_12; simpa only [List.length_set, List.length_replicate] using this) hp9_12A), QuAt.mk (v := .pointer (some ⟨p9_12.1, 0 + s1.2.toNat * 3, none⟩)) (some 52) (by kernel_rfl) (by kernel_rfl) (Qu.idx (t := 22) (x := .tmp 42) (y := .tmp 43) (len := s1.1.length) (c := g1.2) (kk := .i64) (sz := 3) (by kernel_rfl) (by kernel_rfl) (by kernel_rfl) (by kernel_rfl) hx9_12a (by have := idx_lt hx9_12; simpa only [List.length_set, List.length_replicate] using this) hp9_12A), trivial⟩) (by kernel_rfl) ⟨?_, trivial⟩
        refine EvStep.mk none (new := fun _ => []) ([] ++ [15]) (by kernel_rfl) (Ev.storeR (t := 3) (x := .tmp 53) (y := .tmp 49) (hh := g1) (m := s1.1.length) (g := p9_12.1) (i := s1.2.toNat) (f := 2) (s := 1) (u := .pointer (some ⟨p9_12.1, 0 + s1.2.toNat * 3 + 2, none⟩)) (z := .int .i64 (IntKind.wrap .i64 (o11 + x4_1.f2))) (cs := [.string x9_12.f0, .slice ((p9_10, (cutL x4_1.f1 ((0 : Int).toNat) (((IntKind.wrap .i64 (o11 + x4_1.f2)) : Int).toNat)).length) : Hd).1 (cutL x4_1.f1 ((0 : Int).toNat) (((IntKind.wrap .i64 (o11 + x4_1.f2)) : Int).toNat)).length ((p9_10, (cutL x4_1.f1 ((0 : Int).toNat) (((IntKind.wrap .i64 (o11 + x4_1.f2)) : Int).toNat)).length) : Hd).2, .int .i64 x9_12.f2]) (ncs := [.string x9_12.f0, .slice ((p9_10, (cutL x4_1.f1 ((0 : Int).toNat) (((IntKind.wrap .i64 (o11 + x4_1.f2)) : Int).toNat)).length) : Hd).1 (cutL x4_1.f1 ((0 : Int).toNat) (((IntKind.wrap .i64 (o11 + x4_1.f2)) : Int).toNat)).length ((p9_10, (cutL x4_1.f1 ((0 : Int).toNat) (((IntKind.wrap .i64 (o11 + x4_1.f2)) : Int).toNat)).length) : Hd).2, .int .i64 (IntKind.wrap .i64 (o11 + x4_1.f2))]) (⟨x9_12.f0, (cutL x4_1.f1 ((0 : Int).toNat) (((IntKind.wrap .i64 (o11 + x4_1.f2)) : Int).toNat)), (IntKind.wrap .i64 (o11 + x4_1.f2))⟩ : S43) (some 0) (by kernel_rfl) (by kernel_rfl) rfl (by kernel_rfl) hp9_12A (by have := idx_lt hx9_12; simpa only [List.length_set] using this) ⟨by kernel_rfl, by kernel_rfl, by kernel_rfl, by kernel_rfl⟩ rfl (by kernel_rfl) (fun w' hφ => ⟨((p9_10, (cutL x4_1.f1 ((0 : Int).toNat) (((IntKind.wrap .i64 (o11 + x4_1.f2)) : Int).toNat)).length) : Hd), rfl, hφ _ (List.mem_of_getElem? (i := 0) rfl)⟩)) (fun _ => by kernel_rfl) (fun _ => ?_)
        refine D.fin (fr' := [(1, .slice h1.1 a1.length h1.2), (2, .pointer (some ⟨p0_0, 0, none⟩)), (4, .pointer (some ⟨p0_1, 0, none⟩)), (11, .slice g1.1 s1.1.length g1.2), (12, .int .i64 (x1_1.f0.length : Int)), (13, .int .i64 s1.2)]) [] [15] [] [] [1, 2, 4, 11, 12, 13] (by kernel_rfl) (by kernel_rfl) (⟨QuAt.mk (v := .pointer (some ⟨p9_12.1, 0 + s1.2.toNat * 3, none⟩)) (some 52) (by kernel_rfl) (by kernel_rfl) (Qu.idx (t := 22) (x := .tmp 42) (y := .tmp 43) (len := s1.1.length) (c := g1.2) (kk := .i64) (sz := 3) (by kernel_rfl) (by kernel_rfl) (by kernel_rfl) (by kernel_rfl) hx9_12a (by have := idx_lt hx9_12; simpa only [List.length_set, List.length_replicate] using this) hp9_12A), trivial⟩) (by kernel_rfl) ?_
        refine J.mono (fun w hS => hS.unpk) ?_
        refine J.renS [1, 2, 4, 11, 12, 13] (fr1 := [(1, .slice h1.1 a1.length h1.2), (2, .pointer (some ⟨p0_0, 0, none⟩)), (4, .pointer (some ⟨p0_1, 0, none⟩)), (11, .slice g1.1 s1.1.length g1.2), (12, .int .i64 (x1_1.f0.length : Int)), (13, .int .i64 s1.2)]) (bx1 := [⟨p4_3, [.string x4_1.f0, .slice p4_1.2.1 x4_1.f1.length p4_1.2.2, .int .i64 x4_1.f2], 43⟩, ⟨p0_1, [.slice none 0 0], 24⟩, ⟨p0_0, [.slice g1.1 s1.1.length g1.2], 24⟩]) (rw1 := [mkRow kd43 43 (.slice g1.1 s1.1.length g1.2) ((s1.1.set s1.2.toNat (⟨x9_12.f0, (cutL x4_1.f1 ((0 : Int).toNat) (((IntKind.wrap .i64 (o11 + x4_1.f2)) : Int).toNat)), x9_12.f2⟩ : S43)).set s1.2.toNat (⟨x9_12.f0, (cutL x4_1.f1 ((0 : Int).toNat) (((IntKind.wrap .i64 (o11 + x4_1.f2)) : Int).toNat)), (IntKind.wrap .i64 (o11 + x4_1.f2))⟩ : S43))]) (fr' := [(1, .slice h1.1 a1.length h1.2), (2, .pointer (some ⟨p0_0, 0, none⟩)), (4, .pointer (some ⟨p0_1, 0, none⟩)), (11, .slice g1.1 ((s1.1.set s1.2.toNat (⟨x9_12.f0, (cutL x4_1.f1 ((0 : Int).toNat) (((IntKind.wrap .i64 (o11 + x4_1.f2)) : Int).toNat)), x9_12.f2⟩ : S43)).set s1.2.toNat (⟨x9_12.f0, (cutL x4_1.f1 ((0 : Int).toNat) (((IntKind.wrap .i64 (o11 + x4_1.f2)) : Int).toNat)), (IntKind.wrap .i64 (o11 + x4_1.f2))⟩ : S43)).length g1.2), (12, .int .i64 (x1_1.f0.length : Int)), (13, .int .i64 s1.2)]) (bx' := [⟨p4_3, [.string x4_1.f0, .slice p4_1.2.1 x4_1.f1.length p4_1.2.2, .int .i64 x4_1.f2], 43⟩, ⟨p0_1, [.slice none 0 0], 24⟩, ⟨p0_0, [.slice g1.1 ((s1.1.set s1.2.toNat (⟨x9_12.f0, (cutL x4_1.f1 ((0 : Int).toNat) (((IntKind.wrap .i64 (o11 + x4_1.f2)) : Int).toNat)), x9_12.f2⟩ : S43)).set s1.2.toNat (⟨x9_12.f0, (cutL x4_1.f1 ((0 : Int).toNat) (((IntKind.wrap .i64 (o11 + x4_1.f2)) : Int).toNat)), (IntKind.wrap .i64 (o11 + x4_1.f2))⟩ : S43)).length g1.2], 24⟩]) (rw' := [mkRow kd43 43 (.slice g1.1 ((s1.1.set s1.2.toNat (⟨x9_12.f0, (cutL x4_1.f1 ((0 : Int).toNat) (((IntKind.wrap .i64 (o11 + x4_1.f2)) : Int).toNat)), x9_12.f2⟩ : S43)).set s1.2.toNat (⟨x9_12.f0, (cutL x4_1.f1 ((0 : Int).toNat) (((IntKind.wrap .i64 (o11 + x4_1.f2)) : Int).toNat)), (IntKind.wrap .i64 (o11 + x4_1.f2))⟩ : S43)).length g1.2) ((s1.1.set s1.2.toNat (⟨x9_12.f0, (cutL x4_1.f1 ((0 : Int).toNat) (((IntKind.wrap .i64 (o11 + x4_1.f2)) : Int).toNat)), x9_12.f2⟩ : S43)).set s1.2.toNat (⟨x9_12.f0, (cutL x4_1.f1 ((0 : Int).toNat) (((IntKind.wrap .i64 (o11 + x4_1.f2)) : Int).toNat)), (IntKind.wrap .i64 (o11 + x4_1.f2))⟩ : S43))]) (by kernel_rfl) (by kernel_rfl) (by simp only [List.length_set, List.length_replicate]) ?_
        refine J.out ?_
        refine J.region (by kernel_rfl) ?_
        refine O.pure 2 [] [1, 2, 4, 11, 12, 13] [] (fr' := [(1, .slice h1.1 a1.length h1.2), (2, .pointer (some ⟨p0_0, 0, none⟩)), (4, .pointer (some ⟨p0_1, 0, none⟩)), (11, .slice g1.1 ((s1.1.set s1.2.toNat (⟨x9_12.f0, (cutL x4_1.f1 ((0 : Int).toNat) (((IntKind.wrap .i64 (o11 + x4_1.f2)) : Int).toNat)), x9_12.f2⟩ : S43)).set s1.2.toNat (⟨x9_12.f0, (cutL x4_1.f1 ((0 : Int).toNat) (((IntKind.wrap .i64 (o11 + x4_1.f2)) : Int).toNat)), (IntKind.wrap .i64 (o11 + x4_1.f2))⟩ : S43)).length g1.2), (12, .int .i64 (x1_1.f0.length : Int)), (13, .int .i64 (IntKind.wrap .i64 (s1.2 + 1)))]) (bx' := [⟨p4_3, [.string x4_1.f0, .slice p4_1.2.1 x4_1.f1.length p4_1.2.2, .int .i64 x4_1.f2], 43⟩, ⟨p0_1, [.slice none 0 0], 24⟩, ⟨p0_0, [.slice g1.1 ((s1.1.set s1.2.toNat (⟨x9_12.f0, (cutL x4_1.f1 ((0 : Int).toNat) (((IntKind.wrap .i64 (o11 + x4_1.f2)) : Int).toNat)), x9_12.f2⟩ : S43)).set s1.2.toNat (⟨x9_12.f0, (cutL x4_1.f1 ((0 : Int).toNat) (((IntKind.wrap .i64 (o11 + x4_1.f2)) : Int).toNat)), (IntKind.wrap .i64 (o11 + x4_1.f2))⟩ : S43)).length g1.2], 24⟩]) (by kernel_rfl) ?_
        refine O.nil (by kernel_rfl) ?_
        exact J.conv2 [1, 2, 4, 11, 12, 13] [3, 4] [1, 2] [0] (by kernel_rfl) (by kernel_rfl) (by kernel_rfl) (by kernel_rfl) (by decide) (ih1 (((s1.1.set s1.2.toNat (⟨x9_12.f0, (cutL x4_1.f1 ((0 : Int).toNat) (((IntKind.wrap .i64 (o11 + x4_1.f2)) : Int).toNat)), x9_12.f2⟩ : S43)).set s1.2.toNat (⟨x9_12.f0, (cutL x4_1.f1 ((0 : Int).toNat) (((IntKind.wrap .i64 (o11 + x4_1.f2)) : Int).toNat)), (IntKind.wrap .i64 (o11 + x4_1.f2))⟩ : S43)), (IntKind.wrap .i64 (s1.2 + 1))) g1 H)
      · rcases condE H with ⟨hc13, H⟩ | ⟨hc13, H⟩
        · refine J.condT (x := .tmp 21) (t := (decide (s1.2 < (a1.length : Int)))) (by kernel_rfl) (by kernel_rfl) hc13 ?_
          obtain ⟨x7_2, hx7_2, H⟩ := bindE H
          obtain ⟨hx7_2a, hx7_2⟩ := idxE hx7_2
          refine J.open (d := (Kd.int .i64)) (h := h1) (i := s1.2) 2 rfl hx7_2 (Lay.int _ _) (fun p7_2 hp7_2A => ?_)
          refine J.drawS (by kernel_rfl) [(0, some 22, .slice h1.1 a1.length h1.2), (1, some 23, .int .i64 s1.2), (3, some 25, .int .i64 x7_2), (4, some 26, .pointer (some ⟨p4_3, 1, none⟩)), (5, some 27, .slice p4_1.2.1 x4_1.f1.length p4_1.2.2), (6, some 28, .int .i64 (x4_1.f1.length : Int)), (7, some 29, .pointer (some ⟨p4_3, 2, none⟩)), (8, some 30, .int .i64 x4_1.f2), (9, some 31, .int .i64 (IntKind.wrap .i64 ((x4_1.f1.length : Int) - x4_1.f2))), (10, some 32, .int .i64 (if (IntKind.wrap .i64 ((x4_1.f1.length : Int) - x4_1.f2)) < x7_2 then (IntKind.wrap .i64 ((x4_1.f1.length : Int) - x4_1.f2)) else x7_2)), (11, some 33, .int .i64 (if (if (IntKind.wrap .i64 ((x4_1.f1.length : Int) - x4_1.f2)) < x7_2 then (IntKind.wrap .i64 ((x4_1.f1.length : Int) - x4_1.f2)) else x7_2) > 0 then (if (IntKind.wrap .i64 ((x4_1.f1.length : Int) - x4_1.f2)) < x7_2 then (IntKind.wrap .i64 ((x4_1.f1.length : Int) - x4_1.f2)) else x7_2) else 0)), (12, some 7, .int .i64 (if (if (IntKind.wrap .i64 ((x4_1.f1.length : Int) - x4_1.f2)) < x7_2 then (IntKind.wrap .i64 ((x4_1.f1.length : Int) - x4_1.f2)) else x7_2) > 0 then (if (IntKind.wrap .i64 ((x4_1.f1.length : Int) - x4_1.f2)) < x7_2 then (IntKind.wrap .i64 ((x4_1.f1.length : Int) - x4_1.f2)) else x7_2) else 0)), (2, some 24, .pointer (some ⟨p7_2.1, p7_2.2.1 + s1.2.toNat * 1, none⟩))] ([0, 1, 3, 4, 5, 6, 7, 8, 9, 10, 11, 12] ++ [2]) (by kernel_rfl) ?_
          refine D.fin (fr' := [(1, .slice h1.1 a1.length h1.2), (2, .pointer (some ⟨p0_0, 0, none⟩)), (4, .pointer (some ⟨p0_1, 0, none⟩)), (5, .int .i64 s1.2), (6, .pointer (some ⟨p4_3, 0, none⟩)), (7, .int .i64 (if (if (IntKind.wrap .i64 ((x4_1.f1.length : Int) - x4_1.f2)) < x7_2 then (IntKind.wrap .i64 ((x4_1.f1.length : Int) - x4_1.f2)) else x7_2) > 0 then (if (IntKind.wrap .i64 ((x4_1.f1.length : Int) - x4_1.f2)) < x7_2 then (IntKind.wrap .i64 ((x4_1.f1.length : Int) - x4_1.f2)) else x7_2) else 0)), (11, .slice g1.1 s1.1.length g1.2), (12, .int .i64 (x1_1.f0.length : Int)), (13, .int .i64 s1.2)]) [0, 1, 3, 4, 5, 6, 7, 8, 9, 10, 11, 12] [2] [(3, 0), (0, 1), (0, 2)] [p7_2.1, p7_2.2.1 + s1.2.toNat * 1, p4_3, 1, p4_3, 2] [1, 2, 4, 5, 6, 7, 11, 12, 13] (by kernel_rfl) (by kernel_rfl) (⟨QuAt.mk (v := .pointer (some ⟨p7_2.1, p7_2.2.1 + s1.2.toNat * 1, none⟩)) (some 24) (by kernel_rfl) (by kernel_rfl) (Qu.idx (t := 41) (x := .tmp 22) (y := .tmp 23) (c := h1.2) (kk := .i64) (sz := 1) (by kernel_rfl) (by kernel_rfl) (by kernel_rfl) (by kernel_rfl) hx7_2a (idx_lt hx7_2) hp7_2A), trivial⟩) (by kernel_rfl) ?_
          obtain rfl := Option.some.inj H
          exact J.conv2 [1, 2, 4, 5, 6, 7, 11, 12, 13] [0, 1, 2] [0, 1, 2] [0] (by kernel_rfl) (by kernel_rfl) (by kernel_rfl) (by kernel_rfl) (by decide) (hj11 ())
        · refine J.condF (x := .tmp 21) (t := (decide (s1.2 < (a1.length : Int)))) (by kernel_rfl) (by kernel_rfl) hc13 ?_
          refine J.skip (by kernel_rfl) ?_
          obtain rfl := Option.some.inj H
          exact J.conv2 [1, 2, 4, 5, 6, 7, 11, 12, 13] [0, 1, 2] [0, 1, 2] [0] (by kernel_rfl) (by kernel_rfl) (by kernel_rfl) (by kernel_rfl) (by decide) (hj11 ())
    · refine J.condF (x := .tmp 14) (t := (decide (s1.2 < (x1_1.f0.length : Int)))) (by kernel_rfl) (by kernel_rfl) hc10 ?_
      refine J.exit (id := 0) (by kernel_rfl) rfl ?_
      refine J.seq (by kernel_rfl) ?_
      refine J.region (by kernel_rfl) ?_
      refine O.pure 2 [(1, 0), (0, 0)] [4] [p0_0, 0, p0_1, 0] (fr' := [(4, .pointer (some ⟨p0_1, 0, none⟩))]) (bx' := [⟨p0_1, [.slice g1.1 s1.1.length g1.2], 24⟩, ⟨p0_0, [.slice g1.1 s1.1.length g1.2], 24⟩]) (by kernel_rfl) ?_
      refine O.nil (by kernel_rfl) ?_
      obtain rfl := Option.some.inj H
      exact J.doneS [(0, 0)] [p0_1, 0] [] [] [0] g1 (vs := [.agg #[.slice g1.1 s1.1.length g1.2]]) (by kernel_rfl) (by kernel_rfl) (by kernel_rfl) (by kernel_rfl) (by kernel_rfl) (by decide)
  · exact J.conv2 [1, 2, 4, 11, 12, 13] [0, 1] [0, 1] [0] (by kernel_rfl) (by kernel_rfl) (by kernel_rfl) (by kernel_rfl) (by decide) h_
/-! ### haywain/disk.Put$1: function 32 -/
def disk_Put_1_f32.f (K : Nat) (a0 : S43) (c_0 : ByteArray) : Option Bool := some ((!((Op.bytesLess a0.f0.toList c_0.toList) || (a0.f0.toList == c_0.toList))))
set_option maxRecDepth 100000 in
set_option maxHeartbeats 1000000 in
theorem disk_Put_1_f32.con (K : Nat) (a0 : S43) (c_0 : ByteArray) (gc_0 : Nat) (h0 : Hd) (r : Bool) (X : Nat → Nat → Prop) (w : World) (hS : St X w [] [] [] [] [Rd (Kd.int .u8) h0.1 h0.2 a0.f1, RowAt (gc_0, 0, [.string c_0])] w) (H : disk_Put_1_f32.f K a0 c_0 = some r) :
    Cn Try.prog 32 [.agg #[.string a0.f0, .slice h0.1 a0.f1.length h0.2, .int .i64 a0.f2], .pointer (some ⟨gc_0, 0, none⟩)] X w [] (fun i : Unit => .bool r) (fun i => []) (fun i => []) (fun i => []) := by
  refine Cn.of Try.func32 (by kernel_rfl) hS ?_
  unfold disk_Put_1_f32.f at H
  refine J.mono (fun w hS => hS.roF 1 rfl) ?_
  refine J.seq (by kernel_rfl) ?_
  refine J.region (by kernel_rfl) ?_
  refine O.e (some 2) (Ev.box (t := 43) (x := .tmp 0) (v := .agg #[.string a0.f0, .slice h0.1 a0.f1.length h0.2, .int .i64 a0.f2]) (by kernel_rfl) (by kernel_rfl)) (by kernel_rfl) (fun p0_0 => ?_)
  refine O.pure 1 [] [1, 2] [] (fr' := [(1, .pointer (some ⟨gc_0, 0, none⟩)), (2, .pointer (some ⟨p0_0, 0, none⟩))]) (bx' := [⟨p0_0, [.string a0.f0, .slice h0.1 a0.f1.length h0.2, .int .i64 a0.f2], 43⟩]) (by kernel_rfl) ?_
  refine O.nil (by kernel_rfl) ?_
  refine J.seq (by kernel_rfl) ?_
  refine J.region (by kernel_rfl) ?_
  refine O.pure 5 [(0, 0), (1, 0)] [3] [p0_0, 0, gc_0, 0] (fr' := [(3, .bool (!((Op.bytesLess a0.f0.toList c_0.toList) || (a0.f0.toList == c_0.toList))))]) (bx' := [⟨p0_0, [.string a0.f0, .slice h0.1 a0.f1.length h0.2, .int .i64 a0.f2], 43⟩]) (by kernel_rfl) ?_
  refine O.nil (by kernel_rfl) ?_
  obtain rfl := Option.some.inj H
  exact J.doneS [] [] [] [] [] () (vs := [.bool (!((Op.bytesLess a0.f0.toList c_0.toList) || (a0.f0.toList == c_0.toList)))]) (by kernel_rfl) (by kernel_rfl) (by kernel_rfl) (by kernel_rfl) (by kernel_rfl) (by decide)
/-! ### haywain/disk.find: function 31 -/
def disk_find_f32.l1 (K : Nat) (a0 : S24) (c1_0 : ByteArray) : Nat → Int → Option Int
  | 0, _ => none
  | k + 1, s1 => cond (decide (s1 < (a0.f0.length : Int))) ((idxO a0.f0 s1).bind fun x3_1 => (disk_Put_1_f32.f K x3_1 c1_0).bind fun x4_2 => cond x4_2 (some (s1)) (disk_find_f32.l1 K a0 c1_0 k (IntKind.wrap .i64 (s1 + 1)))) (some ((-1)))
def disk_find_f32.f (K : Nat) (a0 : S24) (c1_0 : ByteArray) : Option Int := disk_find_f32.l1 K a0 c1_0 K 0
set_option maxRecDepth 100000 in
set_option maxHeartbeats 1000000 in
theorem disk_find_f32.con (K : Nat) (a0 : S24) (c1_0 : ByteArray) (gc1_0 : Nat) (h0 : Hd) (r : Int) (X : Nat → Nat → Prop) (w : World) (hS : St X w [] [] [] [] [Rd kd43 h0.1 h0.2 a0.f0, RowAt (gc1_0, 0, [.string c1_0])] w) (H : disk_find_f32.f K a0 c1_0 = some r) :
    Cn Try.prog 31 [.agg #[.slice h0.1 a0.f0.length h0.2], .func (.func 32) #[] #[.pointer (some ⟨gc1_0, 0, none⟩)]] X w [] (fun i : Unit => .int .i64 r) (fun i => []) (fun i => []) (fun i => []) := by
  refine Cn.of Try.func31 (by kernel_rfl) hS ?_
  unfold disk_find_f32.f at H
  refine J.seq (by kernel_rfl) ?_
  refine J.region (by kernel_rfl) ?_
  refine O.e (some 2) (Ev.box (t := 24) (x := .tmp 0) (v := .agg #[.slice h0.1 a0.f0.length h0.2]) (by kernel_rfl) (by kernel_rfl)) (by kernel_rfl) (fun p0_0 => ?_)
  refine O.pure 1 [] [1, 2] [] (fr' := [(1, .func (.func 32) #[] #[.pointer (some ⟨gc1_0, 0, none⟩)]), (2, .pointer (some ⟨p0_0, 0, none⟩))]) (bx' := [⟨p0_0, [.slice h0.1 a0.f0.length h0.2], 24⟩]) (by kernel_rfl) ?_
  refine O.nil (by kernel_rfl) ?_
  refine J.seq (by kernel_rfl) ?_
  refine J.seq (by kernel_rfl) ?_
  refine J.region (by kernel_rfl) ?_
  refine O.pure 4 [(0, 0)] [1, 8, 9, 10] [p0_0, 0] (fr' := [(1, .func (.func 32) #[] #[.pointer (some ⟨gc1_0, 0, none⟩)]), (8, .slice h0.1 a0.f0.length h0.2), (9, .int .i64 (a0.f0.length : Int)), (10, .int .i64 0)]) (bx' := [⟨p0_0, [.slice h0.1 a0.f0.length h0.2], 24⟩]) (by kernel_rfl) ?_
  refine O.nil (by kernel_rfl) ?_
  refine J.block (id := 0) (by kernel_rfl) ?_
  refine J.loopI (σ := Int) (γ := Unit) (f := fun m_ s_ => disk_find_f32.l1 K a0 c1_0 m_ s_) (fun s1 g1 => [(1, .func (.func 32) #[] #[.pointer (some ⟨gc1_0, 0, none⟩)]), (8, .slice h0.1 a0.f0.length h0.2), (9, .int .i64 (a0.f0.length : Int)), (10, .int .i64 s1)]) (fun s1 g1 => St X w [] [] [] [] [Rd kd43 h0.1 h0.2 a0.f0, RowAt (gc1_0, 0, [.string c1_0])]) K 0 () (by kernel_rfl) H (fun _ => rfl) (fun m_ s1 H ih1 g1 => ?_) (fun h_ => ?_)
  · unfold disk_find_f32.l1 at H
    refine J.seq (by kernel_rfl) ?_
    refine J.region (by kernel_rfl) ?_
    refine O.pure 1 [] [1, 8, 9, 10, 11] [] (fr' := [(1, .func (.func 32) #[] #[.pointer (some ⟨gc1_0, 0, none⟩)]), (8, .slice h0.1 a0.f0.length h0.2), (9, .int .i64 (a0.f0.length : Int)), (10, .int .i64 s1), (11, .bool (decide (s1 < (a0.f0.length : Int))))]) (bx' := []) (by kernel_rfl) ?_
    refine O.nil (by kernel_rfl) ?_
    refine J.seq (by kernel_rfl) ?_
    rcases condE H with ⟨hc6, H⟩ | ⟨hc6, H⟩
    · refine J.condT (x := .tmp 11) (t := (decide (s1 < (a0.f0.length : Int)))) (by kernel_rfl) (by kernel_rfl) hc6 ?_
      refine J.skip (by kernel_rfl) ?_
      refine J.seq (by kernel_rfl) ?_
      refine J.block (id := 1) (by kernel_rfl) ?_
      refine J.seq (by kernel_rfl) ?_
      obtain ⟨x3_1, hx3_1, H⟩ := bindE H
      obtain ⟨hx3_1a, hx3_1⟩ := idxE hx3_1
      refine J.region (by kernel_rfl) ?_
      refine O.pure 1 [] [1, 8, 9, 10, 12] [] (fr' := [(1, .func (.func 32) #[] #[.pointer (some ⟨gc1_0, 0, none⟩)]), (8, .slice h0.1 a0.f0.length h0.2), (9, .int .i64 (a0.f0.length : Int)), (10, .int .i64 s1), (12, .int .i64 s1)]) (bx' := []) (by kernel_rfl) ?_
      refine O.open (d := kd43) (h := h0) (i := s1) 0 rfl hx3_1 (op43 _) (fun p3_1 hp3_1A => ?_)
      refine O.q (v := .pointer (some ⟨p3_1.1, p3_1.2.1 + s1.toNat * 3, none⟩)) (some 13) (Qu.idx (t := 22) (x := .tmp 8) (y := .tmp 10) (c := h0.2) (kk := .i64) (sz := 3) (by kernel_rfl) (by kernel_rfl) (by kernel_rfl) (by kernel_rfl) hx3_1a (idx_lt hx3_1) hp3_1A) (by kernel_rfl) ?_
      refine O.pure 1 [(0, 0)] [1, 8, 9, 10, 12, 14] [p3_1.1, p3_1.2.1 + s1.toNat * 3] (fr' := [(1, .func (.func 32) #[] #[.pointer (some ⟨gc1_0, 0, none⟩)]), (8, .slice h0.1 a0.f0.length h0.2), (9, .int .i64 (a0.f0.length : Int)), (10, .int .i64 s1), (12, .int .i64 s1), (14, .agg #[.string x3_1.f0, .slice p3_1.2.2.1 x3_1.f1.length p3_1.2.2.2, .int .i64 x3_1.f2])]) (bx' := []) (by kernel_rfl) ?_
      refine O.e (some 6) (Ev.alloc (t := 43) (z := .agg #[.string (⟨#[]⟩ : ByteArray), .slice none 0 0, .int .i64 0]) (by kernel_rfl) (by kernel_rfl)) (by kernel_rfl) (fun p3_3 => ?_)
      refine O.pure 2 [(0, 0)] [1, 5, 6, 8, 9, 10] [p3_3, 0] (fr' := [(1, .func (.func 32) #[] #[.pointer (some ⟨gc1_0, 0, none⟩)]), (5, .int .i64 s1), (6, .pointer (some ⟨p3_3, 0, none⟩)), (8, .slice h0.1 a0.f0.length h0.2), (9, .int .i64 (a0.f0.length : Int)), (10, .int .i64 s1)]) (bx' := [⟨p3_3, [.string x3_1.f0, .slice p3_1.2.2.1 x3_1.f1.length p3_1.2.2.2, .int .i64 x3_1.f2], 43⟩]) (by kernel_rfl) ?_
      refine O.nil (by kernel_rfl) ?_
      refine J.seq (by kernel_rfl) ?_
      obtain ⟨x4_2, hx4_2, H⟩ := bindE H
      refine J.region (by kernel_rfl) ?_
      refine O.pure 2 [(0, 0)] [1, 5, 8, 9, 10, 15, 16] [p3_3, 0] (fr' := [(1, .func (.func 32) #[] #[.pointer (some ⟨gc1_0, 0, none⟩)]), (5, .int .i64 s1), (8, .slice h0.1 a0.f0.length h0.2), (9, .int .i64 (a0.f0.length : Int)), (10, .int .i64 s1), (15, .func (.func 32) #[] #[.pointer (some ⟨gc1_0, 0, none⟩)]), (16, .agg #[.string x3_1.f0, .slice p3_1.2.2.1 x3_1.f1.length p3_1.2.2.2, .int .i64 x3_1.f2])]) (bx' := [⟨p3_3, [.string x3_1.f0, .slice p3_1.2.2.1 x3_1.f1.length p3_1.2.2.2, .int .i64 x3_1.f2], 43⟩]) (by kernel_rfl) ?_
      refine O.e (some 17) (Ev.callF (g := 32) (caps := [.pointer (some ⟨gc1_0, 0, none⟩)]) (vs := [.agg #[.string x3_1.f0, .slice p3_1.2.2.1 x3_1.f1.length p3_1.2.2.2, .int .i64 x3_1.f2]]) (xs := [.tmp 16]) [0, 2] (by kernel_rfl) (by kernel_rfl) (fun w hS => disk_Put_1_f32.con K x3_1 c1_0 gc1_0 p3_1.2.2  _ _ w hS hx4_2)) (by kernel_rfl) (fun _ => ?_)
      refine O.nil (by kernel_rfl) ?_
      rcases condE H with ⟨hc7, H⟩ | ⟨hc7, H⟩
      · refine J.condT (x := .tmp 17) (t := x4_2) (by kernel_rfl) (by kernel_rfl) hc7 ?_
        refine J.seq (by kernel_rfl) ?_
        refine J.region (by kernel_rfl) ?_
        refine O.pure 2 [] [4] [] (fr' := [(4, .int .i64 s1)]) (bx' := [⟨p3_3, [.string x3_1.f0, .slice p3_1.2.2.1 x3_1.f1.length p3_1.2.2.2, .int .i64 x3_1.f2], 43⟩]) (by kernel_rfl) ?_
        refine O.nil (by kernel_rfl) ?_
        obtain rfl := Option.some.inj H
        exact J.doneS [] [] [] [] [] () (vs := [.int .i64 s1]) (by kernel_rfl) (by kernel_rfl) (by kernel_rfl) (by kernel_rfl) (by kernel_rfl) (by decide)
      · refine J.condF (x := .tmp 17) (t := x4_2) (by kernel_rfl) (by kernel_rfl) hc7 ?_
        refine J.skip (by kernel_rfl) ?_
        refine J.out ?_
        refine J.region (by kernel_rfl) ?_
        refine O.pure 2 [] [1, 8, 9, 10] [] (fr' := [(1, .func (.func 32) #[] #[.pointer (some ⟨gc1_0, 0, none⟩)]), (8, .slice h0.1 a0.f0.length h0.2), (9, .int .i64 (a0.f0.length : Int)), (10, .int .i64 (IntKind.wrap .i64 (s1 + 1)))]) (bx' := [⟨p3_3, [.string x3_1.f0, .slice p3_1.2.2.1 x3_1.f1.length p3_1.2.2.2, .int .i64 x3_1.f2], 43⟩]) (by kernel_rfl) ?_
        refine O.nil (by kernel_rfl) ?_
        exact J.conv2 [1, 8, 9, 10] [1, 2] [] [] (by kernel_rfl) (by kernel_rfl) (by kernel_rfl) (by kernel_rfl) (by decide) (ih1 (IntKind.wrap .i64 (s1 + 1)) () H)
    · refine J.condF (x := .tmp 11) (t := (decide (s1 < (a0.f0.length : Int)))) (by kernel_rfl) (by kernel_rfl) hc6 ?_
      refine J.exit (id := 0) (by kernel_rfl) rfl ?_
      refine J.seq (by kernel_rfl) ?_
      refine J.region (by kernel_rfl) ?_
      refine O.pure 1 [] [4] [] (fr' := [(4, .int .i64 (-1))]) (bx' := []) (by kernel_rfl) ?_
      refine O.nil (by kernel_rfl) ?_
      obtain rfl := Option.some.inj H
      exact J.doneS [] [] [] [] [] () (vs := [.int .i64 (-1)]) (by kernel_rfl) (by kernel_rfl) (by kernel_rfl) (by kernel_rfl) (by kernel_rfl) (by decide)
  · exact J.conv2 [1, 8, 9, 10] [0, 1] [] [] (by kernel_rfl) (by kernel_rfl) (by kernel_rfl) (by kernel_rfl) (by decide) h_
/-! ### haywain/disk.Put: function 20 -/
def disk_Put.f (K : Nat) (a0 : S24) (a1 : ByteArray) (a2 : List Int) : Option (S24 × Int) := (disk_own.f K a0).bind fun x1_1 => (disk_named.f K a1).bind fun x2_1 => cond (!x2_1) (some ((x1_1, 1))) ((disk_at.f K x1_1 a1).bind fun x4_2 => cond (decide (x4_2 < 0)) ((cond ((x1_1.f0.length : Int) == 40) (some (((x1_1.f0.length : Int) == 40))) (cond (decide ((a2.length : Int) > 20000)) (some ((decide ((a2.length : Int) > 20000)))) (cond (decide (x4_2 ≥ 0)) ((idxO x1_1.f0 x4_2).bind fun x7_6 => some ((decide ((x7_6.f1.length : Int) > (IntKind.wrap .i64 (20000 - (a2.length : Int))))))) (some (false)))) : Option Bool).bind fun o3 : Bool => cond o3 (some ((x1_1, 3))) ((disk_find_f32.f K x1_1 a1).bind fun x10_2 => (cond (decide (x10_2 < 0)) (some ((x1_1.f0.length : Int))) (some (x10_2)) : Option Int).bind fun o8 : Int => (cutO x1_1.f0 o8 (x1_1.f0.length : Int)).bind fun y13_4 => (appO 48 ([] : List S43) (cutL x1_1.f0 ((o8 : Int).toNat) (((x1_1.f0.length : Int) : Int).toNat))).bind fun y13_5 => (cutO x1_1.f0 0 o8).bind fun y14_4 => (appO 48 (cutL x1_1.f0 ((0 : Int).toNat) ((o8 : Int).toNat)) ([(⟨a1, ([] : List Int), 0⟩ : S43)] : List S43)).bind fun y14_8 => (appO 48 ((cutL x1_1.f0 ((0 : Int).toNat) ((o8 : Int).toNat)) ++ ([(⟨a1, ([] : List Int), 0⟩ : S43)] : List S43)) (([] : List S43) ++ (cutL x1_1.f0 ((o8 : Int).toNat) (((x1_1.f0.length : Int) : Int).toNat)))).bind fun y14_10 => (idxO (((cutL x1_1.f0 ((0 : Int).toNat) ((o8 : Int).toNat)) ++ ([(⟨a1, ([] : List Int), 0⟩ : S43)] : List S43)) ++ (([] : List S43) ++ (cutL x1_1.f0 ((o8 : Int).toNat) (((x1_1.f0.length : Int) : Int).toNat)))) o8).bind fun x15_6 => (appO 1 x15_6.f1 a2).bind fun y15_10 => (sepO (fun x : S43 => x.f0.toList) (((cutL x1_1.f0 ((0 : Int).toNat) ((o8 : Int).toNat)) ++ ([(⟨a1, ([] : List Int), 0⟩ : S43)] : List S43)) ++ (([] : List S43) ++ (cutL x1_1.f0 ((o8 : Int).toNat) (((x1_1.f0.length : Int) : Int).toNat)))) o8).bind fun z15_10 => some (((⟨((((cutL x1_1.f0 ((0 : Int).toNat) ((o8 : Int).toNat)) ++ ([(⟨a1, ([] : List Int), 0⟩ : S43)] : List S43)) ++ (([] : List S43) ++ (cutL x1_1.f0 ((o8 : Int).toNat) (((x1_1.f0.length : Int) : Int).toNat)))).set o8.toNat (⟨x15_6.f0, (x15_6.f1 ++ a2), x15_6.f2⟩ : S43))⟩ : S24), 0)))) ((cond (decide ((a2.length : Int) > 20000)) (some ((decide ((a2.length : Int) > 20000)))) (cond (decide (x4_2 ≥ 0)) ((idxO x1_1.f0 x4_2).bind fun x7_6 => some ((decide ((x7_6.f1.length : Int) > (IntKind.wrap .i64 (20000 - (a2.length : Int))))))) (some (false))) : Option Bool).bind fun o14 : Bool => cond o14 (some ((x1_1, 3))) ((idxO x1_1.f0 x4_2).bind fun x15_6 => (appO 1 x15_6.f1 a2).bind fun y15_10 => (sepO (fun x : S43 => x.f0.toList) x1_1.f0 x4_2).bind fun z15_10 => some (((⟨(x1_1.f0.set x4_2.toNat (⟨x15_6.f0, (x15_6.f1 ++ a2), x15_6.f2⟩ : S43))⟩ : S24), 0)))))
set_option maxRecDepth 100000 in
set_option maxHeartbeats 1000000 in
theorem disk_Put.con (K : Nat) (a0 : S24) (a1 : ByteArray) (a2 : List Int) (h0 : Hd) (h1 : Hd) (r : (S24 × Int)) (X : Nat → Nat → Prop) (w : World) (hS : St X w [] [] [] [] [Rd kd43 h0.1 h0.2 a0.f0, Rd (Kd.int .u8) h1.1 h1.2 a2] w) (H : disk_Put.f K a0 a1 a2 = some r) :
    Cn Try.prog 20 [.agg #[.slice h0.1 a0.f0.length h0.2], .string a1, .slice h1.1 a2.length h1.2] X w [] (fun i : Hd => .tuple #[.agg #[.slice i.1 r.1.f0.length i.2], .int .i64 r.2]) (fun i => []) (fun i => [mkRow kd43 43 (.slice i.1 r.1.f0.length i.2) r.1.f0]) (fun i => []) := by
  refine Cn.of Try.func20 (by kernel_rfl) hS ?_
  unfold disk_Put.f at H
  have hSe_ := hS
  refine J.seq (by kernel_rfl) ?_
  refine J.region (by kernel_rfl) ?_
  refine O.e (some 3) (Ev.box (t := 24) (x := .tmp 0) (v := .agg #[.slice h0.1 a0.f0.length h0.2]) (by kernel_rfl) (by kernel_rfl)) (by kernel_rfl) (fun p0_0 => ?_)
  refine O.e (some 4) (Ev.box (t := 9) (x := .tmp 1) (v := .string a1) (by kernel_rfl) (by kernel_rfl)) (by kernel_rfl) (fun p0_1 => ?_)
  refine O.e (some 6) (Ev.alloc (t := 24) (z := .agg #[.slice none 0 0]) (by kernel_rfl) (by kernel_rfl)) (by kernel_rfl) (fun p0_2 => ?_)
  refine O.pure 1 [] [2, 3, 4, 6] [] (fr' := [(2, .slice h1.1 a2.length h1.2), (3, .pointer (some ⟨p0_0, 0, none⟩)), (4, .pointer (some ⟨p0_1, 0, none⟩)), (6, .pointer (some ⟨p0_2, 0, none⟩))]) (bx' := [⟨p0_2, [.slice none 0 0], 24⟩, ⟨p0_1, [.string a1], 9⟩, ⟨p0_0, [.slice h0.1 a0.f0.length h0.2], 24⟩]) (by kernel_rfl) ?_
  refine O.nil (by kernel_rfl) ?_
  refine J.seq (by kernel_rfl) ?_
  obtain ⟨x1_1, hx1_1, H⟩ := bindE H
  refine J.region (by kernel_rfl) ?_
  refine O.pure 1 [(2, 0)] [2, 3, 4, 6, 10] [p0_0, 0] (fr' := [(2, .slice h1.1 a2.length h1.2), (3, .pointer (some ⟨p0_0, 0, none⟩)), (4, .pointer (some ⟨p0_1, 0, none⟩)), (6, .pointer (some ⟨p0_2, 0, none⟩)), (10, .agg #[.slice h0.1 a0.f0.length h0.2])]) (bx' := [⟨p0_2, [.slice none 0 0], 24⟩, ⟨p0_1, [.string a1], 9⟩, ⟨p0_0, [.slice h0.1 a0.f0.length h0.2], 24⟩]) (by kernel_rfl) ?_
  refine O.e (some 11) (Ev.callD (xs := [.tmp 10]) (v := fun i : Hd × List (S43 × Hd) => .agg #[.slice i.1.1 x1_1.f0.length i.1.2]) (r1 := fun i => [mkRow (sh43.kdS i.2) 43 (.slice i.1.1 x1_1.f0.length i.1.2) x1_1.f0]) (Dp := fun b i w' => Deep b 5 i.2 w' ∧ ∀ z ∈ i.2, ∀ b ∈ hdB z.2, b ∉ ownB (.slice i.1.1 x1_1.f0.length i.1.2)) [0] (by kernel_rfl) (by kernel_rfl) (fun w hS => disk_own.conD K a0 h0  _ _ w hS hx1_1)) (by kernel_rfl) (fun p1_1 => ?_)
  refine O.rescope (fun w1_ hS1_ hD1_ => ?_)
  obtain ⟨b1_, hb1_, hb2_, hD1_, hD2_⟩ := hD1_
  have hDp_ := hD1_.mono hb1_
  have hout_ := hD1_.out (r := mkRow (sh43.kdS p1_1.2) 43 (.slice p1_1.1.1 x1_1.f0.length p1_1.1.2) x1_1.f0) hb2_ hD2_
  refine O.pure 1 [(2, 0)] [2, 3, 4, 6] [p0_0, 0] (fr' := [(2, .slice h1.1 a2.length h1.2), (3, .pointer (some ⟨p0_0, 0, none⟩)), (4, .pointer (some ⟨p0_1, 0, none⟩)), (6, .pointer (some ⟨p0_2, 0, none⟩))]) (bx' := [⟨p0_2, [.slice none 0 0], 24⟩, ⟨p0_1, [.string a1], 9⟩, ⟨p0_0, [.slice p1_1.1.1 x1_1.f0.length p1_1.1.2], 24⟩]) (by kernel_rfl) ?_
  refine O.nil (by kernel_rfl) ?_
  refine J.seq (by kernel_rfl) ?_
  refine J.seq (by kernel_rfl) ?_
  obtain ⟨x2_1, hx2_1, H⟩ := bindE H
  refine J.region (by kernel_rfl) ?_
  refine O.pure 1 [(1, 0)] [2, 3, 4, 6, 12] [p0_1, 0] (fr' := [(2, .slice h1.1 a2.length h1.2), (3, .pointer (some ⟨p0_0, 0, none⟩)), (4, .pointer (some ⟨p0_1, 0, none⟩)), (6, .pointer (some ⟨p0_2, 0, none⟩)), (12, .string a1)]) (bx' := [⟨p0_2, [.slice none 0 0], 24⟩, ⟨p0_1, [.string a1], 9⟩, ⟨p0_0, [.slice p1_1.1.1 x1_1.f0.length p1_1.1.2], 24⟩]) (by kernel_rfl) ?_
  refine O.e (some 13) (Ev.call0 (xs := [.tmp 12]) [] (by kernel_rfl) (by kernel_rfl) (fun w hS => disk_named.con K a1  _ _ w hS hx2_1)) (by kernel_rfl) (fun _ => ?_)
  refine O.pure 1 [] [2, 3, 4, 6, 14] [] (fr' := [(2, .slice h1.1 a2.length h1.2), (3, .pointer (some ⟨p0_0, 0, none⟩)), (4, .pointer (some ⟨p0_1, 0, none⟩)), (6, .pointer (some ⟨p0_2, 0, none⟩)), (14, .bool (!x2_1))]) (bx' := [⟨p0_2, [.slice none 0 0], 24⟩, ⟨p0_1, [.string a1], 9⟩, ⟨p0_0, [.slice p1_1.1.1 x1_1.f0.length p1_1.1.2], 24⟩]) (by kernel_rfl) ?_
  refine O.nil (by kernel_rfl) ?_
  rcases condE H with ⟨hc1, H⟩ | ⟨hc1, H⟩
  · refine J.condT (x := .tmp 14) (t := (!x2_1)) (by kernel_rfl) (by kernel_rfl) hc1 ?_
    refine J.seq (by kernel_rfl) ?_
    refine J.region (by kernel_rfl) ?_
    refine O.pure 3 [(2, 0), (0, 0)] [6, 7] [p0_0, 0, p0_2, 0] (fr' := [(6, .pointer (some ⟨p0_2, 0, none⟩)), (7, .int .i64 1)]) (bx' := [⟨p0_2, [.slice p1_1.1.1 x1_1.f0.length p1_1.1.2], 24⟩, ⟨p0_1, [.string a1], 9⟩, ⟨p0_0, [.slice p1_1.1.1 x1_1.f0.length p1_1.1.2], 24⟩]) (by kernel_rfl) ?_
    refine O.nil (by kernel_rfl) ?_
    obtain rfl := Option.some.inj H
    refine J.mono (fun w hS => hS1_.unfocus hS) ?_
    refine J.mono (fun w hS => hS.impR (d := (sh43.kdS p1_1.2)) (d' := kd43) rfl (imp43 _)) ?_
    exact J.doneS [(0, 0)] [p0_2, 0] [] [] [0] p1_1.1 (vs := [.agg #[.slice p1_1.1.1 x1_1.f0.length p1_1.1.2], .int .i64 1]) (by kernel_rfl) (by kernel_rfl) (by kernel_rfl) (by kernel_rfl) (by kernel_rfl) (by decide)
  · refine J.condF (x := .tmp 14) (t := (!x2_1)) (by kernel_rfl) (by kernel_rfl) hc1 ?_
    refine J.skip (by kernel_rfl) ?_
    refine J.seq (by kernel_rfl) ?_
    obtain ⟨x4_2, hx4_2, H⟩ := bindE H
    refine J.region (by kernel_rfl) ?_
    refine O.pure 2 [(2, 0), (1, 0)] [2, 3, 4, 6, 16, 17] [p0_0, 0, p0_1, 0] (fr' := [(2, .slice h1.1 a2.length h1.2), (3, .pointer (some ⟨p0_0, 0, none⟩)), (4, .pointer (some ⟨p0_1, 0, none⟩)), (6, .pointer (some ⟨p0_2, 0, none⟩)), (16, .agg #[.slice p1_1.1.1 x1_1.f0.length p1_1.1.2]), (17, .string a1)]) (bx' := [⟨p0_2, [.slice none 0 0], 24⟩, ⟨p0_1, [.string a1], 9⟩, ⟨p0_0, [.slice p1_1.1.1 x1_1.f0.length p1_1.1.2], 24⟩]) (by kernel_rfl) ?_
    refine O.e (some 18) (Ev.callLb (xs1 := [.tmp 16, .tmp 17]) [0] (fun w hS => ((hS.rowsel [0] rfl (by decide)).freezeL (hh := p1_1.1) (m := x1_1.f0.length) (xs := x1_1.f0) rfl).impF (fun w h => Rd.imp (d := (sh43.kdS p1_1.2)) (d' := kd43) rfl (imp43 _) h)) (by kernel_rfl) (by kernel_rfl) (fun _ q hq => by cases hq) (fun w hS => disk_at.con K x1_1 a1 p1_1.1  _ _ w hS hx4_2)) (by kernel_rfl) (fun _ => ?_)
    refine O.pure 1 [] [2, 3, 4, 6, 8] [] (fr' := [(2, .slice h1.1 a2.length h1.2), (3, .pointer (some ⟨p0_0, 0, none⟩)), (4, .pointer (some ⟨p0_1, 0, none⟩)), (6, .pointer (some ⟨p0_2, 0, none⟩)), (8, .int .i64 x4_2)]) (bx' := [⟨p0_2, [.slice none 0 0], 24⟩, ⟨p0_1, [.string a1], 9⟩, ⟨p0_0, [.slice p1_1.1.1 x1_1.f0.length p1_1.1.2], 24⟩]) (by kernel_rfl) ?_
    refine O.nil (by kernel_rfl) ?_
    refine J.seq (by kernel_rfl) ?_
    refine J.block (id := 0) (by kernel_rfl) ?_
    refine J.seq (by kernel_rfl) ?_
    refine J.seq (by kernel_rfl) ?_
    rcases condE H with ⟨hc2, H⟩ | ⟨hc2, H⟩
    · refine J.region (by kernel_rfl) ?_
      refine O.pure 1 [] [2, 3, 4, 6, 8, 20] [] (fr' := [(2, .slice h1.1 a2.length h1.2), (3, .pointer (some ⟨p0_0, 0, none⟩)), (4, .pointer (some ⟨p0_1, 0, none⟩)), (6, .pointer (some ⟨p0_2, 0, none⟩)), (8, .int .i64 x4_2), (20, .int .i64 x4_2)]) (bx' := [⟨p0_2, [.slice none 0 0], 24⟩, ⟨p0_1, [.string a1], 9⟩, ⟨p0_0, [.slice p1_1.1.1 x1_1.f0.length p1_1.1.2], 24⟩]) (by kernel_rfl) ?_
      refine O.q (v := .bool true) (some 21) (Qu.eqv (u := .bool (decide (x4_2 < 0))) (v := .bool true) (0, 0) [] (by kernel_rfl) (congrArg Value.bool hc2)) (by kernel_rfl) ?_
      refine O.pure 7 [(2, 0)] [2, 3, 4, 6, 8, 19] [p0_0, 0] (fr' := [(2, .slice h1.1 a2.length h1.2), (3, .pointer (some ⟨p0_0, 0, none⟩)), (4, .pointer (some ⟨p0_1, 0, none⟩)), (6, .pointer (some ⟨p0_2, 0, none⟩)), (8, .int .i64 x4_2), (19, .bool ((x1_1.f0.length : Int) == 40))]) (bx' := [⟨p0_2, [.slice none 0 0], 24⟩, ⟨p0_1, [.string a1], 9⟩, ⟨p0_0, [.slice p1_1.1.1 x1_1.f0.length p1_1.1.2], 24⟩]) (by kernel_rfl) ?_
      refine O.nil (by kernel_rfl) ?_
      refine J.join (α := Bool) (γ := Unit) (fun o3 q3 => [(2, .slice h1.1 a2.length h1.2), (3, .pointer (some ⟨p0_0, 0, none⟩)), (4, .pointer (some ⟨p0_1, 0, none⟩)), (6, .pointer (some ⟨p0_2, 0, none⟩)), (8, .int .i64 x4_2), (19, .bool o3)]) (fun o3 q3 => St X w1_ (keys [⟨p0_2, [.slice none 0 0], 24⟩, ⟨p0_1, [.string a1], 9⟩, ⟨p0_0, [.slice h0.1 a0.f0.length h0.2], 24⟩] [mkRow (sh43.kdS p1_1.2) 43 (.slice p1_1.1.1 x1_1.f0.length p1_1.1.2) x1_1.f0]) [⟨p0_2, [.slice none 0 0], 24⟩, ⟨p0_1, [.string a1], 9⟩, ⟨p0_0, [.slice p1_1.1.1 x1_1.f0.length p1_1.1.2], 24⟩] [mkRow (sh43.kdS p1_1.2) 43 (.slice p1_1.1.1 x1_1.f0.length p1_1.1.2) x1_1.f0] [] [Rd kd43 h0.1 h0.2 a0.f0, Rd (Kd.int .u8) h1.1 h1.2 a2]) H (fun o3 q3 H => ?_) (fun o3 H hj3 => ?_)
      · rcases condE H with ⟨hc7, H⟩ | ⟨hc7, H⟩
        · refine J.condT (x := .tmp 19) (t := o3) (by kernel_rfl) (by kernel_rfl) hc7 ?_
          refine J.seq (by kernel_rfl) ?_
          refine J.region (by kernel_rfl) ?_
          refine O.pure 3 [(2, 0), (0, 0)] [6, 7] [p0_0, 0, p0_2, 0] (fr' := [(6, .pointer (some ⟨p0_2, 0, none⟩)), (7, .int .i64 3)]) (bx' := [⟨p0_2, [.slice p1_1.1.1 x1_1.f0.length p1_1.1.2], 24⟩, ⟨p0_1, [.string a1], 9⟩, ⟨p0_0, [.slice p1_1.1.1 x1_1.f0.length p1_1.1.2], 24⟩]) (by kernel_rfl) ?_
          refine O.nil (by kernel_rfl) ?_
          obtain rfl := Option.some.inj H
          refine J.mono (fun w hS => hS1_.unfocus hS) ?_
          refine J.mono (fun w hS => hS.impR (d := (sh43.kdS p1_1.2)) (d' := kd43) rfl (imp43 _)) ?_
          exact J.doneS [(0, 0)] [p0_2, 0] [] [] [0] p1_1.1 (vs := [.agg #[.slice p1_1.1.1 x1_1.f0.length p1_1.1.2], .int .i64 3]) (by kernel_rfl) (by kernel_rfl) (by kernel_rfl) (by kernel_rfl) (by kernel_rfl) (by decide)
        · refine J.condF (x := .tmp 19) (t := o3) (by kernel_rfl) (by kernel_rfl) hc7 ?_
          refine J.seq (by kernel_rfl) ?_
          refine J.region (by kernel_rfl) ?_
          refine O.pure 1 [] [2, 3, 4, 6, 8, 48] [] (fr' := [(2, .slice h1.1 a2.length h1.2), (3, .pointer (some ⟨p0_0, 0, none⟩)), (4, .pointer (some ⟨p0_1, 0, none⟩)), (6, .pointer (some ⟨p0_2, 0, none⟩)), (8, .int .i64 x4_2), (48, .int .i64 x4_2)]) (bx' := [⟨p0_2, [.slice none 0 0], 24⟩, ⟨p0_1, [.string a1], 9⟩, ⟨p0_0, [.slice p1_1.1.1 x1_1.f0.length p1_1.1.2], 24⟩]) (by kernel_rfl) ?_
          refine O.q (v := .bool true) (some 49) (Qu.eqv (u := .bool (decide (x4_2 < 0))) (v := .bool true) (0, 0) [] (by kernel_rfl) (congrArg Value.bool hc2)) (by kernel_rfl) ?_
          refine O.pure 1 [] [2, 3, 4, 6, 8, 47] [] (fr' := [(2, .slice h1.1 a2.length h1.2), (3, .pointer (some ⟨p0_0, 0, none⟩)), (4, .pointer (some ⟨p0_1, 0, none⟩)), (6, .pointer (some ⟨p0_2, 0, none⟩)), (8, .int .i64 x4_2), (47, .bool true)]) (bx' := [⟨p0_2, [.slice none 0 0], 24⟩, ⟨p0_1, [.string a1], 9⟩, ⟨p0_0, [.slice p1_1.1.1 x1_1.f0.length p1_1.1.2], 24⟩]) (by kernel_rfl) ?_
          refine O.nil (by kernel_rfl) ?_
          refine J.cond (o := .tmp 47) true (by kernel_rfl) (by kernel_rfl) ?_
          refine J.seq (by kernel_rfl) ?_
          obtain ⟨x10_2, hx10_2, H⟩ := bindE H
          refine J.region (by kernel_rfl) ?_
          refine O.pure 2 [(2, 0)] [2, 3, 4, 6, 8, 50, 51] [p0_0, 0] (fr' := [(2, .slice h1.1 a2.length h1.2), (3, .pointer (some ⟨p0_0, 0, none⟩)), (4, .pointer (some ⟨p0_1, 0, none⟩)), (6, .pointer (some ⟨p0_2, 0, none⟩)), (8, .int .i64 x4_2), (50, .agg #[.slice p1_1.1.1 x1_1.f0.length p1_1.1.2]), (51, .func (.func 32) #[] #[.pointer (some ⟨p0_1, 0, none⟩)])]) (bx' := [⟨p0_2, [.slice none 0 0], 24⟩, ⟨p0_1, [.string a1], 9⟩, ⟨p0_0, [.slice p1_1.1.1 x1_1.f0.length p1_1.1.2], 24⟩]) (by kernel_rfl) ?_
          refine O.e (some 52) (Ev.callLb (xs1 := [.tmp 50, .tmp 51]) [1, 0] (fun w hS => (((hS.rowsel [0] rfl (by decide)).freezeL (hh := p1_1.1) (m := x1_1.f0.length) (xs := x1_1.f0) rfl).impF (fun w h => Rd.imp (d := (sh43.kdS p1_1.2)) (d' := kd43) rfl (imp43 _) h)).boxfact 1 [0, 2] rfl rfl (by decide)) (by kernel_rfl) (by kernel_rfl) (fun _ q hq => by cases hq) (fun w hS => disk_find_f32.con K x1_1 a1 p0_1 p1_1.1  _ _ w hS hx10_2)) (by kernel_rfl) (fun _ => ?_)
          refine O.pure 1 [] [2, 3, 4, 6, 8] [] (fr' := [(2, .slice h1.1 a2.length h1.2), (3, .pointer (some ⟨p0_0, 0, none⟩)), (4, .pointer (some ⟨p0_1, 0, none⟩)), (6, .pointer (some ⟨p0_2, 0, none⟩)), (8, .int .i64 x10_2)]) (bx' := [⟨p0_2, [.slice none 0 0], 24⟩, ⟨p0_1, [.string a1], 9⟩, ⟨p0_0, [.slice p1_1.1.1 x1_1.f0.length p1_1.1.2], 24⟩]) (by kernel_rfl) ?_
          refine O.nil (by kernel_rfl) ?_
          refine J.seq (by kernel_rfl) ?_
          refine J.seq (by kernel_rfl) ?_
          refine J.region (by kernel_rfl) ?_
          refine O.pure 2 [] [2, 3, 4, 6, 8, 54] [] (fr' := [(2, .slice h1.1 a2.length h1.2), (3, .pointer (some ⟨p0_0, 0, none⟩)), (4, .pointer (some ⟨p0_1, 0, none⟩)), (6, .pointer (some ⟨p0_2, 0, none⟩)), (8, .int .i64 x10_2), (54, .bool (decide (x10_2 < 0)))]) (bx' := [⟨p0_2, [.slice none 0 0], 24⟩, ⟨p0_1, [.string a1], 9⟩, ⟨p0_0, [.slice p1_1.1.1 x1_1.f0.length p1_1.1.2], 24⟩]) (by kernel_rfl) ?_
          refine O.nil (by kernel_rfl) ?_
          refine J.join (α := Int) (γ := Unit) (fun o8 q8 => [(2, .slice h1.1 a2.length h1.2), (3, .pointer (some ⟨p0_0, 0, none⟩)), (4, .pointer (some ⟨p0_1, 0, none⟩)), (6, .pointer (some ⟨p0_2, 0, none⟩)), (8, .int .i64 o8)]) (fun o8 q8 => St X w1_ (keys [⟨p0_2, [.slice none 0 0], 24⟩, ⟨p0_1, [.string a1], 9⟩, ⟨p0_0, [.slice h0.1 a0.f0.length h0.2], 24⟩] [mkRow (sh43.kdS p1_1.2) 43 (.slice p1_1.1.1 x1_1.f0.length p1_1.1.2) x1_1.f0]) [⟨p0_2, [.slice none 0 0], 24⟩, ⟨p0_1, [.string a1], 9⟩, ⟨p0_0, [.slice p1_1.1.1 x1_1.f0.length p1_1.1.2], 24⟩] [mkRow (sh43.kdS p1_1.2) 43 (.slice p1_1.1.1 x1_1.f0.length p1_1.1.2) x1_1.f0] [] [Rd kd43 h0.1 h0.2 a0.f0, Rd (Kd.int .u8) h1.1 h1.2 a2]) H (fun o8 q8 H => ?_) (fun o8 H hj8 => ?_)
          · refine J.seq (by kernel_rfl) ?_
            obtain ⟨y13_4, hy13_4, H⟩ := bindE H
            obtain ⟨hy13_4a, hy13_4b, hy13_4c, -⟩ := cutE hy13_4
            obtain ⟨y13_5, hy13_5, H⟩ := bindE H
            have hy13_5a := (appE hy13_5).1
            refine J.region (by kernel_rfl) ?_
            refine O.e (some 58) (Ev.lit (t := 22) (len := 0) (parts := #[]) (ps := []) (cs := []) (e := 43) (sh43.kdS p1_1.2) ([] : List S43) (by kernel_rfl) (by kernel_rfl) (by kernel_rfl) (by kernel_rfl) (by kernel_rfl) (by decide) (fun w' hφ => (Els.nil _ _ _))) (by kernel_rfl) (fun p13_0 => ?_)
            refine O.pure 3 [(2, 0)] [2, 3, 4, 6, 8, 58, 60, 61] [p0_0, 0] (fr' := [(2, .slice h1.1 a2.length h1.2), (3, .pointer (some ⟨p0_0, 0, none⟩)), (4, .pointer (some ⟨p0_1, 0, none⟩)), (6, .pointer (some ⟨p0_2, 0, none⟩)), (8, .int .i64 o8), (58, .slice ((some ⟨p13_0, 0, none⟩, 0) : Hd).1 ([] : List S43).length ((some ⟨p13_0, 0, none⟩, 0) : Hd).2), (60, .slice p1_1.1.1 x1_1.f0.length p1_1.1.2), (61, .int .i64 o8)]) (bx' := [⟨p0_2, [.slice none 0 0], 24⟩, ⟨p0_1, [.string a1], 9⟩, ⟨p0_0, [.slice p1_1.1.1 x1_1.f0.length p1_1.1.2], 24⟩]) (by kernel_rfl) ?_
            refine O.e (some 62) (Ev.mono (fun w hS => hS.rowsel [1, 0] rfl (by decide)) (Ev.mono (fun w hS => hS.freezeH (h := p1_1.1) (xs := x1_1.f0)) (Ev.cut (d := (sh43.kdS p1_1.2)) (xs := x1_1.f0) (t := 22) (x := .tmp 60) (lo := (some (.tmp 61))) (hi := none) (vlo := (some (.int .i64 o8))) (vhi := none) (A := p1_1.1.1) (c := p1_1.1.2) (l := (o8 : Int).toNat) (h := ((x1_1.f0.length : Int) : Int).toNat) 0 (by kernel_rfl) (by kernel_rfl) (by kernel_rfl) (by kernel_rfl) (by kernel_rfl) (Bd.val _ _ _ (by omega)) (Bd.dflt _) (by omega) (by omega) rfl))) (by kernel_rfl) (fun p13_4 => ?_)
            refine O.e (some 63) (Ev.appSl (d := (sh43.kdS p1_1.2)) (ys := (cutL x1_1.f0 ((o8 : Int).toNat) (((x1_1.f0.length : Int) : Int).toNat))) (A := p13_4.1) (c := p13_4.2) (x := .tmp 58) (y := .tmp 62) (t := 22) (bytes := 48) 0 (by kernel_rfl) (by kernel_rfl) (by kernel_rfl) rfl (by kernel_rfl) ⟨Nat.succ_pos 2, Nat.succ_pos 47⟩ hy13_5a) (by kernel_rfl) (fun p13_5 => ?_)
            refine O.pure 1 [] [2, 3, 4, 6, 8, 9] [] (fr' := [(2, .slice h1.1 a2.length h1.2), (3, .pointer (some ⟨p0_0, 0, none⟩)), (4, .pointer (some ⟨p0_1, 0, none⟩)), (6, .pointer (some ⟨p0_2, 0, none⟩)), (8, .int .i64 o8), (9, .slice p13_5.1 (([] : List S43) ++ (cutL x1_1.f0 ((o8 : Int).toNat) (((x1_1.f0.length : Int) : Int).toNat))).length p13_5.2)]) (bx' := [⟨p0_2, [.slice none 0 0], 24⟩, ⟨p0_1, [.string a1], 9⟩, ⟨p0_0, [.slice p1_1.1.1 x1_1.f0.length p1_1.1.2], 24⟩]) (by kernel_rfl) ?_
            refine O.nil (by kernel_rfl) ?_
            obtain ⟨y14_4, hy14_4, H⟩ := bindE H
            obtain ⟨hy14_4a, hy14_4b, hy14_4c, -⟩ := cutE hy14_4
            obtain ⟨y14_8, hy14_8, H⟩ := bindE H
            have hy14_8a := (appE hy14_8).1
            obtain ⟨y14_10, hy14_10, H⟩ := bindE H
            have hy14_10a := (appE hy14_10).1
            refine J.cutAt (γ := (Option Addr) × Nat × Hd × Hd) (fun q_ => [(2, .slice h1.1 a2.length h1.2), (3, .pointer (some ⟨p0_0, 0, none⟩)), (6, .pointer (some ⟨p0_2, 0, none⟩)), (8, .int .i64 o8)]) (fun q_ => St X w1_ (keys [⟨p0_2, [.slice none 0 0], 24⟩, ⟨p0_1, [.string a1], 9⟩, ⟨p0_0, [.slice h0.1 a0.f0.length h0.2], 24⟩] [mkRow (sh43.kdS p1_1.2) 43 (.slice p1_1.1.1 x1_1.f0.length p1_1.1.2) x1_1.f0]) [⟨p0_2, [.slice none 0 0], 24⟩, ⟨p0_1, [.string a1], 9⟩, ⟨p0_0, [.slice q_.2.2.2.1 (((cutL x1_1.f0 ((0 : Int).toNat) ((o8 : Int).toNat)) ++ ([(⟨a1, ([] : List Int), 0⟩ : S43)] : List S43)) ++ (([] : List S43) ++ (cutL x1_1.f0 ((o8 : Int).toNat) (((x1_1.f0.length : Int) : Int).toNat)))).length q_.2.2.2.2], 24⟩] [mkRow (sh43.kdS p1_1.2) 43 (.slice q_.2.2.2.1 (((cutL x1_1.f0 ((0 : Int).toNat) ((o8 : Int).toNat)) ++ ([(⟨a1, ([] : List Int), 0⟩ : S43)] : List S43)) ++ (([] : List S43) ++ (cutL x1_1.f0 ((o8 : Int).toNat) (((x1_1.f0.length : Int) : Int).toNat)))).length q_.2.2.2.2) (((cutL x1_1.f0 ((0 : Int).toNat) ((o8 : Int).toNat)) ++ ([(⟨a1, ([] : List Int), 0⟩ : S43)] : List S43)) ++ (([] : List S43) ++ (cutL x1_1.f0 ((o8 : Int).toNat) (((x1_1.f0.length : Int) : Int).toNat))))] [] [Rd (sh43.kdS p1_1.2) p13_5.1 p13_5.2 (([] : List S43) ++ (cutL x1_1.f0 ((o8 : Int).toNat) (((x1_1.f0.length : Int) : Int).toNat))), Rd (sh43.kdS p1_1.2) ((some ⟨q_.2.1, 0, none⟩, 1) : Hd).1 ((some ⟨q_.2.1, 0, none⟩, 1) : Hd).2 ([(⟨a1, ([] : List Int), 0⟩ : S43)] : List S43), Rd (sh43.kdS p1_1.2) ((q_.1, (cutL x1_1.f0 ((0 : Int).toNat) ((o8 : Int).toNat)).length) : Hd).1 ((q_.1, (cutL x1_1.f0 ((0 : Int).toNat) ((o8 : Int).toNat)).length) : Hd).2 (cutL x1_1.f0 ((0 : Int).toNat) ((o8 : Int).toNat)), Rd (sh43.kdS p1_1.2) p13_4.1 p13_4.2 (cutL x1_1.f0 ((o8 : Int).toNat) (((x1_1.f0.length : Int) : Int).toNat)), Rd (sh43.kdS p1_1.2) p1_1.1.1 p1_1.1.2 x1_1.f0, Rd kd43 h0.1 h0.2 a0.f0, Rd (Kd.int .u8) h1.1 h1.2 a2]) (fun q_ => ?_) (fun hk_ => ?_)
            · obtain ⟨p14_4, p14_7, p14_8, p14_10⟩ := q_
              refine J.out ?_
              refine J.seq (by kernel_rfl) ?_
              obtain ⟨x15_6, hx15_6, H⟩ := bindE H
              obtain ⟨hx15_6a, hx15_6⟩ := idxE hx15_6
              obtain ⟨y15_10, hy15_10, H⟩ := bindE H
              have hy15_10a := (appE hy15_10).1
              obtain ⟨z15_10, hz15_10, H⟩ := bindE H
              refine J.mono (fun w hS => hS.pk) ?_
              refine J.peek (d := (sh43.kdS p1_1.2)) (hh := p14_10) (m := (((cutL x1_1.f0 ((0 : Int).toNat) ((o8 : Int).toNat)) ++ ([(⟨a1, ([] : List Int), 0⟩ : S43)] : List S43)) ++ (([] : List S43) ++ (cutL x1_1.f0 ((o8 : Int).toNat) (((x1_1.f0.length : Int) : Int).toNat)))).length) (i := o8) (by simpa only [List.length_set] using hx15_6) (opS43 p1_1.2 _) (fun p15_6 hp15_6A => ?_)
              refine J.drawS (by kernel_rfl) [(0, some 76, .pointer (some ⟨p0_0, 0, none⟩)), (1, some 77, .slice p14_10.1 (((cutL x1_1.f0 ((0 : Int).toNat) ((o8 : Int).toNat)) ++ ([(⟨a1, ([] : List Int), 0⟩ : S43)] : List S43)) ++ (([] : List S43) ++ (cutL x1_1.f0 ((o8 : Int).toNat) (((x1_1.f0.length : Int) : Int).toNat)))).length p14_10.2), (2, some 78, .int .i64 o8), (3, some 79, .pointer (some ⟨p0_0, 0, none⟩)), (4, some 80, .slice p14_10.1 (((cutL x1_1.f0 ((0 : Int).toNat) ((o8 : Int).toNat)) ++ ([(⟨a1, ([] : List Int), 0⟩ : S43)] : List S43)) ++ (([] : List S43) ++ (cutL x1_1.f0 ((o8 : Int).toNat) (((x1_1.f0.length : Int) : Int).toNat)))).length p14_10.2), (5, some 81, .int .i64 o8), (7, some 83, .pointer (some ⟨p15_6.1, 0 + o8.toNat * 3 + 1, none⟩)), (9, some 85, .slice h1.1 a2.length h1.2), (6, some 82, .pointer (some ⟨p15_6.1, 0 + o8.toNat * 3, none⟩)), (8, some 84, .slice p15_6.2.1 x15_6.f1.length p15_6.2.2)] ([0, 1, 2, 3, 4, 5, 7, 9] ++ [6, 8]) (by kernel_rfl) ?_
              refine D.mid (cs := [10]) [0, 1, 2, 3, 4, 5, 7, 9] [6, 8] [(2, 0), (2, 0)] [p0_0, 0, p0_0, 0] (by kernel_rfl) (by kernel_rfl) (⟨QuAt.mk (v := .pointer (some ⟨p15_6.1, 0 + o8.toNat * 3, none⟩)) (some 82) (by kernel_rfl) (by kernel_rfl) (Qu.idx (t := 22) (x := .tmp 80) (y := .tmp 81) (len := (((cutL x1_1.f0 ((0 : Int).toNat) ((o8 : Int).toNat)) ++ ([(⟨a1, ([] : List Int), 0⟩ : S43)] : List S43)) ++ (([] : List S43) ++ (cutL x1_1.f0 ((o8 : Int).toNat) (((x1_1.f0.length : Int) : Int).toNat)))).length) (c := p14_10.2) (kk := .i64) (sz := 3) (by kernel_rfl) (by kernel_rfl) (by kernel_rfl) (by kernel_rfl) hx15_6a (by have := idx_lt hx15_6; simpa only [List.length_set, List.length_replicate] using this) hp15_6A), QuAt.mk (v := .slice p15_6.2.1 x15_6.f1.length p15_6.2.2) (some 84) (by kernel_rfl) (by kernel_rfl) (Qu.loadR (t := 30) (x := .tmp 83) (hh := p14_10) (m := (((cutL x1_1.f0 ((0 : Int).toNat) ((o8 : Int).toNat)) ++ ([(⟨a1, ([] : List Int), 0⟩ : S43)] : List S43)) ++ (([] : List S43) ++ (cutL x1_1.f0 ((o8 : Int).toNat) (((x1_1.f0.length : Int) : Int).toNat)))).length) (i := o8.toNat) (u := .pointer (some ⟨p15_6.1, 0 + o8.toNat * 3 + 1, none⟩)) (r := .slice p15_6.2.1 x15_6.f1.length p15_6.2.2) (cs := [.string x15_6.f0, .slice p15_6.2.1 x15_6.f1.length p15_6.2.2, .int .i64 x15_6.f2]) 0 1 [p15_6.1, 0 + o8.toNat * 3 + 1] (by kernel_rfl) (by kernel_rfl) hp15_6A rfl (by kernel_rfl)), trivial⟩) (by kernel_rfl) ⟨?_, trivial⟩
              refine EvStep.mk (some 86) (new := fun p15_10 => [(11, some 87, .pointer (some ⟨p15_6.1, 0 + o8.toNat * 3, none⟩)), (12, some 88, .pointer (some ⟨p15_6.1, 0 + o8.toNat * 3 + 1, none⟩))]) ([0, 1, 2, 3, 4, 5, 7, 12] ++ [6, 11]) (by kernel_rfl) (Ev.mono' (fun q w hS => hS.freezeH (h := q) (xs := (x15_6.f1 ++ a2))) (Ev.mono (fun w hS => St.thaw sh43 (eF := 43) (e := 5) (h := p15_6.2) (i := o8.toNat) (x := x15_6) hSe_ hS1_ hDp_ hout_ hS 0 hx15_6 (hS.now 1 rfl) rfl (fun y_ : S43 => y_.f0.toList ≠ x15_6.f0.toList) (fun j y hy hpy => ⟨fun hj => hpy (by subst hj; rw [hx15_6] at hy; rw [Option.some.inj hy]), fun hyx => hpy (by rw [hyx])⟩)) (Ev.appSl (d := (Kd.int .u8)) (ys := a2) (A := h1.1) (c := h1.2) (x := .tmp 84) (y := .tmp 85) (t := 30) (bytes := 1) 1 (by kernel_rfl) (by kernel_rfl) (by kernel_rfl) rfl (by kernel_rfl) (by decide) hy15_10a))) (fun p15_10 => by kernel_rfl) (fun p15_10 => ?_)
              refine D.mid (cs := [13]) [0, 1, 2, 3, 4, 5, 7, 12] [6, 11] [(2, 0), (2, 0)] [p0_0, 0, p0_0, 0] (by kernel_rfl) (by kernel_rfl) (⟨QuAt.mk (v := .pointer (some ⟨p15_6.1, 0 + o8.toNat * 3, none⟩)) (some 82) (by kernel_rfl) (by kernel_rfl) (Qu.idx (t := 22) (x := .tmp 80) (y := .tmp 81) (len := (((cutL x1_1.f0 ((0 : Int).toNat) ((o8 : Int).toNat)) ++ ([(⟨a1, ([] : List Int), 0⟩ : S43)] : List S43)) ++ (([] : List S43) ++ (cutL x1_1.f0 ((o8 : Int).toNat) (((x1_1.f0.length : Int) : Int).toNat)))).length) (c := p14_10.2) (kk := .i64) (sz := 3) (by kernel_rfl) (by kernel_rfl) (by kernel_rfl) (by kernel_rfl) hx15_6a (by have := idx_lt hx15_6; simpa only [List.length_set, List.length_replicate] using this) hp15_6A), QuAt.mk (v := .pointer (some ⟨p15_6.1, 0 + o8.toNat * 3, none⟩)) (some 87) (by kernel_rfl) (by kernel_rfl) (Qu.idx (t := 22) (x := .tmp 77) (y := .tmp 78) (len := (((cutL x1_1.f0 ((0 : Int).toNat) ((o8 : Int).toNat)) ++ ([(⟨a1, ([] : List Int), 0⟩ : S43)] : List S43)) ++ (([] : List S43) ++ (cutL x1_1.f0 ((o8 : Int).toNat) (((x1_1.f0.length : Int) : Int).toNat)))).length) (c := p14_10.2) (kk := .i64) (sz := 3) (by kernel_rfl) (by kernel_rfl) (by kernel_rfl) (by kernel_rfl) hx15_6a (by have := idx_lt hx15_6; simpa only [List.length_set, List.length_replicate] using this) hp15_6A), trivial⟩) (by kernel_rfl) ⟨?_, trivial⟩
              refine EvStep.mk none (new := fun _ => []) ([] ++ [11]) (by kernel_rfl) (Ev.storeR (t := 30) (x := .tmp 88) (y := .tmp 86) (hh := p14_10) (m := (((cutL x1_1.f0 ((0 : Int).toNat) ((o8 : Int).toNat)) ++ ([(⟨a1, ([] : List Int), 0⟩ : S43)] : List S43)) ++ (([] : List S43) ++ (cutL x1_1.f0 ((o8 : Int).toNat) (((x1_1.f0.length : Int) : Int).toNat)))).length) (g := p15_6.1) (i := o8.toNat) (f := 1) (s := 1) (u := .pointer (some ⟨p15_6.1, 0 + o8.toNat * 3 + 1, none⟩)) (z := .slice p15_10.1 (x15_6.f1 ++ a2).length p15_10.2) (cs := [.string x15_6.f0, .slice p15_6.2.1 x15_6.f1.length p15_6.2.2, .int .i64 x15_6.f2]) (ncs := [.string x15_6.f0, .slice p15_10.1 (x15_6.f1 ++ a2).length p15_10.2, .int .i64 x15_6.f2]) (⟨x15_6.f0, (x15_6.f1 ++ a2), x15_6.f2⟩ : S43) (some 0) (by kernel_rfl) (by kernel_rfl) rfl (by kernel_rfl) hp15_6A (by have := idx_lt hx15_6; simpa only [List.length_set] using this) ⟨by kernel_rfl, by kernel_rfl, by kernel_rfl, by kernel_rfl⟩ rfl (by kernel_rfl) (fun w' hφ => ⟨p15_10, rfl, trivial, fun hn => absurd rfl hn⟩)) (fun _ => by kernel_rfl) (fun _ => ?_)
              refine D.fin (fr' := [(3, .pointer (some ⟨p0_0, 0, none⟩)), (6, .pointer (some ⟨p0_2, 0, none⟩))]) [] [11] [] [] [3, 6] (by kernel_rfl) (by kernel_rfl) (⟨QuAt.mk (v := .pointer (some ⟨p15_6.1, 0 + o8.toNat * 3, none⟩)) (some 87) (by kernel_rfl) (by kernel_rfl) (Qu.idx (t := 22) (x := .tmp 77) (y := .tmp 78) (len := (((cutL x1_1.f0 ((0 : Int).toNat) ((o8 : Int).toNat)) ++ ([(⟨a1, ([] : List Int), 0⟩ : S43)] : List S43)) ++ (([] : List S43) ++ (cutL x1_1.f0 ((o8 : Int).toNat) (((x1_1.f0.length : Int) : Int).toNat)))).length) (c := p14_10.2) (kk := .i64) (sz := 3) (by kernel_rfl) (by kernel_rfl) (by kernel_rfl) (by kernel_rfl) hx15_6a (by have := idx_lt hx15_6; simpa only [List.length_set, List.length_replicate] using this) hp15_6A), trivial⟩) (by kernel_rfl) ?_
              refine J.mono (fun w hS => St.whole sh43 kd43 rfl (fun w x h hr => ⟨h, rfl, hr⟩) (x := (⟨x15_6.f0, (x15_6.f1 ++ a2), x15_6.f2⟩ : S43)) (q := p15_10) (j := 0) hS (List.getElem?_set_self (idx_lt hx15_6)) (fun k y hk hne => by rw [List.getElem?_set_ne (Ne.symm hne)] at hk; exact sepE hz15_10 k y x15_6 hk hx15_6 hne) rfl) ?_
              refine J.renS [3, 6] (fr1 := [(3, .pointer (some ⟨p0_0, 0, none⟩)), (6, .pointer (some ⟨p0_2, 0, none⟩))]) (bx1 := [⟨p0_2, [.slice none 0 0], 24⟩, ⟨p0_1, [.string a1], 9⟩, ⟨p0_0, [.slice p14_10.1 (((cutL x1_1.f0 ((0 : Int).toNat) ((o8 : Int).toNat)) ++ ([(⟨a1, ([] : List Int), 0⟩ : S43)] : List S43)) ++ (([] : List S43) ++ (cutL x1_1.f0 ((o8 : Int).toNat) (((x1_1.f0.length : Int) : Int).toNat)))).length p14_10.2], 24⟩]) (rw1 := [mkRow kd43 43 (.slice p14_10.1 ((((cutL x1_1.f0 ((0 : Int).toNat) ((o8 : Int).toNat)) ++ ([(⟨a1, ([] : List Int), 0⟩ : S43)] : List S43)) ++ (([] : List S43) ++ (cutL x1_1.f0 ((o8 : Int).toNat) (((x1_1.f0.length : Int) : Int).toNat)))).length) p14_10.2) ((((cutL x1_1.f0 ((0 : Int).toNat) ((o8 : Int).toNat)) ++ ([(⟨a1, ([] : List Int), 0⟩ : S43)] : List S43)) ++ (([] : List S43) ++ (cutL x1_1.f0 ((o8 : Int).toNat) (((x1_1.f0.length : Int) : Int).toNat)))).set o8.toNat (⟨x15_6.f0, (x15_6.f1 ++ a2), x15_6.f2⟩ : S43))]) (fr' := [(3, .pointer (some ⟨p0_0, 0, none⟩)), (6, .pointer (some ⟨p0_2, 0, none⟩))]) (bx' := [⟨p0_2, [.slice none 0 0], 24⟩, ⟨p0_1, [.string a1], 9⟩, ⟨p0_0, [.slice p14_10.1 ((((cutL x1_1.f0 ((0 : Int).toNat) ((o8 : Int).toNat)) ++ ([(⟨a1, ([] : List Int), 0⟩ : S43)] : List S43)) ++ (([] : List S43) ++ (cutL x1_1.f0 ((o8 : Int).toNat) (((x1_1.f0.length : Int) : Int).toNat)))).set o8.toNat (⟨x15_6.f0, (x15_6.f1 ++ a2), x15_6.f2⟩ : S43)).length p14_10.2], 24⟩]) (rw' := [mkRow kd43 43 (.slice p14_10.1 ((((cutL x1_1.f0 ((0 : Int).toNat) ((o8 : Int).toNat)) ++ ([(⟨a1, ([] : List Int), 0⟩ : S43)] : List S43)) ++ (([] : List S43) ++ (cutL x1_1.f0 ((o8 : Int).toNat) (((x1_1.f0.length : Int) : Int).toNat)))).set o8.toNat (⟨x15_6.f0, (x15_6.f1 ++ a2), x15_6.f2⟩ : S43)).length p14_10.2) ((((cutL x1_1.f0 ((0 : Int).toNat) ((o8 : Int).toNat)) ++ ([(⟨a1, ([] : List Int), 0⟩ : S43)] : List S43)) ++ (([] : List S43) ++ (cutL x1_1.f0 ((o8 : Int).toNat) (((x1_1.f0.length : Int) : Int).toNat)))).set o8.toNat (⟨x15_6.f0, (x15_6.f1 ++ a2), x15_6.f2⟩ : S43))]) (by kernel_rfl) (by kernel_rfl) (by simp only [List.length_set, List.length_replicate]) ?_
              refine J.seq (by kernel_rfl) ?_
              refine J.region (by kernel_rfl) ?_
              refine O.pure 3 [(2, 0), (0, 0)] [6, 7] [p0_0, 0, p0_2, 0] (fr' := [(6, .pointer (some ⟨p0_2, 0, none⟩)), (7, .int .i64 0)]) (bx' := [⟨p0_2, [.slice p14_10.1 ((((cutL x1_1.f0 ((0 : Int).toNat) ((o8 : Int).toNat)) ++ ([(⟨a1, ([] : List Int), 0⟩ : S43)] : List S43)) ++ (([] : List S43) ++ (cutL x1_1.f0 ((o8 : Int).toNat) (((x1_1.f0.length : Int) : Int).toNat)))).set o8.toNat (⟨x15_6.f0, (x15_6.f1 ++ a2), x15_6.f2⟩ : S43)).length p14_10.2], 24⟩, ⟨p0_1, [.string a1], 9⟩, ⟨p0_0, [.slice p14_10.1 ((((cutL x1_1.f0 ((0 : Int).toNat) ((o8 : Int).toNat)) ++ ([(⟨a1, ([] : List Int), 0⟩ : S43)] : List S43)) ++ (([] : List S43) ++ (cutL x1_1.f0 ((o8 : Int).toNat) (((x1_1.f0.length : Int) : Int).toNat)))).set o8.toNat (⟨x15_6.f0, (x15_6.f1 ++ a2), x15_6.f2⟩ : S43)).length p14_10.2], 24⟩]) (by kernel_rfl) ?_
              refine O.nil (by kernel_rfl) ?_
              obtain rfl := Option.some.inj H
              exact J.doneS [(0, 0)] [p0_2, 0] [] [] [0] p14_10 (vs := [.agg #[.slice p14_10.1 ((((cutL x1_1.f0 ((0 : Int).toNat) ((o8 : Int).toNat)) ++ ([(⟨a1, ([] : List Int), 0⟩ : S43)] : List S43)) ++ (([] : List S43) ++ (cutL x1_1.f0 ((o8 : Int).toNat) (((x1_1.f0.length : Int) : Int).toNat)))).set o8.toNat (⟨x15_6.f0, (x15_6.f1 ++ a2), x15_6.f2⟩ : S43)).length p14_10.2], .int .i64 0]) (by kernel_rfl) (by kernel_rfl) (by kernel_rfl) (by kernel_rfl) (by kernel_rfl) (by decide)
            · refine J.drawS (by kernel_rfl) [(0, some 64, .pointer (some ⟨p0_0, 0, none⟩)), (1, some 65, .slice p1_1.1.1 x1_1.f0.length p1_1.1.2), (2, some 66, .int .i64 o8), (3, some 67, .int .i64 o8), (5, some 69, .string a1), (6, some 70, .agg #[.string a1, .slice none 0 0, .int .i64 0]), (9, some 73, .slice p13_5.1 (([] : List S43) ++ (cutL x1_1.f0 ((o8 : Int).toNat) (((x1_1.f0.length : Int) : Int).toNat))).length p13_5.2)] ([0, 1, 2, 3, 5, 6, 9] ++ []) (by kernel_rfl) ?_
              refine D.mid (cs := [4, 7]) [0, 1, 2, 3, 5, 6, 9] [] [(2, 0), (1, 0)] [p0_0, 0, p0_1, 0] (by kernel_rfl) (by kernel_rfl) trivial (by kernel_rfl) ⟨?_, ?_, trivial⟩
              · refine EvStep.mk (some 68) (new := fun p14_4 => []) ([0, 5, 6, 9] ++ []) (by kernel_rfl) (Ev.cut3 (d := (sh43.kdS p1_1.2)) (xs := x1_1.f0) (t := 22) (x := .tmp 65) (lo := none) (hi := (some (.tmp 66))) (mx := (some (.tmp 67))) (vlo := none) (vhi := (some (.int .i64 o8))) (vmx := (some (.int .i64 o8))) (A := p1_1.1.1) (c := p1_1.1.2) (l := (0 : Int).toNat) (h := (o8 : Int).toNat) 1 (by kernel_rfl) (by kernel_rfl) (by kernel_rfl) (by kernel_rfl) (by kernel_rfl) (by kernel_rfl) (Bd.dflt _) ⟨_, _, rfl, by omega, rfl⟩ ⟨_, _, rfl, by omega, rfl⟩ (by omega) (by omega) rfl) (fun p14_4 => by kernel_rfl) (fun p14_4 => ?_)
                refine D.mid (cs := [7]) [0, 5, 6, 9] [] [(1, 0)] [p0_1, 0] (by kernel_rfl) (by kernel_rfl) trivial (by kernel_rfl) ⟨?_, trivial⟩
                refine EvStep.mk (some 71) (new := fun p14_7 => []) ([0, 5, 9] ++ []) (by kernel_rfl) (Ev.lit (t := 22) (len := 1) (parts := #[(0, .tmp 70)]) (ps := [(0, .agg #[.string a1, .slice none 0 0, .int .i64 0])]) (cs := [.string a1, .slice none 0 0, .int .i64 0]) (e := 43) (sh43.kdS p1_1.2) ([(⟨a1, ([] : List Int), 0⟩ : S43)] : List S43) (by kernel_rfl) (by kernel_rfl) (by kernel_rfl) (by kernel_rfl) (by kernel_rfl) (by decide) (fun w' hφ => (Els.cons (c := [.string a1, .slice none 0 0, .int .i64 0]) (⟨(none, 0), rfl, .inr rfl, fun _ => Rd.nil _ _⟩) (Els.nil _ _ _)))) (fun p14_7 => by kernel_rfl) (fun p14_7 => ?_)
                refine D.mid (cs := [8]) [0, 5, 9] [] [(1, 0)] [p0_1, 0] (by kernel_rfl) (by kernel_rfl) trivial (by kernel_rfl) ⟨?_, trivial⟩
                refine EvStep.mk (some 72) (new := fun p14_8 => []) ([0, 5, 9] ++ []) (by kernel_rfl) (Ev.mono (fun w hS => hS.freezeH (h := ((some ⟨p14_7, 0, none⟩, 1) : Hd)) (xs := ([(⟨a1, ([] : List Int), 0⟩ : S43)] : List S43))) (Ev.appFullN (d := (sh43.kdS p1_1.2)) (e := 43) (xs := (cutL x1_1.f0 ((0 : Int).toNat) ((o8 : Int).toNat))) (ys := ([(⟨a1, ([] : List Int), 0⟩ : S43)] : List S43)) (hx := ((p14_4, (cutL x1_1.f0 ((0 : Int).toNat) ((o8 : Int).toNat)).length) : Hd)) (hy := ((some ⟨p14_7, 0, none⟩, 1) : Hd)) (x := .tmp 68) (y := .tmp 71) (t := 22) (bytes := 48) 1 0 (by kernel_rfl) (by kernel_rfl) (by kernel_rfl) rfl rfl (by kernel_rfl) ⟨Nat.succ_pos 2, Nat.succ_pos 47⟩ hy14_8a (List.cons_ne_nil _ _))) (fun p14_8 => by kernel_rfl) (fun p14_8 => ?_)
                refine D.mid (cs := [10]) [0, 5, 9] [] [(1, 0)] [p0_1, 0] (by kernel_rfl) (by kernel_rfl) trivial (by kernel_rfl) ⟨?_, trivial⟩
                refine EvStep.mk (some 74) (new := fun p14_10 => [(11, some 75, .pointer (some ⟨p0_0, 0, none⟩))]) ([0, 5, 11] ++ []) (by kernel_rfl) (Ev.mono (fun w hS => hS.rowsel [1, 0] rfl (by decide)) (Ev.mono (fun w hS => hS.freezeH (h := p13_5) (xs := (([] : List S43) ++ (cutL x1_1.f0 ((o8 : Int).toNat) (((x1_1.f0.length : Int) : Int).toNat))))) (Ev.appSl (d := (sh43.kdS p1_1.2)) (ys := (([] : List S43) ++ (cutL x1_1.f0 ((o8 : Int).toNat) (((x1_1.f0.length : Int) : Int).toNat)))) (A := p13_5.1) (c := p13_5.2) (x := .tmp 72) (y := .tmp 73) (t := 22) (bytes := 48) 0 (by kernel_rfl) (by kernel_rfl) (by kernel_rfl) rfl (by kernel_rfl) ⟨Nat.succ_pos 2, Nat.succ_pos 47⟩ hy14_10a))) (fun p14_10 => by kernel_rfl) (fun p14_10 => ?_)
                refine D.mid (cs := [12]) [0, 5, 11] [] [(1, 0)] [p0_1, 0] (by kernel_rfl) (by kernel_rfl) trivial (by kernel_rfl) ⟨?_, trivial⟩
                refine EvStep.mk none (new := fun _ => []) ([] ++ []) (by kernel_rfl) (Ev.store (kk := 2) (cs := [.slice p14_10.1 (((cutL x1_1.f0 ((0 : Int).toNat) ((o8 : Int).toNat)) ++ ([(⟨a1, ([] : List Int), 0⟩ : S43)] : List S43)) ++ (([] : List S43) ++ (cutL x1_1.f0 ((o8 : Int).toNat) (((x1_1.f0.length : Int) : Int).toNat)))).length p14_10.2]) (2, 0) [p0_0, 0] (by kernel_rfl)) (fun _ => by kernel_rfl) (fun _ => ?_)
                refine D.fin (fr' := [(2, .slice h1.1 a2.length h1.2), (3, .pointer (some ⟨p0_0, 0, none⟩)), (6, .pointer (some ⟨p0_2, 0, none⟩)), (8, .int .i64 o8)]) [] [] [] [] [2, 3, 6, 8] (by kernel_rfl) (by kernel_rfl) trivial (by kernel_rfl) ?_
                exact J.conv2 [2, 3, 6, 8] [0, 1, 2, 3, 4, 5, 6] [0, 1, 2] [0] (by kernel_rfl) (by kernel_rfl) (by kernel_rfl) (by kernel_rfl) (by decide) (hk_ (p14_4, p14_7, p14_8, p14_10))
              · refine EvStep.mk (some 71) (new := fun p14_7 => []) ([0, 1, 2, 3, 5, 9] ++ []) (by kernel_rfl) (Ev.lit (t := 22) (len := 1) (parts := #[(0, .tmp 70)]) (ps := [(0, .agg #[.string a1, .slice none 0 0, .int .i64 0])]) (cs := [.string a1, .slice none 0 0, .int .i64 0]) (e := 43) (sh43.kdS p1_1.2) ([(⟨a1, ([] : List Int), 0⟩ : S43)] : List S43) (by kernel_rfl) (by kernel_rfl) (by kernel_rfl) (by kernel_rfl) (by kernel_rfl) (by decide) (fun w' hφ => (Els.cons (c := [.string a1, .slice none 0 0, .int .i64 0]) (⟨(none, 0), rfl, .inr rfl, fun _ => Rd.nil _ _⟩) (Els.nil _ _ _)))) (fun p14_7 => by kernel_rfl) (fun p14_7 => ?_)
                refine D.mid (cs := [4]) [0, 1, 2, 3, 5, 9] [] [(2, 0), (1, 0)] [p0_0, 0, p0_1, 0] (by kernel_rfl) (by kernel_rfl) trivial (by kernel_rfl) ⟨?_, trivial⟩
                refine EvStep.mk (some 68) (new := fun p14_4 => []) ([0, 5, 9] ++ []) (by kernel_rfl) (Ev.cut3 (d := (sh43.kdS p1_1.2)) (xs := x1_1.f0) (t := 22) (x := .tmp 65) (lo := none) (hi := (some (.tmp 66))) (mx := (some (.tmp 67))) (vlo := none) (vhi := (some (.int .i64 o8))) (vmx := (some (.int .i64 o8))) (A := p1_1.1.1) (c := p1_1.1.2) (l := (0 : Int).toNat) (h := (o8 : Int).toNat) 1 (by kernel_rfl) (by kernel_rfl) (by kernel_rfl) (by kernel_rfl) (by kernel_rfl) (by kernel_rfl) (Bd.dflt _) ⟨_, _, rfl, by omega, rfl⟩ ⟨_, _, rfl, by omega, rfl⟩ (by omega) (by omega) rfl) (fun p14_4 => by kernel_rfl) (fun p14_4 => ?_)
                refine D.mid (cs := [8]) [0, 5, 9] [] [(1, 0)] [p0_1, 0] (by kernel_rfl) (by kernel_rfl) trivial (by kernel_rfl) ⟨?_, trivial⟩
                refine EvStep.mk (some 72) (new := fun p14_8 => []) ([0, 5, 9] ++ []) (by kernel_rfl) (Ev.mono (fun w hS => hS.freezeH (h := ((some ⟨p14_7, 0, none⟩, 1) : Hd)) (xs := ([(⟨a1, ([] : List Int), 0⟩ : S43)] : List S43))) (Ev.appFullN (d := (sh43.kdS p1_1.2)) (e := 43) (xs := (cutL x1_1.f0 ((0 : Int).toNat) ((o8 : Int).toNat))) (ys := ([(⟨a1, ([] : List Int), 0⟩ : S43)] : List S43)) (hx := ((p14_4, (cutL x1_1.f0 ((0 : Int).toNat) ((o8 : Int).toNat)).length) : Hd)) (hy := ((some ⟨p14_7, 0, none⟩, 1) : Hd)) (x := .tmp 68) (y := .tmp 71) (t := 22) (bytes := 48) 1 0 (by kernel_rfl) (by kernel_rfl) (by kernel_rfl) rfl rfl (by kernel_rfl) ⟨Nat.succ_pos 2, Nat.succ_pos 47⟩ hy14_8a (List.cons_ne_nil _ _))) (fun p14_8 => by kernel_rfl) (fun p14_8 => ?_)
                refine D.mid (cs := [10]) [0, 5, 9] [] [(1, 0)] [p0_1, 0] (by kernel_rfl) (by kernel_rfl) trivial (by kernel_rfl) ⟨?_, trivial⟩
                refine EvStep.mk (some 74) (new := fun p14_10 => [(11, some 75, .pointer (some ⟨p0_0, 0, none⟩))]) ([0, 5, 11] ++ []) (by kernel_rfl) (Ev.mono (fun w hS => hS.rowsel [1, 0] rfl (by decide)) (Ev.mono (fun w hS => hS.freezeH (h := p13_5) (xs := (([] : List S43) ++ (cutL x1_1.f0 ((o8 : Int).toNat) (((x1_1.f0.length : Int) : Int).toNat))))) (Ev.appSl (d := (sh43.kdS p1_1.2)) (ys := (([] : List S43) ++ (cutL x1_1.f0 ((o8 : Int).toNat) (((x1_1.f0.length : Int) : Int).toNat)))) (A := p13_5.1) (c := p13_5.2) (x := .tmp 72) (y := .tmp 73) (t := 22) (bytes := 48) 0 (by kernel_rfl) (by kernel_rfl) (by kernel_rfl) rfl (by kernel_rfl) ⟨Nat.succ_pos 2, Nat.succ_pos 47⟩ hy14_10a))) (fun p14_10 => by kernel_rfl) (fun p14_10 => ?_)
                refine D.mid (cs := [12]) [0, 5, 11] [] [(1, 0)] [p0_1, 0] (by kernel_rfl) (by kernel_rfl) trivial (by kernel_rfl) ⟨?_, trivial⟩
                refine EvStep.mk none (new := fun _ => []) ([] ++ []) (by kernel_rfl) (Ev.store (kk := 2) (cs := [.slice p14_10.1 (((cutL x1_1.f0 ((0 : Int).toNat) ((o8 : Int).toNat)) ++ ([(⟨a1, ([] : List Int), 0⟩ : S43)] : List S43)) ++ (([] : List S43) ++ (cutL x1_1.f0 ((o8 : Int).toNat) (((x1_1.f0.length : Int) : Int).toNat)))).length p14_10.2]) (2, 0) [p0_0, 0] (by kernel_rfl)) (fun _ => by kernel_rfl) (fun _ => ?_)
                refine D.fin (fr' := [(2, .slice h1.1 a2.length h1.2), (3, .pointer (some ⟨p0_0, 0, none⟩)), (6, .pointer (some ⟨p0_2, 0, none⟩)), (8, .int .i64 o8)]) [] [] [] [] [2, 3, 6, 8] (by kernel_rfl) (by kernel_rfl) trivial (by kernel_rfl) ?_
                exact J.conv2 [2, 3, 6, 8] [0, 1, 2, 3, 4, 5, 6] [0, 1, 2] [0] (by kernel_rfl) (by kernel_rfl) (by kernel_rfl) (by kernel_rfl) (by decide) (hk_ (p14_4, p14_7, p14_8, p14_10))
          · rcases condE H with ⟨hc10, H⟩ | ⟨hc10, H⟩
            · refine J.condT (x := .tmp 54) (t := (decide (x10_2 < 0))) (by kernel_rfl) (by kernel_rfl) hc10 ?_
              refine J.region (by kernel_rfl) ?_
              refine O.pure 4 [(2, 0)] [2, 3, 4, 6, 8] [p0_0, 0] (fr' := [(2, .slice h1.1 a2.length h1.2), (3, .pointer (some ⟨p0_0, 0, none⟩)), (4, .pointer (some ⟨p0_1, 0, none⟩)), (6, .pointer (some ⟨p0_2, 0, none⟩)), (8, .int .i64 (x1_1.f0.length : Int))]) (bx' := [⟨p0_2, [.slice none 0 0], 24⟩, ⟨p0_1, [.string a1], 9⟩, ⟨p0_0, [.slice p1_1.1.1 x1_1.f0.length p1_1.1.2], 24⟩]) (by kernel_rfl) ?_
              refine O.nil (by kernel_rfl) ?_
              obtain rfl := Option.some.inj H
              exact J.conv2 [2, 3, 4, 6, 8] [0, 1] [0, 1, 2] [0] (by kernel_rfl) (by kernel_rfl) (by kernel_rfl) (by kernel_rfl) (by decide) (hj8 ())
            · refine J.condF (x := .tmp 54) (t := (decide (x10_2 < 0))) (by kernel_rfl) (by kernel_rfl) hc10 ?_
              refine J.skip (by kernel_rfl) ?_
              obtain rfl := Option.some.inj H
              exact J.conv2 [2, 3, 4, 6, 8] [0, 1] [0, 1, 2] [0] (by kernel_rfl) (by kernel_rfl) (by kernel_rfl) (by kernel_rfl) (by decide) (hj8 ())
      · rcases condE H with ⟨hc11, H⟩ | ⟨hc11, H⟩
        · refine J.condT (x := .tmp 19) (t := ((x1_1.f0.length : Int) == 40)) (by kernel_rfl) (by kernel_rfl) hc11 ?_
          refine J.skip (by kernel_rfl) ?_
          obtain rfl := Option.some.inj H
          exact J.conv2 [2, 3, 4, 6, 8, 19] [0, 1] [0, 1, 2] [0] (by kernel_rfl) (by kernel_rfl) (by kernel_rfl) (by kernel_rfl) (by decide) (hj3 ())
        · refine J.condF (x := .tmp 19) (t := ((x1_1.f0.length : Int) == 40)) (by kernel_rfl) (by kernel_rfl) hc11 ?_
          refine J.seq (by kernel_rfl) ?_
          refine J.region (by kernel_rfl) ?_
          refine O.pure 4 [] [2, 3, 4, 6, 8, 19] [] (fr' := [(2, .slice h1.1 a2.length h1.2), (3, .pointer (some ⟨p0_0, 0, none⟩)), (4, .pointer (some ⟨p0_1, 0, none⟩)), (6, .pointer (some ⟨p0_2, 0, none⟩)), (8, .int .i64 x4_2), (19, .bool (decide ((a2.length : Int) > 20000)))]) (bx' := [⟨p0_2, [.slice none 0 0], 24⟩, ⟨p0_1, [.string a1], 9⟩, ⟨p0_0, [.slice p1_1.1.1 x1_1.f0.length p1_1.1.2], 24⟩]) (by kernel_rfl) ?_
          refine O.nil (by kernel_rfl) ?_
          rcases condE H with ⟨hc12, H⟩ | ⟨hc12, H⟩
          · refine J.condT (x := .tmp 19) (t := (decide ((a2.length : Int) > 20000))) (by kernel_rfl) (by kernel_rfl) hc12 ?_
            refine J.skip (by kernel_rfl) ?_
            obtain rfl := Option.some.inj H
            exact J.conv2 [2, 3, 4, 6, 8, 19] [0, 1] [0, 1, 2] [0] (by kernel_rfl) (by kernel_rfl) (by kernel_rfl) (by kernel_rfl) (by decide) (hj3 ())
          · refine J.condF (x := .tmp 19) (t := (decide ((a2.length : Int) > 20000))) (by kernel_rfl) (by kernel_rfl) hc12 ?_
            rcases condE H with ⟨hc13, H⟩ | ⟨hc13, H⟩
            · obtain ⟨x7_6, hx7_6, H⟩ := bindE H
              obtain ⟨hx7_6a, hx7_6⟩ := idxE hx7_6
              refine J.region (by kernel_rfl) ?_
              refine O.pure 1 [] [2, 3, 4, 6, 8, 19, 31] [] (fr' := [(2, .slice h1.1 a2.length h1.2), (3, .pointer (some ⟨p0_0, 0, none⟩)), (4, .pointer (some ⟨p0_1, 0, none⟩)), (6, .pointer (some ⟨p0_2, 0, none⟩)), (8, .int .i64 x4_2), (19, .bool (decide ((a2.length : Int) > 20000))), (31, .int .i64 x4_2)]) (bx' := [⟨p0_2, [.slice none 0 0], 24⟩, ⟨p0_1, [.string a1], 9⟩, ⟨p0_0, [.slice p1_1.1.1 x1_1.f0.length p1_1.1.2], 24⟩]) (by kernel_rfl) ?_
              refine O.q (v := .bool true) (some 32) (Qu.eqv (u := .bool (decide (x4_2 ≥ 0))) (v := .bool true) (0, 0) [] (by kernel_rfl) (congrArg Value.bool hc13)) (by kernel_rfl) ?_
              refine O.pure 4 [(2, 0)] [2, 3, 4, 6, 8, 19, 33, 35, 36] [p0_0, 0] (fr' := [(2, .slice h1.1 a2.length h1.2), (3, .pointer (some ⟨p0_0, 0, none⟩)), (4, .pointer (some ⟨p0_1, 0, none⟩)), (6, .pointer (some ⟨p0_2, 0, none⟩)), (8, .int .i64 x4_2), (19, .bool (decide ((a2.length : Int) > 20000))), (33, .bool true), (35, .slice p1_1.1.1 x1_1.f0.length p1_1.1.2), (36, .int .i64 x4_2)]) (bx' := [⟨p0_2, [.slice none 0 0], 24⟩, ⟨p0_1, [.string a1], 9⟩, ⟨p0_0, [.slice p1_1.1.1 x1_1.f0.length p1_1.1.2], 24⟩]) (by kernel_rfl) ?_
              refine O.mono (fun w hS => hS.pk) ?_
              refine O.peek (d := (sh43.kdS p1_1.2)) (hh := p1_1.1) (m := x1_1.f0.length) (i := x4_2) (by simpa only [List.length_set] using hx7_6) (opS43 p1_1.2 _) (fun p7_6 hp7_6A => ?_)
              refine O.q (v := .pointer (some ⟨p7_6.1, 0 + x4_2.toNat * 3, none⟩)) (some 37) (Qu.idx (t := 22) (x := .tmp 35) (y := .tmp 36) (len := x1_1.f0.length) (c := p1_1.1.2) (kk := .i64) (sz := 3) (by kernel_rfl) (by kernel_rfl) (by kernel_rfl) (by kernel_rfl) hx7_6a (by have := idx_lt hx7_6; simpa only [List.length_set, List.length_replicate] using this) hp7_6A) (by kernel_rfl) ?_
              refine O.pure 1 [] [2, 3, 4, 6, 8, 19, 33, 38] [] (fr' := [(2, .slice h1.1 a2.length h1.2), (3, .pointer (some ⟨p0_0, 0, none⟩)), (4, .pointer (some ⟨p0_1, 0, none⟩)), (6, .pointer (some ⟨p0_2, 0, none⟩)), (8, .int .i64 x4_2), (19, .bool (decide ((a2.length : Int) > 20000))), (33, .bool true), (38, .pointer (some ⟨p7_6.1, 0 + x4_2.toNat * 3 + 1, none⟩))]) (bx' := [⟨p0_2, [.slice none 0 0], 24⟩, ⟨p0_1, [.string a1], 9⟩, ⟨p0_0, [.slice p1_1.1.1 x1_1.f0.length p1_1.1.2], 24⟩]) (by kernel_rfl) ?_
              refine O.q (v := .slice p7_6.2.1 x7_6.f1.length p7_6.2.2) (some 39) (Qu.loadR (t := 30) (x := .tmp 38) (hh := p1_1.1) (m := x1_1.f0.length) (i := x4_2.toNat) (u := .pointer (some ⟨p7_6.1, 0 + x4_2.toNat * 3 + 1, none⟩)) (r := .slice p7_6.2.1 x7_6.f1.length p7_6.2.2) (cs := [.string x7_6.f0, .slice p7_6.2.1 x7_6.f1.length p7_6.2.2, .int .i64 x7_6.f2]) 0 1 [p7_6.1, 0 + x4_2.toNat * 3 + 1] (by kernel_rfl) (by kernel_rfl) hp7_6A rfl (by kernel_rfl)) (by kernel_rfl) ?_
              refine O.pure 7 [] [2, 3, 4, 6, 8, 19] [] (fr' := [(2, .slice h1.1 a2.length h1.2), (3, .pointer (some ⟨p0_0, 0, none⟩)), (4, .pointer (some ⟨p0_1, 0, none⟩)), (6, .pointer (some ⟨p0_2, 0, none⟩)), (8, .int .i64 x4_2), (19, .bool (decide ((x7_6.f1.length : Int) > (IntKind.wrap .i64 (20000 - (a2.length : Int))))))]) (bx' := [⟨p0_2, [.slice none 0 0], 24⟩, ⟨p0_1, [.string a1], 9⟩, ⟨p0_0, [.slice p1_1.1.1 x1_1.f0.length p1_1.1.2], 24⟩]) (by kernel_rfl) ?_
              refine O.nil (by kernel_rfl) ?_
              refine J.mono (fun w hS => hS.unpk) ?_
              obtain rfl := Option.some.inj H
              exact J.conv2 [2, 3, 4, 6, 8, 19] [2, 3] [0, 1, 2] [0] (by kernel_rfl) (by kernel_rfl) (by kernel_rfl) (by kernel_rfl) (by decide) (hj3 ())
            · refine J.region (by kernel_rfl) ?_
              refine O.pure 1 [] [2, 3, 4, 6, 8, 19, 31] [] (fr' := [(2, .slice h1.1 a2.length h1.2), (3, .pointer (some ⟨p0_0, 0, none⟩)), (4, .pointer (some ⟨p0_1, 0, none⟩)), (6, .pointer (some ⟨p0_2, 0, none⟩)), (8, .int .i64 x4_2), (19, .bool (decide ((a2.length : Int) > 20000))), (31, .int .i64 x4_2)]) (bx' := [⟨p0_2, [.slice none 0 0], 24⟩, ⟨p0_1, [.string a1], 9⟩, ⟨p0_0, [.slice p1_1.1.1 x1_1.f0.length p1_1.1.2], 24⟩]) (by kernel_rfl) ?_
              refine O.q (v := .bool false) (some 32) (Qu.eqv (u := .bool (decide (x4_2 ≥ 0))) (v := .bool false) (0, 0) [] (by kernel_rfl) (congrArg Value.bool hc13)) (by kernel_rfl) ?_
              refine O.pure 14 [] [2, 3, 4, 6, 8, 19] [] (fr' := [(2, .slice h1.1 a2.length h1.2), (3, .pointer (some ⟨p0_0, 0, none⟩)), (4, .pointer (some ⟨p0_1, 0, none⟩)), (6, .pointer (some ⟨p0_2, 0, none⟩)), (8, .int .i64 x4_2), (19, .bool false)]) (bx' := [⟨p0_2, [.slice none 0 0], 24⟩, ⟨p0_1, [.string a1], 9⟩, ⟨p0_0, [.slice p1_1.1.1 x1_1.f0.length p1_1.1.2], 24⟩]) (by kernel_rfl) ?_
              refine O.nil (by kernel_rfl) ?_
              obtain rfl := Option.some.inj H
              exact J.conv2 [2, 3, 4, 6, 8, 19] [0, 1] [0, 1, 2] [0] (by kernel_rfl) (by kernel_rfl) (by kernel_rfl) (by kernel_rfl) (by decide) (hj3 ())
    · refine J.region (by kernel_rfl) ?_
      refine O.pure 1 [] [2, 3, 4, 6, 8, 20] [] (fr' := [(2, .slice h1.1 a2.length h1.2), (3, .pointer (some ⟨p0_0, 0, none⟩)), (4, .pointer (some ⟨p0_1, 0, none⟩)), (6, .pointer (some ⟨p0_2, 0, none⟩)), (8, .int .i64 x4_2), (20, .int .i64 x4_2)]) (bx' := [⟨p0_2, [.slice none 0 0], 24⟩, ⟨p0_1, [.string a1], 9⟩, ⟨p0_0, [.slice p1_1.1.1 x1_1.f0.length p1_1.1.2], 24⟩]) (by kernel_rfl) ?_
      refine O.q (v := .bool false) (some 21) (Qu.eqv (u := .bool (decide (x4_2 < 0))) (v := .bool false) (0, 0) [] (by kernel_rfl) (congrArg Value.bool hc2)) (by kernel_rfl) ?_
      refine O.pure 7 [] [2, 3, 4, 6, 8, 19] [] (fr' := [(2, .slice h1.1 a2.length h1.2), (3, .pointer (some ⟨p0_0, 0, none⟩)), (4, .pointer (some ⟨p0_1, 0, none⟩)), (6, .pointer (some ⟨p0_2, 0, none⟩)), (8, .int .i64 x4_2), (19, .bool false)]) (bx' := [⟨p0_2, [.slice none 0 0], 24⟩, ⟨p0_1, [.string a1], 9⟩, ⟨p0_0, [.slice p1_1.1.1 x1_1.f0.length p1_1.1.2], 24⟩]) (by kernel_rfl) ?_
      refine O.nil (by kernel_rfl) ?_
      refine J.cond (o := .tmp 19) false (by kernel_rfl) (by kernel_rfl) ?_
      refine J.seq (by kernel_rfl) ?_
      refine J.region (by kernel_rfl) ?_
      refine O.pure 4 [] [2, 3, 4, 6, 8, 19] [] (fr' := [(2, .slice h1.1 a2.length h1.2), (3, .pointer (some ⟨p0_0, 0, none⟩)), (4, .pointer (some ⟨p0_1, 0, none⟩)), (6, .pointer (some ⟨p0_2, 0, none⟩)), (8, .int .i64 x4_2), (19, .bool (decide ((a2.length : Int) > 20000)))]) (bx' := [⟨p0_2, [.slice none 0 0], 24⟩, ⟨p0_1, [.string a1], 9⟩, ⟨p0_0, [.slice p1_1.1.1 x1_1.f0.length p1_1.1.2], 24⟩]) (by kernel_rfl) ?_
      refine O.nil (by kernel_rfl) ?_
      refine J.join (α := Bool) (γ := Unit) (fun o14 q14 => [(2, .slice h1.1 a2.length h1.2), (3, .pointer (some ⟨p0_0, 0, none⟩)), (4, .pointer (some ⟨p0_1, 0, none⟩)), (6, .pointer (some ⟨p0_2, 0, none⟩)), (8, .int .i64 x4_2), (19, .bool o14)]) (fun o14 q14 => St X w1_ (keys [⟨p0_2, [.slice none 0 0], 24⟩, ⟨p0_1, [.string a1], 9⟩, ⟨p0_0, [.slice h0.1 a0.f0.length h0.2], 24⟩] [mkRow (sh43.kdS p1_1.2) 43 (.slice p1_1.1.1 x1_1.f0.length p1_1.1.2) x1_1.f0]) [⟨p0_2, [.slice none 0 0], 24⟩, ⟨p0_1, [.string a1], 9⟩, ⟨p0_0, [.slice p1_1.1.1 x1_1.f0.length p1_1.1.2], 24⟩] [mkRow (sh43.kdS p1_1.2) 43 (.slice p1_1.1.1 x1_1.f0.length p1_1.1.2) x1_1.f0] [] [Rd kd43 h0.1 h0.2 a0.f0, Rd (Kd.int .u8) h1.1 h1.2 a2]) H (fun o14 q14 H => ?_) (fun o14 H hj14 => ?_)
      · rcases condE H with ⟨hc17, H⟩ | ⟨hc17, H⟩
        · refine J.condT (x := .tmp 19) (t := o14) (by kernel_rfl) (by kernel_rfl) hc17 ?_
          refine J.seq (by kernel_rfl) ?_
          refine J.region (by kernel_rfl) ?_
          refine O.pure 3 [(2, 0), (0, 0)] [6, 7] [p0_0, 0, p0_2, 0] (fr' := [(6, .pointer (some ⟨p0_2, 0, none⟩)), (7, .int .i64 3)]) (bx' := [⟨p0_2, [.slice p1_1.1.1 x1_1.f0.length p1_1.1.2], 24⟩, ⟨p0_1, [.string a1], 9⟩, ⟨p0_0, [.slice p1_1.1.1 x1_1.f0.length p1_1.1.2], 24⟩]) (by kernel_rfl) ?_
          refine O.nil (by kernel_rfl) ?_
          obtain rfl := Option.some.inj H
          refine J.mono (fun w hS => hS1_.unfocus hS) ?_
          refine J.mono (fun w hS => hS.impR (d := (sh43.kdS p1_1.2)) (d' := kd43) rfl (imp43 _)) ?_
          exact J.doneS [(0, 0)] [p0_2, 0] [] [] [0] p1_1.1 (vs := [.agg #[.slice p1_1.1.1 x1_1.f0.length p1_1.1.2], .int .i64 3]) (by kernel_rfl) (by kernel_rfl) (by kernel_rfl) (by kernel_rfl) (by kernel_rfl) (by decide)
        · refine J.condF (x := .tmp 19) (t := o14) (by kernel_rfl) (by kernel_rfl) hc17 ?_
          refine J.seq (by kernel_rfl) ?_
          refine J.region (by kernel_rfl) ?_
          refine O.pure 1 [] [2, 3, 4, 6, 8, 48] [] (fr' := [(2, .slice h1.1 a2.length h1.2), (3, .pointer (some ⟨p0_0, 0, none⟩)), (4, .pointer (some ⟨p0_1, 0, none⟩)), (6, .pointer (some ⟨p0_2, 0, none⟩)), (8, .int .i64 x4_2), (48, .int .i64 x4_2)]) (bx' := [⟨p0_2, [.slice none 0 0], 24⟩, ⟨p0_1, [.string a1], 9⟩, ⟨p0_0, [.slice p1_1.1.1 x1_1.f0.length p1_1.1.2], 24⟩]) (by kernel_rfl) ?_
          refine O.q (v := .bool false) (some 49) (Qu.eqv (u := .bool (decide (x4_2 < 0))) (v := .bool false) (0, 0) [] (by kernel_rfl) (congrArg Value.bool hc2)) (by kernel_rfl) ?_
          refine O.pure 1 [] [2, 3, 4, 6, 8, 47] [] (fr' := [(2, .slice h1.1 a2.length h1.2), (3, .pointer (some ⟨p0_0, 0, none⟩)), (4, .pointer (some ⟨p0_1, 0, none⟩)), (6, .pointer (some ⟨p0_2, 0, none⟩)), (8, .int .i64 x4_2), (47, .bool false)]) (bx' := [⟨p0_2, [.slice none 0 0], 24⟩, ⟨p0_1, [.string a1], 9⟩, ⟨p0_0, [.slice p1_1.1.1 x1_1.f0.length p1_1.1.2], 24⟩]) (by kernel_rfl) ?_
          refine O.nil (by kernel_rfl) ?_
          refine J.cond (o := .tmp 47) false (by kernel_rfl) (by kernel_rfl) ?_
          refine J.skip (by kernel_rfl) ?_
          refine J.out ?_
          refine J.seq (by kernel_rfl) ?_
          obtain ⟨x15_6, hx15_6, H⟩ := bindE H
          obtain ⟨hx15_6a, hx15_6⟩ := idxE hx15_6
          obtain ⟨y15_10, hy15_10, H⟩ := bindE H
          have hy15_10a := (appE hy15_10).1
          obtain ⟨z15_10, hz15_10, H⟩ := bindE H
          refine J.mono (fun w hS => hS.pk) ?_
          refine J.peek (d := (sh43.kdS p1_1.2)) (hh := p1_1.1) (m := x1_1.f0.length) (i := x4_2) (by simpa only [List.length_set] using hx15_6) (opS43 p1_1.2 _) (fun p15_6 hp15_6A => ?_)
          refine J.drawS (by kernel_rfl) [(0, some 76, .pointer (some ⟨p0_0, 0, none⟩)), (1, some 77, .slice p1_1.1.1 x1_1.f0.length p1_1.1.2), (2, some 78, .int .i64 x4_2), (3, some 79, .pointer (some ⟨p0_0, 0, none⟩)), (4, some 80, .slice p1_1.1.1 x1_1.f0.length p1_1.1.2), (5, some 81, .int .i64 x4_2), (7, some 83, .pointer (some ⟨p15_6.1, 0 + x4_2.toNat * 3 + 1, none⟩)), (9, some 85, .slice h1.1 a2.length h1.2), (6, some 82, .pointer (some ⟨p15_6.1, 0 + x4_2.toNat * 3, none⟩)), (8, some 84, .slice p15_6.2.1 x15_6.f1.length p15_6.2.2)] ([0, 1, 2, 3, 4, 5, 7, 9] ++ [6, 8]) (by kernel_rfl) ?_
          refine D.mid (cs := [10]) [0, 1, 2, 3, 4, 5, 7, 9] [6, 8] [(2, 0), (2, 0)] [p0_0, 0, p0_0, 0] (by kernel_rfl) (by kernel_rfl) (⟨QuAt.mk (v := .pointer (some ⟨p15_6.1, 0 + x4_2.toNat * 3, none⟩)) (some 82) (by kernel_rfl) (by kernel_rfl) (Qu.idx (t := 22) (x := .tmp 80) (y := .tmp 81) (len := x1_1.f0.length) (c := p1_1.1.2) (kk := .i64) (sz := 3) (by kernel_rfl) (by kernel_rfl) (by kernel_rfl) (by kernel_rfl) hx15_6a (by have := idx_lt hx15_6; simpa only [List.length_set, List.length_replicate] using this) hp15_6A), QuAt.mk (v := .slice p15_6.2.1 x15_6.f1.length p15_6.2.2) (some 84) (by kernel_rfl) (by kernel_rfl) (Qu.loadR (t := 30) (x := .tmp 83) (hh := p1_1.1) (m := x1_1.f0.length) (i := x4_2.toNat) (u := .pointer (some ⟨p15_6.1, 0 + x4_2.toNat * 3 + 1, none⟩)) (r := .slice p15_6.2.1 x15_6.f1.length p15_6.2.2) (cs := [.string x15_6.f0, .slice p15_6.2.1 x15_6.f1.length p15_6.2.2, .int .i64 x15_6.f2]) 0 1 [p15_6.1, 0 + x4_2.toNat * 3 + 1] (by kernel_rfl) (by kernel_rfl) hp15_6A rfl (by kernel_rfl)), trivial⟩) (by kernel_rfl) ⟨?_, trivial⟩
          refine EvStep.mk (some 86) (new := fun p15_10 => [(11, some 87, .pointer (some ⟨p15_6.1, 0 + x4_2.toNat * 3, none⟩)), (12, some 88, .pointer (some ⟨p15_6.1, 0 + x4_2.toNat * 3 + 1, none⟩))]) ([0, 1, 2, 3, 4, 5, 7, 12] ++ [6, 11]) (by kernel_rfl) (Ev.mono' (fun q w hS => hS.freezeH (h := q) (xs := (x15_6.f1 ++ a2))) (Ev.mono (fun w hS => St.thaw sh43 (eF := 43) (e := 5) (h := p15_6.2) (i := x4_2.toNat) (x := x15_6) hSe_ hS1_ hDp_ hout_ hS 0 hx15_6 (hS.now 1 rfl) rfl (fun y_ : S43 => y_.f0.toList ≠ x15_6.f0.toList) (fun j y hy hpy => ⟨fun hj => hpy (by subst hj; rw [hx15_6] at hy; rw [Option.some.inj hy]), fun hyx => hpy (by rw [hyx])⟩)) (Ev.appSl (d := (Kd.int .u8)) (ys := a2) (A := h1.1) (c := h1.2) (x := .tmp 84) (y := .tmp 85) (t := 30) (bytes := 1) 1 (by kernel_rfl) (by kernel_rfl) (by kernel_rfl) rfl (by kernel_rfl) (by decide) hy15_10a))) (fun p15_10 => by kernel_rfl) (fun p15_10 => ?_)
          refine D.mid (cs := [13]) [0, 1, 2, 3, 4, 5, 7, 12] [6, 11] [(2, 0), (2, 0)] [p0_0, 0, p0_0, 0] (by kernel_rfl) (by kernel_rfl) (⟨QuAt.mk (v := .pointer (some ⟨p15_6.1, 0 + x4_2.toNat * 3, none⟩)) (some 82) (by kernel_rfl) (by kernel_rfl) (Qu.idx (t := 22) (x := .tmp 80) (y := .tmp 81) (len := x1_1.f0.length) (c := p1_1.1.2) (kk := .i64) (sz := 3) (by kernel_rfl) (by kernel_rfl) (by kernel_rfl) (by kernel_rfl) hx15_6a (by have := idx_lt hx15_6; simpa only [List.length_set, List.length_replicate] using this) hp15_6A), QuAt.mk (v := .pointer (some ⟨p15_6.1, 0 + x4_2.toNat * 3, none⟩)) (some 87) (by kernel_rfl) (by kernel_rfl) (Qu.idx (t := 22) (x := .tmp 77) (y := .tmp 78) (len := x1_1.f0.length) (c := p1_1.1.2) (kk := .i64) (sz := 3) (by kernel_rfl) (by kernel_rfl) (by kernel_rfl) (by kernel_rfl) hx15_6a (by have := idx_lt hx15_6; simpa only [List.length_set, List.length_replicate] using this) hp15_6A), trivial⟩) (by kernel_rfl) ⟨?_, trivial⟩
          refine EvStep.mk none (new := fun _ => []) ([] ++ [11]) (by kernel_rfl) (Ev.storeR (t := 30) (x := .tmp 88) (y := .tmp 86) (hh := p1_1.1) (m := x1_1.f0.length) (g := p15_6.1) (i := x4_2.toNat) (f := 1) (s := 1) (u := .pointer (some ⟨p15_6.1, 0 + x4_2.toNat * 3 + 1, none⟩)) (z := .slice p15_10.1 (x15_6.f1 ++ a2).length p15_10.2) (cs := [.string x15_6.f0, .slice p15_6.2.1 x15_6.f1.length p15_6.2.2, .int .i64 x15_6.f2]) (ncs := [.string x15_6.f0, .slice p15_10.1 (x15_6.f1 ++ a2).length p15_10.2, .int .i64 x15_6.f2]) (⟨x15_6.f0, (x15_6.f1 ++ a2), x15_6.f2⟩ : S43) (some 0) (by kernel_rfl) (by kernel_rfl) rfl (by kernel_rfl) hp15_6A (by have := idx_lt hx15_6; simpa only [List.length_set] using this) ⟨by kernel_rfl, by kernel_rfl, by kernel_rfl, by kernel_rfl⟩ rfl (by kernel_rfl) (fun w' hφ => ⟨p15_10, rfl, trivial, fun hn => absurd rfl hn⟩)) (fun _ => by kernel_rfl) (fun _ => ?_)
          refine D.fin (fr' := [(3, .pointer (some ⟨p0_0, 0, none⟩)), (6, .pointer (some ⟨p0_2, 0, none⟩))]) [] [11] [] [] [3, 6] (by kernel_rfl) (by kernel_rfl) (⟨QuAt.mk (v := .pointer (some ⟨p15_6.1, 0 + x4_2.toNat * 3, none⟩)) (some 87) (by kernel_rfl) (by kernel_rfl) (Qu.idx (t := 22) (x := .tmp 77) (y := .tmp 78) (len := x1_1.f0.length) (c := p1_1.1.2) (kk := .i64) (sz := 3) (by kernel_rfl) (by kernel_rfl) (by kernel_rfl) (by kernel_rfl) hx15_6a (by have := idx_lt hx15_6; simpa only [List.length_set, List.length_replicate] using this) hp15_6A), trivial⟩) (by kernel_rfl) ?_
          refine J.mono (fun w hS => St.whole sh43 kd43 rfl (fun w x h hr => ⟨h, rfl, hr⟩) (x := (⟨x15_6.f0, (x15_6.f1 ++ a2), x15_6.f2⟩ : S43)) (q := p15_10) (j := 0) hS (List.getElem?_set_self (idx_lt hx15_6)) (fun k y hk hne => by rw [List.getElem?_set_ne (Ne.symm hne)] at hk; exact sepE hz15_10 k y x15_6 hk hx15_6 hne) rfl) ?_
          refine J.renS [3, 6] (fr1 := [(3, .pointer (some ⟨p0_0, 0, none⟩)), (6, .pointer (some ⟨p0_2, 0, none⟩))]) (bx1 := [⟨p0_2, [.slice none 0 0], 24⟩, ⟨p0_1, [.string a1], 9⟩, ⟨p0_0, [.slice p1_1.1.1 x1_1.f0.length p1_1.1.2], 24⟩]) (rw1 := [mkRow kd43 43 (.slice p1_1.1.1 x1_1.f0.length p1_1.1.2) (x1_1.f0.set x4_2.toNat (⟨x15_6.f0, (x15_6.f1 ++ a2), x15_6.f2⟩ : S43))]) (fr' := [(3, .pointer (some ⟨p0_0, 0, none⟩)), (6, .pointer (some ⟨p0_2, 0, none⟩))]) (bx' := [⟨p0_2, [.slice none 0 0], 24⟩, ⟨p0_1, [.string a1], 9⟩, ⟨p0_0, [.slice p1_1.1.1 (x1_1.f0.set x4_2.toNat (⟨x15_6.f0, (x15_6.f1 ++ a2), x15_6.f2⟩ : S43)).length p1_1.1.2], 24⟩]) (rw' := [mkRow kd43 43 (.slice p1_1.1.1 (x1_1.f0.set x4_2.toNat (⟨x15_6.f0, (x15_6.f1 ++ a2), x15_6.f2⟩ : S43)).length p1_1.1.2) (x1_1.f0.set x4_2.toNat (⟨x15_6.f0, (x15_6.f1 ++ a2), x15_6.f2⟩ : S43))]) (by kernel_rfl) (by kernel_rfl) (by simp only [List.length_set, List.length_replicate]) ?_
          refine J.seq (by kernel_rfl) ?_
          refine J.region (by kernel_rfl) ?_
          refine O.pure 3 [(2, 0), (0, 0)] [6, 7] [p0_0, 0, p0_2, 0] (fr' := [(6, .pointer (some ⟨p0_2, 0, none⟩)), (7, .int .i64 0)]) (bx' := [⟨p0_2, [.slice p1_1.1.1 (x1_1.f0.set x4_2.toNat (⟨x15_6.f0, (x15_6.f1 ++ a2), x15_6.f2⟩ : S43)).length p1_1.1.2], 24⟩, ⟨p0_1, [.string a1], 9⟩, ⟨p0_0, [.slice p1_1.1.1 (x1_1.f0.set x4_2.toNat (⟨x15_6.f0, (x15_6.f1 ++ a2), x15_6.f2⟩ : S43)).length p1_1.1.2], 24⟩]) (by kernel_rfl) ?_
          refine O.nil (by kernel_rfl) ?_
          obtain rfl := Option.some.inj H
          exact J.doneS [(0, 0)] [p0_2, 0] [] [] [0] p1_1.1 (vs := [.agg #[.slice p1_1.1.1 (x1_1.f0.set x4_2.toNat (⟨x15_6.f0, (x15_6.f1 ++ a2), x15_6.f2⟩ : S43)).length p1_1.1.2], .int .i64 0]) (by kernel_rfl) (by kernel_rfl) (by kernel_rfl) (by kernel_rfl) (by kernel_rfl) (by decide)
      · rcases condE H with ⟨hc18, H⟩ | ⟨hc18, H⟩
        · refine J.condT (x := .tmp 19) (t := (decide ((a2.length : Int) > 20000))) (by kernel_rfl) (by kernel_rfl) hc18 ?_
          refine J.skip (by kernel_rfl) ?_
          obtain rfl := Option.some.inj H
          exact J.conv2 [2, 3, 4, 6, 8, 19] [0, 1] [0, 1, 2] [0] (by kernel_rfl) (by kernel_rfl) (by kernel_rfl) (by kernel_rfl) (by decide) (hj14 ())
        · refine J.condF (x := .tmp 19) (t := (decide ((a2.length : Int) > 20000))) (by kernel_rfl) (by kernel_rfl) hc18 ?_
          rcases condE H with ⟨hc19, H⟩ | ⟨hc19, H⟩
          · obtain ⟨x7_6, hx7_6, H⟩ := bindE H
            obtain ⟨hx7_6a, hx7_6⟩ := idxE hx7_6
            refine J.region (by kernel_rfl) ?_
            refine O.pure 1 [] [2, 3, 4, 6, 8, 19, 31] [] (fr' := [(2, .slice h1.1 a2.length h1.2), (3, .pointer (some ⟨p0_0, 0, none⟩)), (4, .pointer (some ⟨p0_1, 0, none⟩)), (6, .pointer (some ⟨p0_2, 0, none⟩)), (8, .int .i64 x4_2), (19, .bool (decide ((a2.length : Int) > 20000))), (31, .int .i64 x4_2)]) (bx' := [⟨p0_2, [.slice none 0 0], 24⟩, ⟨p0_1, [.string a1], 9⟩, ⟨p0_0, [.slice p1_1.1.1 x1_1.f0.length p1_1.1.2], 24⟩]) (by kernel_rfl) ?_
            refine O.q (v := .bool true) (some 32) (Qu.eqv (u := .bool (decide (x4_2 ≥ 0))) (v := .bool true) (0, 0) [] (by kernel_rfl) (congrArg Value.bool hc19)) (by kernel_rfl) ?_
            refine O.pure 4 [(2, 0)] [2, 3, 4, 6, 8, 19, 33, 35, 36] [p0_0, 0] (fr' := [(2, .slice h1.1 a2.length h1.2), (3, .pointer (some ⟨p0_0, 0, none⟩)), (4, .pointer (some ⟨p0_1, 0, none⟩)), (6, .pointer (some ⟨p0_2, 0, none⟩)), (8, .int .i64 x4_2), (19, .bool (decide ((a2.length : Int) > 20000))), (33, .bool true), (35, .slice p1_1.1.1 x1_1.f0.length p1_1.1.2), (36, .int .i64 x4_2)]) (bx' := [⟨p0_2, [.slice none 0 0], 24⟩, ⟨p0_1, [.string a1], 9⟩, ⟨p0_0, [.slice p1_1.1.1 x1_1.f0.length p1_1.1.2], 24⟩]) (by kernel_rfl) ?_
            refine O.mono (fun w hS => hS.pk) ?_
            refine O.peek (d := (sh43.kdS p1_1.2)) (hh := p1_1.1) (m := x1_1.f0.length) (i := x4_2) (by simpa only [List.length_set] using hx7_6) (opS43 p1_1.2 _) (fun p7_6 hp7_6A => ?_)
            refine O.q (v := .pointer (some ⟨p7_6.1, 0 + x4_2.toNat * 3, none⟩)) (some 37) (Qu.idx (t := 22) (x := .tmp 35) (y := .tmp 36) (len := x1_1.f0.length) (c := p1_1.1.2) (kk := .i64) (sz := 3) (by kernel_rfl) (by kernel_rfl) (by kernel_rfl) (by kernel_rfl) hx7_6a (by have := idx_lt hx7_6; simpa only [List.length_set, List.length_replicate] using this) hp7_6A) (by kernel_rfl) ?_
            refine O.pure 1 [] [2, 3, 4, 6, 8, 19, 33, 38] [] (fr' := [(2, .slice h1.1 a2.length h1.2), (3, .pointer (some ⟨p0_0, 0, none⟩)), (4, .pointer (some ⟨p0_1, 0, none⟩)), (6, .pointer (some ⟨p0_2, 0, none⟩)), (8, .int .i64 x4_2), (19, .bool (decide ((a2.length : Int) > 20000))), (33, .bool true), (38, .pointer (some ⟨p7_6.1, 0 + x4_2.toNat * 3 + 1, none⟩))]) (bx' := [⟨p0_2, [.slice none 0 0], 24⟩, ⟨p0_1, [.string a1], 9⟩, ⟨p0_0, [.slice p1_1.1.1 x1_1.f0.length p1_1.1.2], 24⟩]) (by kernel_rfl) ?_
            refine O.q (v := .slice p7_6.2.1 x7_6.f1.length p7_6.2.2) (some 39) (Qu.loadR (t := 30) (x := .tmp 38) (hh := p1_1.1) (m := x1_1.f0.length) (i := x4_2.toNat) (u := .pointer (some ⟨p7_6.1, 0 + x4_2.toNat * 3 + 1, none⟩)) (r := .slice p7_6.2.1 x7_6.f1.length p7_6.2.2) (cs := [.string x7_6.f0, .slice p7_6.2.1 x7_6.f1.length p7_6.2.2, .int .i64 x7_6.f2]) 0 1 [p7_6.1, 0 + x4_2.toNat * 3 + 1] (by kernel_rfl) (by kernel_rfl) hp7_6A rfl (by kernel_rfl)) (by kernel_rfl) ?_
            refine O.pure 7 [] [2, 3, 4, 6, 8, 19] [] (fr' := [(2, .slice h1.1 a2.length h1.2), (3, .pointer (some ⟨p0_0, 0, none⟩)), (4, .pointer (some ⟨p0_1, 0, none⟩)), (6, .pointer (some ⟨p0_2, 0, none⟩)), (8, .int .i64 x4_2), (19, .bool (decide ((x7_6.f1.length : Int) > (IntKind.wrap .i64 (20000 - (a2.length : Int))))))]) (bx' := [⟨p0_2, [.slice none 0 0], 24⟩, ⟨p0_1, [.string a1], 9⟩, ⟨p0_0, [.slice p1_1.1.1 x1_1.f0.length p1_1.1.2], 24⟩]) (by kernel_rfl) ?_
            refine O.nil (by kernel_rfl) ?_
            refine J.mono (fun w hS => hS.unpk) ?_
            obtain rfl := Option.some.inj H
            exact J.conv2 [2, 3, 4, 6, 8, 19] [2, 3] [0, 1, 2] [0] (by kernel_rfl) (by kernel_rfl) (by kernel_rfl) (by kernel_rfl) (by decide) (hj14 ())
          · refine J.region (by kernel_rfl) ?_
            refine O.pure 1 [] [2, 3, 4, 6, 8, 19, 31] [] (fr' := [(2, .slice h1.1 a2.length h1.2), (3, .pointer (some ⟨p0_0, 0, none⟩)), (4, .pointer (some ⟨p0_1, 0, none⟩)), (6, .pointer (some ⟨p0_2, 0, none⟩)), (8, .int .i64 x4_2), (19, .bool (decide ((a2.length : Int) > 20000))), (31, .int .i64 x4_2)]) (bx' := [⟨p0_2, [.slice none 0 0], 24⟩, ⟨p0_1, [.string a1], 9⟩, ⟨p0_0, [.slice p1_1.1.1 x1_1.f0.length p1_1.1.2], 24⟩]) (by kernel_rfl) ?_
            refine O.q (v := .bool false) (some 32) (Qu.eqv (u := .bool (decide (x4_2 ≥ 0))) (v := .bool false) (0, 0) [] (by kernel_rfl) (congrArg Value.bool hc19)) (by kernel_rfl) ?_
            refine O.pure 14 [] [2, 3, 4, 6, 8, 19] [] (fr' := [(2, .slice h1.1 a2.length h1.2), (3, .pointer (some ⟨p0_0, 0, none⟩)), (4, .pointer (some ⟨p0_1, 0, none⟩)), (6, .pointer (some ⟨p0_2, 0, none⟩)), (8, .int .i64 x4_2), (19, .bool false)]) (bx' := [⟨p0_2, [.slice none 0 0], 24⟩, ⟨p0_1, [.string a1], 9⟩, ⟨p0_0, [.slice p1_1.1.1 x1_1.f0.length p1_1.1.2], 24⟩]) (by kernel_rfl) ?_
            refine O.nil (by kernel_rfl) ?_
            obtain rfl := Option.some.inj H
            exact J.conv2 [2, 3, 4, 6, 8, 19] [0, 1] [0, 1, 2] [0] (by kernel_rfl) (by kernel_rfl) (by kernel_rfl) (by kernel_rfl) (by decide) (hj14 ())
/-! ### haywain/disk.Sync: function 27 -/
def disk_Sync.f (K : Nat) (a0 : S24) (a1 : ByteArray) : Option (S24 × Int) := (disk_own.f K a0).bind fun x1_1 => (disk_at.f K x1_1 a1).bind fun x2_2 => cond (decide (x2_2 < 0)) (some ((x1_1, 4))) ((idxO x1_1.f0 x2_2).bind fun x5_6 => some (((⟨(x1_1.f0.set x2_2.toNat (⟨x5_6.f0, x5_6.f1, (x5_6.f1.length : Int)⟩ : S43))⟩ : S24), 0)))
set_option maxRecDepth 100000 in
set_option maxHeartbeats 1000000 in
theorem disk_Sync.con (K : Nat) (a0 : S24) (a1 : ByteArray) (h0 : Hd) (r : (S24 × Int)) (X : Nat → Nat → Prop) (w : World) (hS : St X w [] [] [] [] [Rd kd43 h0.1 h0.2 a0.f0] w) (H : disk_Sync.f K a0 a1 = some r) :
    Cn Try.prog 27 [.agg #[.slice h0.1 a0.f0.length h0.2], .string a1] X w [] (fun i : Hd => .tuple #[.agg #[.slice i.1 r.1.f0.length i.2], .int .i64 r.2]) (fun i => []) (fun i => [mkRow kd43 43 (.slice i.1 r.1.f0.length i.2) r.1.f0]) (fun i => []) := by
  refine Cn.of Try.func27 (by kernel_rfl) hS ?_
  unfold disk_Sync.f at H
  refine J.seq (by kernel_rfl) ?_
  refine J.region (by kernel_rfl) ?_
  refine O.e (some 2) (Ev.box (t := 24) (x := .tmp 0) (v := .agg #[.slice h0.1 a0.f0.length h0.2]) (by kernel_rfl) (by kernel_rfl)) (by kernel_rfl) (fun p0_0 => ?_)
  refine O.e (some 4) (Ev.alloc (t := 24) (z := .agg #[.slice none 0 0]) (by kernel_rfl) (by kernel_rfl)) (by kernel_rfl) (fun p0_1 => ?_)
  refine O.pure 1 [] [1, 2, 4] [] (fr' := [(1, .string a1), (2, .pointer (some ⟨p0_0, 0, none⟩)), (4, .pointer (some ⟨p0_1, 0, none⟩))]) (bx' := [⟨p0_1, [.slice none 0 0], 24⟩, ⟨p0_0, [.slice h0.1 a0.f0.length h0.2], 24⟩]) (by kernel_rfl) ?_
  refine O.nil (by kernel_rfl) ?_
  refine J.seq (by kernel_rfl) ?_
  obtain ⟨x1_1, hx1_1, H⟩ := bindE H
  refine J.region (by kernel_rfl) ?_
  refine O.pure 1 [(1, 0)] [1, 2, 4, 7] [p0_0, 0] (fr' := [(1, .string a1), (2, .pointer (some ⟨p0_0, 0, none⟩)), (4, .pointer (some ⟨p0_1, 0, none⟩)), (7, .agg #[.slice h0.1 a0.f0.length h0.2])]) (bx' := [⟨p0_1, [.slice none 0 0], 24⟩, ⟨p0_0, [.slice h0.1 a0.f0.length h0.2], 24⟩]) (by kernel_rfl) ?_
  refine O.e (some 8) (Ev.call0 (xs := [.tmp 7]) [0] (by kernel_rfl) (by kernel_rfl) (fun w hS => disk_own.con K a0 h0  _ _ w hS hx1_1)) (by kernel_rfl) (fun p1_1 => ?_)
  refine O.pure 1 [(1, 0)] [1, 2, 4] [p0_0, 0] (fr' := [(1, .string a1), (2, .pointer (some ⟨p0_0, 0, none⟩)), (4, .pointer (some ⟨p0_1, 0, none⟩))]) (bx' := [⟨p0_1, [.slice none 0 0], 24⟩, ⟨p0_0, [.slice p1_1.1 x1_1.f0.length p1_1.2], 24⟩]) (by kernel_rfl) ?_
  refine O.nil (by kernel_rfl) ?_
  refine J.seq (by kernel_rfl) ?_
  obtain ⟨x2_2, hx2_2, H⟩ := bindE H
  refine J.region (by kernel_rfl) ?_
  refine O.pure 2 [(1, 0)] [2, 4, 9, 10] [p0_0, 0] (fr' := [(2, .pointer (some ⟨p0_0, 0, none⟩)), (4, .pointer (some ⟨p0_1, 0, none⟩)), (9, .agg #[.slice p1_1.1 x1_1.f0.length p1_1.2]), (10, .string a1)]) (bx' := [⟨p0_1, [.slice none 0 0], 24⟩, ⟨p0_0, [.slice p1_1.1 x1_1.f0.length p1_1.2], 24⟩]) (by kernel_rfl) ?_
  refine O.e (some 11) (Ev.callLb (xs1 := [.tmp 9, .tmp 10]) [0] (fun w hS => (hS.rowsel [0] rfl (by decide)).freezeL (hh := p1_1) (m := x1_1.f0.length) (xs := x1_1.f0) rfl) (by kernel_rfl) (by kernel_rfl) (fun _ q hq => by cases hq) (fun w hS => disk_at.con K x1_1 a1 p1_1  _ _ w hS hx2_2)) (by kernel_rfl) (fun _ => ?_)
  refine O.pure 1 [] [2, 4, 6] [] (fr' := [(2, .pointer (some ⟨p0_0, 0, none⟩)), (4, .pointer (some ⟨p0_1, 0, none⟩)), (6, .int .i64 x2_2)]) (bx' := [⟨p0_1, [.slice none 0 0], 24⟩, ⟨p0_0, [.slice p1_1.1 x1_1.f0.length p1_1.2], 24⟩]) (by kernel_rfl) ?_
  refine O.nil (by kernel_rfl) ?_
  refine J.seq (by kernel_rfl) ?_
  refine J.seq (by kernel_rfl) ?_
  refine J.region (by kernel_rfl) ?_
  refine O.pure 2 [] [2, 4, 6, 13] [] (fr' := [(2, .pointer (some ⟨p0_0, 0, none⟩)), (4, .pointer (some ⟨p0_1, 0, none⟩)), (6, .int .i64 x2_2), (13, .bool (decide (x2_2 < 0)))]) (bx' := [⟨p0_1, [.slice none 0 0], 24⟩, ⟨p0_0, [.slice p1_1.1 x1_1.f0.length p1_1.2], 24⟩]) (by kernel_rfl) ?_
  refine O.nil (by kernel_rfl) ?_
  rcases condE H with ⟨hc1, H⟩ | ⟨hc1, H⟩
  · refine J.condT (x := .tmp 13) (t := (decide (x2_2 < 0))) (by kernel_rfl) (by kernel_rfl) hc1 ?_
    refine J.seq (by kernel_rfl) ?_
    refine J.region (by kernel_rfl) ?_
    refine O.pure 3 [(1, 0), (0, 0)] [4, 5] [p0_0, 0, p0_1, 0] (fr' := [(4, .pointer (some ⟨p0_1, 0, none⟩)), (5, .int .i64 4)]) (bx' := [⟨p0_1, [.slice p1_1.1 x1_1.f0.length p1_1.2], 24⟩, ⟨p0_0, [.slice p1_1.1 x1_1.f0.length p1_1.2], 24⟩]) (by kernel_rfl) ?_
    refine O.nil (by kernel_rfl) ?_
    obtain rfl := Option.some.inj H
    exact J.doneS [(0, 0)] [p0_1, 0] [] [] [0] p1_1 (vs := [.agg #[.slice p1_1.1 x1_1.f0.length p1_1.2], .int .i64 4]) (by kernel_rfl) (by kernel_rfl) (by kernel_rfl) (by kernel_rfl) (by kernel_rfl) (by decide)
  · refine J.condF (x := .tmp 13) (t := (decide (x2_2 < 0))) (by kernel_rfl) (by kernel_rfl) hc1 ?_
    refine J.skip (by kernel_rfl) ?_
    refine J.seq (by kernel_rfl) ?_
    obtain ⟨x5_6, hx5_6, H⟩ := bindE H
    obtain ⟨hx5_6a, hx5_6⟩ := idxE hx5_6
    refine J.mono (fun w hS => hS.pk) ?_
    refine J.peek (d := kd43) (hh := p1_1) (m := x1_1.f0.length) (i := x2_2) (by simpa only [List.length_set] using hx5_6) (op43 _) (fun p5_6 hp5_6A => ?_)
    refine J.drawS (by kernel_rfl) [(0, some 15, .pointer (some ⟨p0_0, 0, none⟩)), (1, some 16, .slice p1_1.1 x1_1.f0.length p1_1.2), (2, some 17, .int .i64 x2_2), (3, some 18, .pointer (some ⟨p0_0, 0, none⟩)), (4, some 19, .slice p1_1.1 x1_1.f0.length p1_1.2), (5, some 20, .int .i64 x2_2), (7, some 22, .pointer (some ⟨p5_6.1, 0 + x2_2.toNat * 3 + 1, none⟩)), (9, some 24, .int .i64 (x5_6.f1.length : Int)), (11, some 26, .pointer (some ⟨p5_6.1, 0 + x2_2.toNat * 3 + 2, none⟩)), (6, some 21, .pointer (some ⟨p5_6.1, 0 + x2_2.toNat * 3, none⟩)), (8, some 23, .slice p5_6.2.1 x5_6.f1.length p5_6.2.2), (10, some 25, .pointer (some ⟨p5_6.1, 0 + x2_2.toNat * 3, none⟩))] ([0, 1, 2, 3, 4, 5, 7, 9, 11] ++ [6, 8, 10]) (by kernel_rfl) ?_
    refine D.mid (cs := [12]) [0, 1, 2, 3, 4, 5, 7, 9, 11] [6, 8, 10] [(1, 0), (1, 0)] [p0_0, 0, p0_0, 0] (by kernel_rfl) (by kernel_rfl) (⟨QuAt.mk (v := .pointer (some ⟨p5_6.1, 0 + x2_2.toNat * 3, none⟩)) (some 21) (by kernel_rfl) (by kernel_rfl) (Qu.idx (t := 22) (x := .tmp 19) (y := .tmp 20) (len := x1_1.f0.length) (c := p1_1.2) (kk := .i64) (sz := 3) (by kernel_rfl) (by kernel_rfl) (by kernel_rfl) (by kernel_rfl) hx5_6a (by have := idx_lt hx5_6; simpa only [List.length_set, List.length_replicate] using this) hp5_6A), QuAt.mk (v := .slice p5_6.2.1 x5_6.f1.length p5_6.2.2) (some 23) (by kernel_rfl) (by kernel_rfl) (Qu.loadR (t := 30) (x := .tmp 22) (hh := p1_1) (m := x1_1.f0.length) (i := x2_2.toNat) (u := .pointer (some ⟨p5_6.1, 0 + x2_2.toNat * 3 + 1, none⟩)) (r := .slice p5_6.2.1 x5_6.f1.length p5_6.2.2) (cs := [.string x5_6.f0, .slice p5_6.2.1 x5_6.f1.length p5_6.2.2, .int .i64 x5_6.f2]) 0 1 [p5_6.1, 0 + x2_2.toNat * 3 + 1] (by kernel_rfl) (by kernel_rfl) hp5_6A rfl (by kernel_rfl)), QuAt.mk (v := .pointer (some ⟨p5_6.1, 0 + x2_2.toNat * 3, none⟩)) (some 25) (by kernel_rfl) (by kernel_rfl) (Qu.idx (t := 22) (x := .tmp 16) (y := .tmp 17) (len := x1_1.f0.length) (c := p1_1.2) (kk := .i64) (sz := 3) (by kernel_rfl) (by kernel_rfl) (by kernel_rfl) (by kernel_rfl) hx5_6a (by have := idx_lt hx5_6; simpa only [List.length_set, List.length_replicate] using this) hp5_6A), trivial⟩) (by kernel_rfl) ⟨?_, trivial⟩
    refine EvStep.mk none (new := fun _ => []) ([] ++ [10]) (by kernel_rfl) (Ev.storeR (t := 3) (x := .tmp 26) (y := .tmp 24) (hh := p1_1) (m := x1_1.f0.length) (g := p5_6.1) (i := x2_2.toNat) (f := 2) (s := 1) (u := .pointer (some ⟨p5_6.1, 0 + x2_2.toNat * 3 + 2, none⟩)) (z := .int .i64 (x5_6.f1.length : Int)) (cs := [.string x5_6.f0, .slice p5_6.2.1 x5_6.f1.length p5_6.2.2, .int .i64 x5_6.f2]) (ncs := [.string x5_6.f0, .slice p5_6.2.1 x5_6.f1.length p5_6.2.2, .int .i64 (x5_6.f1.length : Int)]) (⟨x5_6.f0, x5_6.f1, (x5_6.f1.length : Int)⟩ : S43) (some 0) (by kernel_rfl) (by kernel_rfl) rfl (by kernel_rfl) hp5_6A (by have := idx_lt hx5_6; simpa only [List.length_set] using this) ⟨by kernel_rfl, by kernel_rfl, by kernel_rfl, by kernel_rfl⟩ rfl (by kernel_rfl) (fun w' hφ => ⟨p5_6.2, rfl, hφ _ (List.mem_of_getElem? (i := 0) rfl)⟩)) (fun _ => by kernel_rfl) (fun _ => ?_)
    refine D.fin (fr' := [(2, .pointer (some ⟨p0_0, 0, none⟩)), (4, .pointer (some ⟨p0_1, 0, none⟩))]) [] [10] [] [] [2, 4] (by kernel_rfl) (by kernel_rfl) (⟨QuAt.mk (v := .pointer (some ⟨p5_6.1, 0 + x2_2.toNat * 3, none⟩)) (some 25) (by kernel_rfl) (by kernel_rfl) (Qu.idx (t := 22) (x := .tmp 16) (y := .tmp 17) (len := x1_1.f0.length) (c := p1_1.2) (kk := .i64) (sz := 3) (by kernel_rfl) (by kernel_rfl) (by kernel_rfl) (by kernel_rfl) hx5_6a (by have := idx_lt hx5_6; simpa only [List.length_set, List.length_replicate] using this) hp5_6A), trivial⟩) (by kernel_rfl) ?_
    refine J.mono (fun w hS => hS.unpk) ?_
    refine J.renS [2, 4] (fr1 := [(2, .pointer (some ⟨p0_0, 0, none⟩)), (4, .pointer (some ⟨p0_1, 0, none⟩))]) (bx1 := [⟨p0_1, [.slice none 0 0], 24⟩, ⟨p0_0, [.slice p1_1.1 x1_1.f0.length p1_1.2], 24⟩]) (rw1 := [mkRow kd43 43 (.slice p1_1.1 x1_1.f0.length p1_1.2) (x1_1.f0.set x2_2.toNat (⟨x5_6.f0, x5_6.f1, (x5_6.f1.length : Int)⟩ : S43))]) (fr' := [(2, .pointer (some ⟨p0_0, 0, none⟩)), (4, .pointer (some ⟨p0_1, 0, none⟩))]) (bx' := [⟨p0_1, [.slice none 0 0], 24⟩, ⟨p0_0, [.slice p1_1.1 (x1_1.f0.set x2_2.toNat (⟨x5_6.f0, x5_6.f1, (x5_6.f1.length : Int)⟩ : S43)).length p1_1.2], 24⟩]) (rw' := [mkRow kd43 43 (.slice p1_1.1 (x1_1.f0.set x2_2.toNat (⟨x5_6.f0, x5_6.f1, (x5_6.f1.length : Int)⟩ : S43)).length p1_1.2) (x1_1.f0.set x2_2.toNat (⟨x5_6.f0, x5_6.f1, (x5_6.f1.length : Int)⟩ : S43))]) (by kernel_rfl) (by kernel_rfl) (by simp only [List.length_set, List.length_replicate]) ?_
    refine J.seq (by kernel_rfl) ?_
    refine J.region (by kernel_rfl) ?_
    refine O.pure 3 [(1, 0), (0, 0)] [4, 5] [p0_0, 0, p0_1, 0] (fr' := [(4, .pointer (some ⟨p0_1, 0, none⟩)), (5, .int .i64 0)]) (bx' := [⟨p0_1, [.slice p1_1.1 (x1_1.f0.set x2_2.toNat (⟨x5_6.f0, x5_6.f1, (x5_6.f1.length : Int)⟩ : S43)).length p1_1.2], 24⟩, ⟨p0_0, [.slice p1_1.1 (x1_1.f0.set x2_2.toNat (⟨x5_6.f0, x5_6.f1, (x5_6.f1.length : Int)⟩ : S43)).length p1_1.2], 24⟩]) (by kernel_rfl) ?_
    refine O.nil (by kernel_rfl) ?_
    obtain rfl := Option.some.inj H
    exact J.doneS [(0, 0)] [p0_1, 0] [] [] [0] p1_1 (vs := [.agg #[.slice p1_1.1 (x1_1.f0.set x2_2.toNat (⟨x5_6.f0, x5_6.f1, (x5_6.f1.length : Int)⟩ : S43)).length p1_1.2], .int .i64 0]) (by kernel_rfl) (by kernel_rfl) (by kernel_rfl) (by kernel_rfl) (by kernel_rfl) (by decide)
/-! ### haywain/haywainlaw13.knows: function 10 -/
def haywainlaw13_knows.f (K : Nat) : Option Bool := (disk_Put.f K (⟨([] : List S43)⟩ : S24) (⟨#[97]⟩ : ByteArray) ([120, 121] : List Int)).bind fun x1_3 => (disk_Sync.f K x1_3.1 (⟨#[97]⟩ : ByteArray)).bind fun x2_1 => (disk_Put.f K x2_1.1 (⟨#[97]⟩ : ByteArray) ([122, 119] : List Int)).bind fun x3_3 => (disk_Get.f K x3_3.1 (⟨#[97]⟩ : ByteArray)).bind fun x4_1 => (disk_Crash.f K x3_3.1 ([1] : List Int)).bind fun x5_2 => (disk_Get.f K x5_2 (⟨#[97]⟩ : ByteArray)).bind fun x5_3 => (disk_Crash.f K x3_3.1 ([] : List Int)).bind fun x6_1 => (disk_Get.f K x6_1 (⟨#[97]⟩ : ByteArray)).bind fun x6_2 => cond (x2_1.2 == 0) (cond (x3_3.2 == 0) (cond ((strOfNums x4_1.1).toList == (⟨#[120, 121, 122, 119]⟩ : ByteArray).toList) (cond (x4_1.2 == 0) (cond ((strOfNums x5_3.1).toList == (⟨#[120, 121, 122]⟩ : ByteArray).toList) (cond (x5_3.2 == 0) (cond ((strOfNums x6_2.1).toList == (⟨#[120, 121]⟩ : ByteArray).toList) ((disk_Right.f K x3_3.1).bind fun x7_31 => cond x7_31 ((disk_Names.f K x3_3.1).bind fun x7_35 => some (((x7_35.length : Int) == 1))) (some (false))) (some (false))) (some (false))) (some (false))) (some (false))) (some (false))) (some (false))) (some (false))
set_option maxRecDepth 100000 in
set_option maxHeartbeats 1000000 in
theorem haywainlaw13_knows.con (K : Nat) (r : Bool) (X : Nat → Nat → Prop) (w : World) (hS : St X w [] [] [] [] [] w) (H : haywainlaw13_knows.f K = some r) :
    Cn Try.prog 10 [] X w [] (fun i : Unit => .bool r) (fun i => []) (fun i => []) (fun i => []) := by
  refine Cn.of Try.func10 (by kernel_rfl) hS ?_
  unfold haywainlaw13_knows.f at H
  refine J.seq (by kernel_rfl) ?_
  refine J.region (by kernel_rfl) ?_
  refine O.pure 1 [] [] [] (fr' := []) (bx' := []) (by kernel_rfl) ?_
  refine O.nil (by kernel_rfl) ?_
  refine J.seq (by kernel_rfl) ?_
  obtain ⟨x1_3, hx1_3, H⟩ := bindE H
  refine J.region (by kernel_rfl) ?_
  refine O.pure 1 [] [12] [] (fr' := [(12, .agg #[.slice none 0 0])]) (bx' := []) (by kernel_rfl) ?_
  refine O.e (some 13) (Ev.lit (t := 30) (len := 2) (parts := #[(0, .const (.int .u8 120)), (1, .const (.int .u8 121))]) (ps := [(0, .int .u8 120), (1, .int .u8 121)]) (cs := [.int .u8 120, .int .u8 121]) (e := 5) (Kd.int .u8) ([120, 121] : List Int) (by kernel_rfl) (by kernel_rfl) (by kernel_rfl) (by kernel_rfl) (by kernel_rfl) (by decide) (fun w' hφ => (Els.cons (c := [.int .u8 120]) (rfl) (Els.cons (c := [.int .u8 121]) (rfl) (Els.nil _ _ _))))) (by kernel_rfl) (fun p1_1 => ?_)
  refine O.e (some 14) (Ev.mark (t := 30) (e := 5) (x := .tmp 13) (g := p1_1) (m := 2) (c := 2) (xs := ([120, 121] : List Int)) (by kernel_rfl) (by kernel_rfl) (by kernel_rfl) (by kernel_rfl) rfl) (by kernel_rfl) (fun _ => ?_)
  refine O.e (some 15) (Ev.mono (fun w hS => hS.add (fun w' _ => Rd.nil kd43 w')) (Ev.call0 (xs := [.tmp 12, .const (.string (⟨#[97]⟩ : ByteArray)), .tmp 14]) [0, 1] (by kernel_rfl) (by kernel_rfl) (fun w hS => disk_Put.con K (⟨([] : List S43)⟩ : S24) (⟨#[97]⟩ : ByteArray) ([120, 121] : List Int) (none, 0) ((some ⟨p1_1, 0, none⟩, 2) : Hd)  _ _ w hS hx1_3))) (by kernel_rfl) (fun p1_3 => ?_)
  refine O.pure 3 [] [16, 17] [] (fr' := [(16, .agg #[.slice p1_3.1 x1_3.1.f0.length p1_3.2]), (17, .int .i64 x1_3.2)]) (bx' := []) (by kernel_rfl) ?_
  refine O.e (some 1) (Ev.alloc (t := 24) (z := .agg #[.slice none 0 0]) (by kernel_rfl) (by kernel_rfl)) (by kernel_rfl) (fun p1_7 => ?_)
  refine O.pure 2 [(0, 0)] [1] [p1_7, 0] (fr' := [(1, .pointer (some ⟨p1_7, 0, none⟩))]) (bx' := [⟨p1_7, [.slice p1_3.1 x1_3.1.f0.length p1_3.2], 24⟩]) (by kernel_rfl) ?_
  refine O.nil (by kernel_rfl) ?_
  refine J.seq (by kernel_rfl) ?_
  obtain ⟨x2_1, hx2_1, H⟩ := bindE H
  refine J.region (by kernel_rfl) ?_
  refine O.pure 1 [(0, 0)] [1, 19] [p1_7, 0] (fr' := [(1, .pointer (some ⟨p1_7, 0, none⟩)), (19, .agg #[.slice p1_3.1 x1_3.1.f0.length p1_3.2])]) (bx' := [⟨p1_7, [.slice p1_3.1 x1_3.1.f0.length p1_3.2], 24⟩]) (by kernel_rfl) ?_
  refine O.e (some 20) (Ev.mono (fun w hS => hS.freezeH (h := p1_3) (xs := x1_3.1.f0)) (Ev.call0 (xs := [.tmp 19, .const (.string (⟨#[97]⟩ : ByteArray))]) [0] (by kernel_rfl) (by kernel_rfl) (fun w hS => disk_Sync.con K x1_3.1 (⟨#[97]⟩ : ByteArray) p1_3  _ _ w hS hx2_1))) (by kernel_rfl) (fun p2_1 => ?_)
  refine O.pure 5 [(0, 0)] [1, 3] [p1_7, 0] (fr' := [(1, .pointer (some ⟨p1_7, 0, none⟩)), (3, .int .i64 x2_1.2)]) (bx' := [⟨p1_7, [.slice p2_1.1 x2_1.1.f0.length p2_1.2], 24⟩]) (by kernel_rfl) ?_
  refine O.nil (by kernel_rfl) ?_
  refine J.seq (by kernel_rfl) ?_
  obtain ⟨x3_3, hx3_3, H⟩ := bindE H
  refine J.region (by kernel_rfl) ?_
  refine O.pure 1 [(0, 0)] [1, 3, 24] [p1_7, 0] (fr' := [(1, .pointer (some ⟨p1_7, 0, none⟩)), (3, .int .i64 x2_1.2), (24, .agg #[.slice p2_1.1 x2_1.1.f0.length p2_1.2])]) (bx' := [⟨p1_7, [.slice p2_1.1 x2_1.1.f0.length p2_1.2], 24⟩]) (by kernel_rfl) ?_
  refine O.e (some 25) (Ev.lit (t := 30) (len := 2) (parts := #[(0, .const (.int .u8 122)), (1, .const (.int .u8 119))]) (ps := [(0, .int .u8 122), (1, .int .u8 119)]) (cs := [.int .u8 122, .int .u8 119]) (e := 5) (Kd.int .u8) ([122, 119] : List Int) (by kernel_rfl) (by kernel_rfl) (by kernel_rfl) (by kernel_rfl) (by kernel_rfl) (by decide) (fun w' hφ => (Els.cons (c := [.int .u8 122]) (rfl) (Els.cons (c := [.int .u8 119]) (rfl) (Els.nil _ _ _))))) (by kernel_rfl) (fun p3_1 => ?_)
  refine O.e (some 26) (Ev.mark (t := 30) (e := 5) (x := .tmp 25) (g := p3_1) (m := 2) (c := 2) (xs := ([122, 119] : List Int)) (by kernel_rfl) (by kernel_rfl) (by kernel_rfl) (by kernel_rfl) rfl) (by kernel_rfl) (fun _ => ?_)
  refine O.e (some 27) (Ev.mono (fun w hS => hS.freezeH (h := p2_1) (xs := x2_1.1.f0)) (Ev.call0 (xs := [.tmp 24, .const (.string (⟨#[97]⟩ : ByteArray)), .tmp 26]) [0, 1] (by kernel_rfl) (by kernel_rfl) (fun w hS => disk_Put.con K x2_1.1 (⟨#[97]⟩ : ByteArray) ([122, 119] : List Int) p2_1 ((some ⟨p3_1, 0, none⟩, 2) : Hd)  _ _ w hS hx3_3))) (by kernel_rfl) (fun p3_3 => ?_)
  refine O.pure 5 [(0, 0)] [1, 3, 4] [p1_7, 0] (fr' := [(1, .pointer (some ⟨p1_7, 0, none⟩)), (3, .int .i64 x2_1.2), (4, .int .i64 x3_3.2)]) (bx' := [⟨p1_7, [.slice p3_3.1 x3_3.1.f0.length p3_3.2], 24⟩]) (by kernel_rfl) ?_
  refine O.nil (by kernel_rfl) ?_
  refine J.seq (by kernel_rfl) ?_
  obtain ⟨x4_1, hx4_1, H⟩ := bindE H
  refine J.region (by kernel_rfl) ?_
  refine O.pure 1 [(0, 0)] [1, 3, 4, 31] [p1_7, 0] (fr' := [(1, .pointer (some ⟨p1_7, 0, none⟩)), (3, .int .i64 x2_1.2), (4, .int .i64 x3_3.2), (31, .agg #[.slice p3_3.1 x3_3.1.f0.length p3_3.2])]) (bx' := [⟨p1_7, [.slice p3_3.1 x3_3.1.f0.length p3_3.2], 24⟩]) (by kernel_rfl) ?_
  refine O.e (some 32) (Ev.mono (fun w hS => hS.freezeH (h := p3_3) (xs := x3_3.1.f0)) (Ev.call0 (xs := [.tmp 31, .const (.string (⟨#[97]⟩ : ByteArray))]) [0] (by kernel_rfl) (by kernel_rfl) (fun w hS => disk_Get.con K x3_3.1 (⟨#[97]⟩ : ByteArray) p3_3  _ _ w hS hx4_1))) (by kernel_rfl) (fun p4_1 => ?_)
  refine O.pure 5 [] [1, 3, 4, 5, 6] [] (fr' := [(1, .pointer (some ⟨p1_7, 0, none⟩)), (3, .int .i64 x2_1.2), (4, .int .i64 x3_3.2), (5, .slice p4_1.1 x4_1.1.length p4_1.2), (6, .int .i64 x4_1.2)]) (bx' := [⟨p1_7, [.slice p3_3.1 x3_3.1.f0.length p3_3.2], 24⟩]) (by kernel_rfl) ?_
  refine O.nil (by kernel_rfl) ?_
  refine J.seq (by kernel_rfl) ?_
  obtain ⟨x5_2, hx5_2, H⟩ := bindE H
  obtain ⟨x5_3, hx5_3, H⟩ := bindE H
  refine J.region (by kernel_rfl) ?_
  refine O.pure 1 [(0, 0)] [1, 3, 4, 5, 6, 36] [p1_7, 0] (fr' := [(1, .pointer (some ⟨p1_7, 0, none⟩)), (3, .int .i64 x2_1.2), (4, .int .i64 x3_3.2), (5, .slice p4_1.1 x4_1.1.length p4_1.2), (6, .int .i64 x4_1.2), (36, .agg #[.slice p3_3.1 x3_3.1.f0.length p3_3.2])]) (bx' := [⟨p1_7, [.slice p3_3.1 x3_3.1.f0.length p3_3.2], 24⟩]) (by kernel_rfl) ?_
  refine O.e (some 37) (Ev.lit (t := 41) (len := 1) (parts := #[(0, .const (.int .i64 1))]) (ps := [(0, .int .i64 1)]) (cs := [.int .i64 1]) (e := 3) (Kd.int .i64) ([1] : List Int) (by kernel_rfl) (by kernel_rfl) (by kernel_rfl) (by kernel_rfl) (by kernel_rfl) (by decide) (fun w' hφ => (Els.cons (c := [.int .i64 1]) (rfl) (Els.nil _ _ _)))) (by kernel_rfl) (fun p5_1 => ?_)
  refine O.e (some 38) (Ev.mono (fun w hS => hS.freezeH (h := ((some ⟨p5_1, 0, none⟩, 1) : Hd)) (xs := ([1] : List Int))) (Ev.call0 (xs := [.tmp 36, .tmp 37]) [2, 0] (by kernel_rfl) (by kernel_rfl) (fun w hS => disk_Crash.con K x3_3.1 ([1] : List Int) p3_3 ((some ⟨p5_1, 0, none⟩, 1) : Hd)  _ _ w hS hx5_2))) (by kernel_rfl) (fun p5_2 => ?_)
  refine O.e (some 39) (Ev.mono (fun w hS => hS.freezeH (h := p5_2) (xs := x5_2.f0)) (Ev.call0 (xs := [.tmp 38, .const (.string (⟨#[97]⟩ : ByteArray))]) [0] (by kernel_rfl) (by kernel_rfl) (fun w hS => disk_Get.con K x5_2 (⟨#[97]⟩ : ByteArray) p5_2  _ _ w hS hx5_3))) (by kernel_rfl) (fun p5_3 => ?_)
  refine O.pure 5 [] [1, 3, 4, 5, 6, 7, 8] [] (fr' := [(1, .pointer (some ⟨p1_7, 0, none⟩)), (3, .int .i64 x2_1.2), (4, .int .i64 x3_3.2), (5, .slice p4_1.1 x4_1.1.length p4_1.2), (6, .int .i64 x4_1.2), (7, .slice p5_3.1 x5_3.1.length p5_3.2), (8, .int .i64 x5_3.2)]) (bx' := [⟨p1_7, [.slice p3_3.1 x3_3.1.f0.length p3_3.2], 24⟩]) (by kernel_rfl) ?_
  refine O.nil (by kernel_rfl) ?_
  refine J.seq (by kernel_rfl) ?_
  obtain ⟨x6_1, hx6_1, H⟩ := bindE H
  obtain ⟨x6_2, hx6_2, H⟩ := bindE H
  refine J.region (by kernel_rfl) ?_
  refine O.pure 1 [(0, 0)] [1, 3, 4, 5, 6, 7, 8, 43] [p1_7, 0] (fr' := [(1, .pointer (some ⟨p1_7, 0, none⟩)), (3, .int .i64 x2_1.2), (4, .int .i64 x3_3.2), (5, .slice p4_1.1 x4_1.1.length p4_1.2), (6, .int .i64 x4_1.2), (7, .slice p5_3.1 x5_3.1.length p5_3.2), (8, .int .i64 x5_3.2), (43, .agg #[.slice p3_3.1 x3_3.1.f0.length p3_3.2])]) (bx' := [⟨p1_7, [.slice p3_3.1 x3_3.1.f0.length p3_3.2], 24⟩]) (by kernel_rfl) ?_
  refine O.e (some 44) (Ev.mono (fun w hS => hS.add (fun w' _ => Rd.nil (Kd.int .i64) w')) (Ev.call0 (xs := [.tmp 43, .const (.slice none 0 0)]) [5, 0] (by kernel_rfl) (by kernel_rfl) (fun w hS => disk_Crash.con K x3_3.1 ([] : List Int) p3_3 (none, 0)  _ _ w hS hx6_1))) (by kernel_rfl) (fun p6_1 => ?_)
  refine O.e (some 45) (Ev.mono (fun w hS => hS.freezeH (h := p6_1) (xs := x6_1.f0)) (Ev.call0 (xs := [.tmp 44, .const (.string (⟨#[97]⟩ : ByteArray))]) [0] (by kernel_rfl) (by kernel_rfl) (fun w hS => disk_Get.con K x6_1 (⟨#[97]⟩ : ByteArray) p6_1  _ _ w hS hx6_2))) (by kernel_rfl) (fun p6_2 => ?_)
  refine O.pure 5 [] [1, 3, 4, 5, 6, 7, 8, 9] [] (fr' := [(1, .pointer (some ⟨p1_7, 0, none⟩)), (3, .int .i64 x2_1.2), (4, .int .i64 x3_3.2), (5, .slice p4_1.1 x4_1.1.length p4_1.2), (6, .int .i64 x4_1.2), (7, .slice p5_3.1 x5_3.1.length p5_3.2), (8, .int .i64 x5_3.2), (9, .slice p6_2.1 x6_2.1.length p6_2.2)]) (bx' := [⟨p1_7, [.slice p3_3.1 x3_3.1.f0.length p3_3.2], 24⟩]) (by kernel_rfl) ?_
  refine O.nil (by kernel_rfl) ?_
  refine J.seq (by kernel_rfl) ?_
  rcases condE H with ⟨hc1, H⟩ | ⟨hc1, H⟩
  · rcases condE H with ⟨hc2, H⟩ | ⟨hc2, H⟩
    · rcases condE H with ⟨hc3, H⟩ | ⟨hc3, H⟩
      · rcases condE H with ⟨hc4, H⟩ | ⟨hc4, H⟩
        · rcases condE H with ⟨hc5, H⟩ | ⟨hc5, H⟩
          · rcases condE H with ⟨hc6, H⟩ | ⟨hc6, H⟩
            · rcases condE H with ⟨hc7, H⟩ | ⟨hc7, H⟩
              · obtain ⟨x7_31, hx7_31, H⟩ := bindE H
                rcases condE H with ⟨hc8, H⟩ | ⟨hc8, H⟩
                · obtain ⟨x7_35, hx7_35, H⟩ := bindE H
                  refine J.region (by kernel_rfl) ?_
                  refine O.pure 1 [] [1, 4, 5, 6, 7, 8, 9, 48] [] (fr' := [(1, .pointer (some ⟨p1_7, 0, none⟩)), (4, .int .i64 x3_3.2), (5, .slice p4_1.1 x4_1.1.length p4_1.2), (6, .int .i64 x4_1.2), (7, .slice p5_3.1 x5_3.1.length p5_3.2), (8, .int .i64 x5_3.2), (9, .slice p6_2.1 x6_2.1.length p6_2.2), (48, .int .i64 x2_1.2)]) (bx' := [⟨p1_7, [.slice p3_3.1 x3_3.1.f0.length p3_3.2], 24⟩]) (by kernel_rfl) ?_
                  refine O.q (v := .bool true) (some 49) (Qu.eqv (u := .bool (x2_1.2 == 0)) (v := .bool true) (0, 0) [] (by kernel_rfl) (congrArg Value.bool hc1)) (by kernel_rfl) ?_
                  refine O.pure 2 [] [1, 5, 6, 7, 8, 9, 50, 51] [] (fr' := [(1, .pointer (some ⟨p1_7, 0, none⟩)), (5, .slice p4_1.1 x4_1.1.length p4_1.2), (6, .int .i64 x4_1.2), (7, .slice p5_3.1 x5_3.1.length p5_3.2), (8, .int .i64 x5_3.2), (9, .slice p6_2.1 x6_2.1.length p6_2.2), (50, .bool true), (51, .int .i64 x3_3.2)]) (bx' := [⟨p1_7, [.slice p3_3.1 x3_3.1.f0.length p3_3.2], 24⟩]) (by kernel_rfl) ?_
                  refine O.q (v := .bool true) (some 52) (Qu.eqv (u := .bool (x3_3.2 == 0)) (v := .bool true) (0, 0) [] (by kernel_rfl) (congrArg Value.bool hc2)) (by kernel_rfl) ?_
                  refine O.pure 3 [] [1, 6, 7, 8, 9, 54, 55] [] (fr' := [(1, .pointer (some ⟨p1_7, 0, none⟩)), (6, .int .i64 x4_1.2), (7, .slice p5_3.1 x5_3.1.length p5_3.2), (8, .int .i64 x5_3.2), (9, .slice p6_2.1 x6_2.1.length p6_2.2), (54, .bool true), (55, .slice p4_1.1 x4_1.1.length p4_1.2)]) (bx' := [⟨p1_7, [.slice p3_3.1 x3_3.1.f0.length p3_3.2], 24⟩]) (by kernel_rfl) ?_
                  refine O.q (v := .string (strOfNums x4_1.1)) (some 56) (Qu.str (t := 30) (u := 9) (x := .tmp 55) (h := p4_1) (xs := x4_1.1) 6 (by kernel_rfl) (by kernel_rfl) (by kernel_rfl) (by kernel_rfl) rfl) (by kernel_rfl) ?_
                  refine O.q (v := .bool true) (some 57) (Qu.eqv (u := .bool ((strOfNums x4_1.1).toList == (⟨#[120, 121, 122, 119]⟩ : ByteArray).toList)) (v := .bool true) (0, 0) [] (by kernel_rfl) (congrArg Value.bool hc3)) (by kernel_rfl) ?_
                  refine O.pure 3 [] [1, 7, 8, 9, 59, 60] [] (fr' := [(1, .pointer (some ⟨p1_7, 0, none⟩)), (7, .slice p5_3.1 x5_3.1.length p5_3.2), (8, .int .i64 x5_3.2), (9, .slice p6_2.1 x6_2.1.length p6_2.2), (59, .bool true), (60, .int .i64 x4_1.2)]) (bx' := [⟨p1_7, [.slice p3_3.1 x3_3.1.f0.length p3_3.2], 24⟩]) (by kernel_rfl) ?_
                  refine O.q (v := .bool true) (some 61) (Qu.eqv (u := .bool (x4_1.2 == 0)) (v := .bool true) (0, 0) [] (by kernel_rfl) (congrArg Value.bool hc4)) (by kernel_rfl) ?_
                  refine O.pure 3 [] [1, 8, 9, 63, 64] [] (fr' := [(1, .pointer (some ⟨p1_7, 0, none⟩)), (8, .int .i64 x5_3.2), (9, .slice p6_2.1 x6_2.1.length p6_2.2), (63, .bool true), (64, .slice p5_3.1 x5_3.1.length p5_3.2)]) (bx' := [⟨p1_7, [.slice p3_3.1 x3_3.1.f0.length p3_3.2], 24⟩]) (by kernel_rfl) ?_
                  refine O.q (v := .string (strOfNums x5_3.1)) (some 65) (Qu.str (t := 30) (u := 9) (x := .tmp 64) (h := p5_3) (xs := x5_3.1) 3 (by kernel_rfl) (by kernel_rfl) (by kernel_rfl) (by kernel_rfl) rfl) (by kernel_rfl) ?_
                  refine O.q (v := .bool true) (some 66) (Qu.eqv (u := .bool ((strOfNums x5_3.1).toList == (⟨#[120, 121, 122]⟩ : ByteArray).toList)) (v := .bool true) (0, 0) [] (by kernel_rfl) (congrArg Value.bool hc5)) (by kernel_rfl) ?_
                  refine O.pure 3 [] [1, 9, 68, 69] [] (fr' := [(1, .pointer (some ⟨p1_7, 0, none⟩)), (9, .slice p6_2.1 x6_2.1.length p6_2.2), (68, .bool true), (69, .int .i64 x5_3.2)]) (bx' := [⟨p1_7, [.slice p3_3.1 x3_3.1.f0.length p3_3.2], 24⟩]) (by kernel_rfl) ?_
                  refine O.q (v := .bool true) (some 70) (Qu.eqv (u := .bool (x5_3.2 == 0)) (v := .bool true) (0, 0) [] (by kernel_rfl) (congrArg Value.bool hc6)) (by kernel_rfl) ?_
                  refine O.pure 3 [] [1, 72, 73] [] (fr' := [(1, .pointer (some ⟨p1_7, 0, none⟩)), (72, .bool true), (73, .slice p6_2.1 x6_2.1.length p6_2.2)]) (bx' := [⟨p1_7, [.slice p3_3.1 x3_3.1.f0.length p3_3.2], 24⟩]) (by kernel_rfl) ?_
                  refine O.q (v := .string (strOfNums x6_2.1)) (some 74) (Qu.str (t := 30) (u := 9) (x := .tmp 73) (h := p6_2) (xs := x6_2.1) 0 (by kernel_rfl) (by kernel_rfl) (by kernel_rfl) (by kernel_rfl) rfl) (by kernel_rfl) ?_
                  refine O.q (v := .bool true) (some 75) (Qu.eqv (u := .bool ((strOfNums x6_2.1).toList == (⟨#[120, 121]⟩ : ByteArray).toList)) (v := .bool true) (0, 0) [] (by kernel_rfl) (congrArg Value.bool hc7)) (by kernel_rfl) ?_
                  refine O.pure 3 [(0, 0)] [1, 77, 78] [p1_7, 0] (fr' := [(1, .pointer (some ⟨p1_7, 0, none⟩)), (77, .bool true), (78, .agg #[.slice p3_3.1 x3_3.1.f0.length p3_3.2])]) (bx' := [⟨p1_7, [.slice p3_3.1 x3_3.1.f0.length p3_3.2], 24⟩]) (by kernel_rfl) ?_
                  refine O.e (some 79) (Ev.call0 (xs := [.tmp 78]) [7] (by kernel_rfl) (by kernel_rfl) (fun w hS => disk_Right.con K x3_3.1 p3_3  _ _ w hS hx7_31)) (by kernel_rfl) (fun _ => ?_)
                  refine O.q (v := .bool true) (some 80) (Qu.eqv (u := .bool x7_31) (v := .bool true) (0, 0) [] (by kernel_rfl) (congrArg Value.bool hc8)) (by kernel_rfl) ?_
                  refine O.pure 2 [(0, 0)] [81, 82] [p1_7, 0] (fr' := [(81, .bool true), (82, .agg #[.slice p3_3.1 x3_3.1.f0.length p3_3.2])]) (bx' := [⟨p1_7, [.slice p3_3.1 x3_3.1.f0.length p3_3.2], 24⟩]) (by kernel_rfl) ?_
                  refine O.e (some 83) (Ev.call0 (xs := [.tmp 82]) [7] (by kernel_rfl) (by kernel_rfl) (fun w hS => disk_Names.con K x3_3.1 p3_3  _ _ w hS hx7_35)) (by kernel_rfl) (fun p7_35 => ?_)
                  refine O.pure 4 [] [0] [] (fr' := [(0, .bool ((x7_35.length : Int) == 1))]) (bx' := [⟨p1_7, [.slice p3_3.1 x3_3.1.f0.length p3_3.2], 24⟩]) (by kernel_rfl) ?_
                  refine O.nil (by kernel_rfl) ?_
                  obtain rfl := Option.some.inj H
                  exact J.doneS [] [] [] [] [] () (vs := [.bool ((x7_35.length : Int) == 1)]) (by kernel_rfl) (by kernel_rfl) (by kernel_rfl) (by kernel_rfl) (by kernel_rfl) (by decide)
                · refine J.region (by kernel_rfl) ?_
                  refine O.pure 1 [] [1, 4, 5, 6, 7, 8, 9, 48] [] (fr' := [(1, .pointer (some ⟨p1_7, 0, none⟩)), (4, .int .i64 x3_3.2), (5, .slice p4_1.1 x4_1.1.length p4_1.2), (6, .int .i64 x4_1.2), (7, .slice p5_3.1 x5_3.1.length p5_3.2), (8, .int .i64 x5_3.2), (9, .slice p6_2.1 x6_2.1.length p6_2.2), (48, .int .i64 x2_1.2)]) (bx' := [⟨p1_7, [.slice p3_3.1 x3_3.1.f0.length p3_3.2], 24⟩]) (by kernel_rfl) ?_
                  refine O.q (v := .bool true) (some 49) (Qu.eqv (u := .bool (x2_1.2 == 0)) (v := .bool true) (0, 0) [] (by kernel_rfl) (congrArg Value.bool hc1)) (by kernel_rfl) ?_
                  refine O.pure 2 [] [1, 5, 6, 7, 8, 9, 50, 51] [] (fr' := [(1, .pointer (some ⟨p1_7, 0, none⟩)), (5, .slice p4_1.1 x4_1.1.length p4_1.2), (6, .int .i64 x4_1.2), (7, .slice p5_3.1 x5_3.1.length p5_3.2), (8, .int .i64 x5_3.2), (9, .slice p6_2.1 x6_2.1.length p6_2.2), (50, .bool true), (51, .int .i64 x3_3.2)]) (bx' := [⟨p1_7, [.slice p3_3.1 x3_3.1.f0.length p3_3.2], 24⟩]) (by kernel_rfl) ?_
                  refine O.q (v := .bool true) (some 52) (Qu.eqv (u := .bool (x3_3.2 == 0)) (v := .bool true) (0, 0) [] (by kernel_rfl) (congrArg Value.bool hc2)) (by kernel_rfl) ?_
                  refine O.pure 3 [] [1, 6, 7, 8, 9, 54, 55] [] (fr' := [(1, .pointer (some ⟨p1_7, 0, none⟩)), (6, .int .i64 x4_1.2), (7, .slice p5_3.1 x5_3.1.length p5_3.2), (8, .int .i64 x5_3.2), (9, .slice p6_2.1 x6_2.1.length p6_2.2), (54, .bool true), (55, .slice p4_1.1 x4_1.1.length p4_1.2)]) (bx' := [⟨p1_7, [.slice p3_3.1 x3_3.1.f0.length p3_3.2], 24⟩]) (by kernel_rfl) ?_
                  refine O.q (v := .string (strOfNums x4_1.1)) (some 56) (Qu.str (t := 30) (u := 9) (x := .tmp 55) (h := p4_1) (xs := x4_1.1) 6 (by kernel_rfl) (by kernel_rfl) (by kernel_rfl) (by kernel_rfl) rfl) (by kernel_rfl) ?_
                  refine O.q (v := .bool true) (some 57) (Qu.eqv (u := .bool ((strOfNums x4_1.1).toList == (⟨#[120, 121, 122, 119]⟩ : ByteArray).toList)) (v := .bool true) (0, 0) [] (by kernel_rfl) (congrArg Value.bool hc3)) (by kernel_rfl) ?_
                  refine O.pure 3 [] [1, 7, 8, 9, 59, 60] [] (fr' := [(1, .pointer (some ⟨p1_7, 0, none⟩)), (7, .slice p5_3.1 x5_3.1.length p5_3.2), (8, .int .i64 x5_3.2), (9, .slice p6_2.1 x6_2.1.length p6_2.2), (59, .bool true), (60, .int .i64 x4_1.2)]) (bx' := [⟨p1_7, [.slice p3_3.1 x3_3.1.f0.length p3_3.2], 24⟩]) (by kernel_rfl) ?_
                  refine O.q (v := .bool true) (some 61) (Qu.eqv (u := .bool (x4_1.2 == 0)) (v := .bool true) (0, 0) [] (by kernel_rfl) (congrArg Value.bool hc4)) (by kernel_rfl) ?_
                  refine O.pure 3 [] [1, 8, 9, 63, 64] [] (fr' := [(1, .pointer (some ⟨p1_7, 0, none⟩)), (8, .int .i64 x5_3.2), (9, .slice p6_2.1 x6_2.1.length p6_2.2), (63, .bool true), (64, .slice p5_3.1 x5_3.1.length p5_3.2)]) (bx' := [⟨p1_7, [.slice p3_3.1 x3_3.1.f0.length p3_3.2], 24⟩]) (by kernel_rfl) ?_
                  refine O.q (v := .string (strOfNums x5_3.1)) (some 65) (Qu.str (t := 30) (u := 9) (x := .tmp 64) (h := p5_3) (xs := x5_3.1) 3 (by kernel_rfl) (by kernel_rfl) (by kernel_rfl) (by kernel_rfl) rfl) (by kernel_rfl) ?_
                  refine O.q (v := .bool true) (some 66) (Qu.eqv (u := .bool ((strOfNums x5_3.1).toList == (⟨#[120, 121, 122]⟩ : ByteArray).toList)) (v := .bool true) (0, 0) [] (by kernel_rfl) (congrArg Value.bool hc5)) (by kernel_rfl) ?_
                  refine O.pure 3 [] [1, 9, 68, 69] [] (fr' := [(1, .pointer (some ⟨p1_7, 0, none⟩)), (9, .slice p6_2.1 x6_2.1.length p6_2.2), (68, .bool true), (69, .int .i64 x5_3.2)]) (bx' := [⟨p1_7, [.slice p3_3.1 x3_3.1.f0.length p3_3.2], 24⟩]) (by kernel_rfl) ?_
                  refine O.q (v := .bool true) (some 70) (Qu.eqv (u := .bool (x5_3.2 == 0)) (v := .bool true) (0, 0) [] (by kernel_rfl) (congrArg Value.bool hc6)) (by kernel_rfl) ?_
                  refine O.pure 3 [] [1, 72, 73] [] (fr' := [(1, .pointer (some ⟨p1_7, 0, none⟩)), (72, .bool true), (73, .slice p6_2.1 x6_2.1.length p6_2.2)]) (bx' := [⟨p1_7, [.slice p3_3.1 x3_3.1.f0.length p3_3.2], 24⟩]) (by kernel_rfl) ?_
                  refine O.q (v := .string (strOfNums x6_2.1)) (some 74) (Qu.str (t := 30) (u := 9) (x := .tmp 73) (h := p6_2) (xs := x6_2.1) 0 (by kernel_rfl) (by kernel_rfl) (by kernel_rfl) (by kernel_rfl) rfl) (by kernel_rfl) ?_
                  refine O.q (v := .bool true) (some 75) (Qu.eqv (u := .bool ((strOfNums x6_2.1).toList == (⟨#[120, 121]⟩ : ByteArray).toList)) (v := .bool true) (0, 0) [] (by kernel_rfl) (congrArg Value.bool hc7)) (by kernel_rfl) ?_
                  refine O.pure 3 [(0, 0)] [1, 77, 78] [p1_7, 0] (fr' := [(1, .pointer (some ⟨p1_7, 0, none⟩)), (77, .bool true), (78, .agg #[.slice p3_3.1 x3_3.1.f0.length p3_3.2])]) (bx' := [⟨p1_7, [.slice p3_3.1 x3_3.1.f0.length p3_3.2], 24⟩]) (by kernel_rfl) ?_
                  refine O.e (some 79) (Ev.call0 (xs := [.tmp 78]) [7] (by kernel_rfl) (by kernel_rfl) (fun w hS => disk_Right.con K x3_3.1 p3_3  _ _ w hS hx7_31)) (by kernel_rfl) (fun _ => ?_)
                  refine O.q (v := .bool false) (some 80) (Qu.eqv (u := .bool x7_31) (v := .bool false) (0, 0) [] (by kernel_rfl) (congrArg Value.bool hc8)) (by kernel_rfl) ?_
                  refine O.pure 7 [] [0] [] (fr' := [(0, .bool false)]) (bx' := [⟨p1_7, [.slice p3_3.1 x3_3.1.f0.length p3_3.2], 24⟩]) (by kernel_rfl) ?_
                  refine O.nil (by kernel_rfl) ?_
                  obtain rfl := Option.some.inj H
                  exact J.doneS [] [] [] [] [] () (vs := [.bool false]) (by kernel_rfl) (by kernel_rfl) (by kernel_rfl) (by kernel_rfl) (by kernel_rfl) (by decide)
              · refine J.region (by kernel_rfl) ?_
                refine O.pure 1 [] [1, 4, 5, 6, 7, 8, 9, 48] [] (fr' := [(1, .pointer (some ⟨p1_7, 0, none⟩)), (4, .int .i64 x3_3.2), (5, .slice p4_1.1 x4_1.1.length p4_1.2), (6, .int .i64 x4_1.2), (7, .slice p5_3.1 x5_3.1.length p5_3.2), (8, .int .i64 x5_3.2), (9, .slice p6_2.1 x6_2.1.length p6_2.2), (48, .int .i64 x2_1.2)]) (bx' := [⟨p1_7, [.slice p3_3.1 x3_3.1.f0.length p3_3.2], 24⟩]) (by kernel_rfl) ?_
                refine O.q (v := .bool true) (some 49) (Qu.eqv (u := .bool (x2_1.2 == 0)) (v := .bool true) (0, 0) [] (by kernel_rfl) (congrArg Value.bool hc1)) (by kernel_rfl) ?_
                refine O.pure 2 [] [1, 5, 6, 7, 8, 9, 50, 51] [] (fr' := [(1, .pointer (some ⟨p1_7, 0, none⟩)), (5, .slice p4_1.1 x4_1.1.length p4_1.2), (6, .int .i64 x4_1.2), (7, .slice p5_3.1 x5_3.1.length p5_3.2), (8, .int .i64 x5_3.2), (9, .slice p6_2.1 x6_2.1.length p6_2.2), (50, .bool true), (51, .int .i64 x3_3.2)]) (bx' := [⟨p1_7, [.slice p3_3.1 x3_3.1.f0.length p3_3.2], 24⟩]) (by kernel_rfl) ?_
                refine O.q (v := .bool true) (some 52) (Qu.eqv (u := .bool (x3_3.2 == 0)) (v := .bool true) (0, 0) [] (by kernel_rfl) (congrArg Value.bool hc2)) (by kernel_rfl) ?_
                refine O.pure 3 [] [1, 6, 7, 8, 9, 54, 55] [] (fr' := [(1, .pointer (some ⟨p1_7, 0, none⟩)), (6, .int .i64 x4_1.2), (7, .slice p5_3.1 x5_3.1.length p5_3.2), (8, .int .i64 x5_3.2), (9, .slice p6_2.1 x6_2.1.length p6_2.2), (54, .bool true), (55, .slice p4_1.1 x4_1.1.length p4_1.2)]) (bx' := [⟨p1_7, [.slice p3_3.1 x3_3.1.f0.length p3_3.2], 24⟩]) (by kernel_rfl) ?_
                refine O.q (v := .string (strOfNums x4_1.1)) (some 56) (Qu.str (t := 30) (u := 9) (x := .tmp 55) (h := p4_1) (xs := x4_1.1) 6 (by kernel_rfl) (by kernel_rfl) (by kernel_rfl) (by kernel_rfl) rfl) (by kernel_rfl) ?_
                refine O.q (v := .bool true) (some 57) (Qu.eqv (u := .bool ((strOfNums x4_1.1).toList == (⟨#[120, 121, 122, 119]⟩ : ByteArray).toList)) (v := .bool true) (0, 0) [] (by kernel_rfl) (congrArg Value.bool hc3)) (by kernel_rfl) ?_
                refine O.pure 3 [] [1, 7, 8, 9, 59, 60] [] (fr' := [(1, .pointer (some ⟨p1_7, 0, none⟩)), (7, .slice p5_3.1 x5_3.1.length p5_3.2), (8, .int .i64 x5_3.2), (9, .slice p6_2.1 x6_2.1.length p6_2.2), (59, .bool true), (60, .int .i64 x4_1.2)]) (bx' := [⟨p1_7, [.slice p3_3.1 x3_3.1.f0.length p3_3.2], 24⟩]) (by kernel_rfl) ?_
                refine O.q (v := .bool true) (some 61) (Qu.eqv (u := .bool (x4_1.2 == 0)) (v := .bool true) (0, 0) [] (by kernel_rfl) (congrArg Value.bool hc4)) (by kernel_rfl) ?_
                refine O.pure 3 [] [1, 8, 9, 63, 64] [] (fr' := [(1, .pointer (some ⟨p1_7, 0, none⟩)), (8, .int .i64 x5_3.2), (9, .slice p6_2.1 x6_2.1.length p6_2.2), (63, .bool true), (64, .slice p5_3.1 x5_3.1.length p5_3.2)]) (bx' := [⟨p1_7, [.slice p3_3.1 x3_3.1.f0.length p3_3.2], 24⟩]) (by kernel_rfl) ?_
                refine O.q (v := .string (strOfNums x5_3.1)) (some 65) (Qu.str (t := 30) (u := 9) (x := .tmp 64) (h := p5_3) (xs := x5_3.1) 3 (by kernel_rfl) (by kernel_rfl) (by kernel_rfl) (by kernel_rfl) rfl) (by kernel_rfl) ?_
                refine O.q (v := .bool true) (some 66) (Qu.eqv (u := .bool ((strOfNums x5_3.1).toList == (⟨#[120, 121, 122]⟩ : ByteArray).toList)) (v := .bool true) (0, 0) [] (by kernel_rfl) (congrArg Value.bool hc5)) (by kernel_rfl) ?_
                refine O.pure 3 [] [1, 9, 68, 69] [] (fr' := [(1, .pointer (some ⟨p1_7, 0, none⟩)), (9, .slice p6_2.1 x6_2.1.length p6_2.2), (68, .bool true), (69, .int .i64 x5_3.2)]) (bx' := [⟨p1_7, [.slice p3_3.1 x3_3.1.f0.length p3_3.2], 24⟩]) (by kernel_rfl) ?_
                refine O.q (v := .bool true) (some 70) (Qu.eqv (u := .bool (x5_3.2 == 0)) (v := .bool true) (0, 0) [] (by kernel_rfl) (congrArg Value.bool hc6)) (by kernel_rfl) ?_
                refine O.pure 3 [] [1, 72, 73] [] (fr' := [(1, .pointer (some ⟨p1_7, 0, none⟩)), (72, .bool true), (73, .slice p6_2.1 x6_2.1.length p6_2.2)]) (bx' := [⟨p1_7, [.slice p3_3.1 x3_3.1.f0.length p3_3.2], 24⟩]) (by kernel_rfl) ?_
                refine O.q (v := .string (strOfNums x6_2.1)) (some 74) (Qu.str (t := 30) (u := 9) (x := .tmp 73) (h := p6_2) (xs := x6_2.1) 0 (by kernel_rfl) (by kernel_rfl) (by kernel_rfl) (by kernel_rfl) rfl) (by kernel_rfl) ?_
                refine O.q (v := .bool false) (some 75) (Qu.eqv (u := .bool ((strOfNums x6_2.1).toList == (⟨#[120, 121]⟩ : ByteArray).toList)) (v := .bool false) (0, 0) [] (by kernel_rfl) (congrArg Value.bool hc7)) (by kernel_rfl) ?_
                refine O.pure 12 [] [0] [] (fr' := [(0, .bool false)]) (bx' := [⟨p1_7, [.slice p3_3.1 x3_3.1.f0.length p3_3.2], 24⟩]) (by kernel_rfl) ?_
                refine O.nil (by kernel_rfl) ?_
                obtain rfl := Option.some.inj H
                exact J.doneS [] [] [] [] [] () (vs := [.bool false]) (by kernel_rfl) (by kernel_rfl) (by kernel_rfl) (by kernel_rfl) (by kernel_rfl) (by decide)
            · refine J.region (by kernel_rfl) ?_
              refine O.pure 1 [] [1, 4, 5, 6, 7, 8, 9, 48] [] (fr' := [(1, .pointer (some ⟨p1_7, 0, none⟩)), (4, .int .i64 x3_3.2), (5, .slice p4_1.1 x4_1.1.length p4_1.2), (6, .int .i64 x4_1.2), (7, .slice p5_3.1 x5_3.1.length p5_3.2), (8, .int .i64 x5_3.2), (9, .slice p6_2.1 x6_2.1.length p6_2.2), (48, .int .i64 x2_1.2)]) (bx' := [⟨p1_7, [.slice p3_3.1 x3_3.1.f0.length p3_3.2], 24⟩]) (by kernel_rfl) ?_
              refine O.q (v := .bool true) (some 49) (Qu.eqv (u := .bool (x2_1.2 == 0)) (v := .bool true) (0, 0) [] (by kernel_rfl) (congrArg Value.bool hc1)) (by kernel_rfl) ?_
              refine O.pure 2 [] [1, 5, 6, 7, 8, 9, 50, 51] [] (fr' := [(1, .pointer (some ⟨p1_7, 0, none⟩)), (5, .slice p4_1.1 x4_1.1.length p4_1.2), (6, .int .i64 x4_1.2), (7, .slice p5_3.1 x5_3.1.length p5_3.2), (8, .int .i64 x5_3.2), (9, .slice p6_2.1 x6_2.1.length p6_2.2), (50, .bool true), (51, .int .i64 x3_3.2)]) (bx' := [⟨p1_7, [.slice p3_3.1 x3_3.1.f0.length p3_3.2], 24⟩]) (by kernel_rfl) ?_
              refine O.q (v := .bool true) (some 52) (Qu.eqv (u := .bool (x3_3.2 == 0)) (v := .bool true) (0, 0) [] (by kernel_rfl) (congrArg Value.bool hc2)) (by kernel_rfl) ?_
              refine O.pure 3 [] [1, 6, 7, 8, 9, 54, 55] [] (fr' := [(1, .pointer (some ⟨p1_7, 0, none⟩)), (6, .int .i64 x4_1.2), (7, .slice p5_3.1 x5_3.1.length p5_3.2), (8, .int .i64 x5_3.2), (9, .slice p6_2.1 x6_2.1.length p6_2.2), (54, .bool true), (55, .slice p4_1.1 x4_1.1.length p4_1.2)]) (bx' := [⟨p1_7, [.slice p3_3.1 x3_3.1.f0.length p3_3.2], 24⟩]) (by kernel_rfl) ?_
              refine O.q (v := .string (strOfNums x4_1.1)) (some 56) (Qu.str (t := 30) (u := 9) (x := .tmp 55) (h := p4_1) (xs := x4_1.1) 6 (by kernel_rfl) (by kernel_rfl) (by kernel_rfl) (by kernel_rfl) rfl) (by kernel_rfl) ?_
              refine O.q (v := .bool true) (some 57) (Qu.eqv (u := .bool ((strOfNums x4_1.1).toList == (⟨#[120, 121, 122, 119]⟩ : ByteArray).toList)) (v := .bool true) (0, 0) [] (by kernel_rfl) (congrArg Value.bool hc3)) (by kernel_rfl) ?_
              refine O.pure 3 [] [1, 7, 8, 9, 59, 60] [] (fr' := [(1, .pointer (some ⟨p1_7, 0, none⟩)), (7, .slice p5_3.1 x5_3.1.length p5_3.2), (8, .int .i64 x5_3.2), (9, .slice p6_2.1 x6_2.1.length p6_2.2), (59, .bool true), (60, .int .i64 x4_1.2)]) (bx' := [⟨p1_7, [.slice p3_3.1 x3_3.1.f0.length p3_3.2], 24⟩]) (by kernel_rfl) ?_
              refine O.q (v := .bool true) (some 61) (Qu.eqv (u := .bool (x4_1.2 == 0)) (v := .bool true) (0, 0) [] (by kernel_rfl) (congrArg Value.bool hc4)) (by kernel_rfl) ?_
              refine O.pure 3 [] [1, 8, 9, 63, 64] [] (fr' := [(1, .pointer (some ⟨p1_7, 0, none⟩)), (8, .int .i64 x5_3.2), (9, .slice p6_2.1 x6_2.1.length p6_2.2), (63, .bool true), (64, .slice p5_3.1 x5_3.1.length p5_3.2)]) (bx' := [⟨p1_7, [.slice p3_3.1 x3_3.1.f0.length p3_3.2], 24⟩]) (by kernel_rfl) ?_
              refine O.q (v := .string (strOfNums x5_3.1)) (some 65) (Qu.str (t := 30) (u := 9) (x := .tmp 64) (h := p5_3) (xs := x5_3.1) 3 (by kernel_rfl) (by kernel_rfl) (by kernel_rfl) (by kernel_rfl) rfl) (by kernel_rfl) ?_
              refine O.q (v := .bool true) (some 66) (Qu.eqv (u := .bool ((strOfNums x5_3.1).toList == (⟨#[120, 121, 122]⟩ : ByteArray).toList)) (v := .bool true) (0, 0) [] (by kernel_rfl) (congrArg Value.bool hc5)) (by kernel_rfl) ?_
              refine O.pure 3 [] [1, 9, 68, 69] [] (fr' := [(1, .pointer (some ⟨p1_7, 0, none⟩)), (9, .slice p6_2.1 x6_2.1.length p6_2.2), (68, .bool true), (69, .int .i64 x5_3.2)]) (bx' := [⟨p1_7, [.slice p3_3.1 x3_3.1.f0.length p3_3.2], 24⟩]) (by kernel_rfl) ?_
              refine O.q (v := .bool false) (some 70) (Qu.eqv (u := .bool (x5_3.2 == 0)) (v := .bool false) (0, 0) [] (by kernel_rfl) (congrArg Value.bool hc6)) (by kernel_rfl) ?_
              refine O.pure 17 [] [0] [] (fr' := [(0, .bool false)]) (bx' := [⟨p1_7, [.slice p3_3.1 x3_3.1.f0.length p3_3.2], 24⟩]) (by kernel_rfl) ?_
              refine O.nil (by kernel_rfl) ?_
              obtain rfl := Option.some.inj H
              exact J.doneS [] [] [] [] [] () (vs := [.bool false]) (by kernel_rfl) (by kernel_rfl) (by kernel_rfl) (by kernel_rfl) (by kernel_rfl) (by decide)
          · refine J.region (by kernel_rfl) ?_
            refine O.pure 1 [] [1, 4, 5, 6, 7, 8, 9, 48] [] (fr' := [(1, .pointer (some ⟨p1_7, 0, none⟩)), (4, .int .i64 x3_3.2), (5, .slice p4_1.1 x4_1.1.length p4_1.2), (6, .int .i64 x4_1.2), (7, .slice p5_3.1 x5_3.1.length p5_3.2), (8, .int .i64 x5_3.2), (9, .slice p6_2.1 x6_2.1.length p6_2.2), (48, .int .i64 x2_1.2)]) (bx' := [⟨p1_7, [.slice p3_3.1 x3_3.1.f0.length p3_3.2], 24⟩]) (by kernel_rfl) ?_
            refine O.q (v := .bool true) (some 49) (Qu.eqv (u := .bool (x2_1.2 == 0)) (v := .bool true) (0, 0) [] (by kernel_rfl) (congrArg Value.bool hc1)) (by kernel_rfl) ?_
            refine O.pure 2 [] [1, 5, 6, 7, 8, 9, 50, 51] [] (fr' := [(1, .pointer (some ⟨p1_7, 0, none⟩)), (5, .slice p4_1.1 x4_1.1.length p4_1.2), (6, .int .i64 x4_1.2), (7, .slice p5_3.1 x5_3.1.length p5_3.2), (8, .int .i64 x5_3.2), (9, .slice p6_2.1 x6_2.1.length p6_2.2), (50, .bool true), (51, .int .i64 x3_3.2)]) (bx' := [⟨p1_7, [.slice p3_3.1 x3_3.1.f0.length p3_3.2], 24⟩]) (by kernel_rfl) ?_
            refine O.q (v := .bool true) (some 52) (Qu.eqv (u := .bool (x3_3.2 == 0)) (v := .bool true) (0, 0) [] (by kernel_rfl) (congrArg Value.bool hc2)) (by kernel_rfl) ?_
            refine O.pure 3 [] [1, 6, 7, 8, 9, 54, 55] [] (fr' := [(1, .pointer (some ⟨p1_7, 0, none⟩)), (6, .int .i64 x4_1.2), (7, .slice p5_3.1 x5_3.1.length p5_3.2), (8, .int .i64 x5_3.2), (9, .slice p6_2.1 x6_2.1.length p6_2.2), (54, .bool true), (55, .slice p4_1.1 x4_1.1.length p4_1.2)]) (bx' := [⟨p1_7, [.slice p3_3.1 x3_3.1.f0.length p3_3.2], 24⟩]) (by kernel_rfl) ?_
            refine O.q (v := .string (strOfNums x4_1.1)) (some 56) (Qu.str (t := 30) (u := 9) (x := .tmp 55) (h := p4_1) (xs := x4_1.1) 6 (by kernel_rfl) (by kernel_rfl) (by kernel_rfl) (by kernel_rfl) rfl) (by kernel_rfl) ?_
            refine O.q (v := .bool true) (some 57) (Qu.eqv (u := .bool ((strOfNums x4_1.1).toList == (⟨#[120, 121, 122, 119]⟩ : ByteArray).toList)) (v := .bool true) (0, 0) [] (by kernel_rfl) (congrArg Value.bool hc3)) (by kernel_rfl) ?_
            refine O.pure 3 [] [1, 7, 8, 9, 59, 60] [] (fr' := [(1, .pointer (some ⟨p1_7, 0, none⟩)), (7, .slice p5_3.1 x5_3.1.length p5_3.2), (8, .int .i64 x5_3.2), (9, .slice p6_2.1 x6_2.1.length p6_2.2), (59, .bool true), (60, .int .i64 x4_1.2)]) (bx' := [⟨p1_7, [.slice p3_3.1 x3_3.1.f0.length p3_3.2], 24⟩]) (by kernel_rfl) ?_
            refine O.q (v := .bool true) (some 61) (Qu.eqv (u := .bool (x4_1.2 == 0)) (v := .bool true) (0, 0) [] (by kernel_rfl) (congrArg Value.bool hc4)) (by kernel_rfl) ?_
            refine O.pure 3 [] [1, 8, 9, 63, 64] [] (fr' := [(1, .pointer (some ⟨p1_7, 0, none⟩)), (8, .int .i64 x5_3.2), (9, .slice p6_2.1 x6_2.1.length p6_2.2), (63, .bool true), (64, .slice p5_3.1 x5_3.1.length p5_3.2)]) (bx' := [⟨p1_7, [.slice p3_3.1 x3_3.1.f0.length p3_3.2], 24⟩]) (by kernel_rfl) ?_
            refine O.q (v := .string (strOfNums x5_3.1)) (some 65) (Qu.str (t := 30) (u := 9) (x := .tmp 64) (h := p5_3) (xs := x5_3.1) 3 (by kernel_rfl) (by kernel_rfl) (by kernel_rfl) (by kernel_rfl) rfl) (by kernel_rfl) ?_
            refine O.q (v := .bool false) (some 66) (Qu.eqv (u := .bool ((strOfNums x5_3.1).toList == (⟨#[120, 121, 122]⟩ : ByteArray).toList)) (v := .bool false) (0, 0) [] (by kernel_rfl) (congrArg Value.bool hc5)) (by kernel_rfl) ?_
            refine O.pure 21 [] [0] [] (fr' := [(0, .bool false)]) (bx' := [⟨p1_7, [.slice p3_3.1 x3_3.1.f0.length p3_3.2], 24⟩]) (by kernel_rfl) ?_
            refine O.nil (by kernel_rfl) ?_
            obtain rfl := Option.some.inj H
            exact J.doneS [] [] [] [] [] () (vs := [.bool false]) (by kernel_rfl) (by kernel_rfl) (by kernel_rfl) (by kernel_rfl) (by kernel_rfl) (by decide)
        · refine J.region (by kernel_rfl) ?_
          refine O.pure 1 [] [1, 4, 5, 6, 7, 8, 9, 48] [] (fr' := [(1, .pointer (some ⟨p1_7, 0, none⟩)), (4, .int .i64 x3_3.2), (5, .slice p4_1.1 x4_1.1.length p4_1.2), (6, .int .i64 x4_1.2), (7, .slice p5_3.1 x5_3.1.length p5_3.2), (8, .int .i64 x5_3.2), (9, .slice p6_2.1 x6_2.1.length p6_2.2), (48, .int .i64 x2_1.2)]) (bx' := [⟨p1_7, [.slice p3_3.1 x3_3.1.f0.length p3_3.2], 24⟩]) (by kernel_rfl) ?_
          refine O.q (v := .bool true) (some 49) (Qu.eqv (u := .bool (x2_1.2 == 0)) (v := .bool true) (0, 0) [] (by kernel_rfl) (congrArg Value.bool hc1)) (by kernel_rfl) ?_
          refine O.pure 2 [] [1, 5, 6, 7, 8, 9, 50, 51] [] (fr' := [(1, .pointer (some ⟨p1_7, 0, none⟩)), (5, .slice p4_1.1 x4_1.1.length p4_1.2), (6, .int .i64 x4_1.2), (7, .slice p5_3.1 x5_3.1.length p5_3.2), (8, .int .i64 x5_3.2), (9, .slice p6_2.1 x6_2.1.length p6_2.2), (50, .bool true), (51, .int .i64 x3_3.2)]) (bx' := [⟨p1_7, [.slice p3_3.1 x3_3.1.f0.length p3_3.2], 24⟩]) (by kernel_rfl) ?_
          refine O.q (v := .bool true) (some 52) (Qu.eqv (u := .bool (x3_3.2 == 0)) (v := .bool true) (0, 0) [] (by kernel_rfl) (congrArg Value.bool hc2)) (by kernel_rfl) ?_
          refine O.pure 3 [] [1, 6, 7, 8, 9, 54, 55] [] (fr' := [(1, .pointer (some ⟨p1_7, 0, none⟩)), (6, .int .i64 x4_1.2), (7, .slice p5_3.1 x5_3.1.length p5_3.2), (8, .int .i64 x5_3.2), (9, .slice p6_2.1 x6_2.1.length p6_2.2), (54, .bool true), (55, .slice p4_1.1 x4_1.1.length p4_1.2)]) (bx' := [⟨p1_7, [.slice p3_3.1 x3_3.1.f0.length p3_3.2], 24⟩]) (by kernel_rfl) ?_
          refine O.q (v := .string (strOfNums x4_1.1)) (some 56) (Qu.str (t := 30) (u := 9) (x := .tmp 55) (h := p4_1) (xs := x4_1.1) 6 (by kernel_rfl) (by kernel_rfl) (by kernel_rfl) (by kernel_rfl) rfl) (by kernel_rfl) ?_
          refine O.q (v := .bool true) (some 57) (Qu.eqv (u := .bool ((strOfNums x4_1.1).toList == (⟨#[120, 121, 122, 119]⟩ : ByteArray).toList)) (v := .bool true) (0, 0) [] (by kernel_rfl) (congrArg Value.bool hc3)) (by kernel_rfl) ?_
          refine O.pure 3 [] [1, 7, 8, 9, 59, 60] [] (fr' := [(1, .pointer (some ⟨p1_7, 0, none⟩)), (7, .slice p5_3.1 x5_3.1.length p5_3.2), (8, .int .i64 x5_3.2), (9, .slice p6_2.1 x6_2.1.length p6_2.2), (59, .bool true), (60, .int .i64 x4_1.2)]) (bx' := [⟨p1_7, [.slice p3_3.1 x3_3.1.f0.length p3_3.2], 24⟩]) (by kernel_rfl) ?_
          refine O.q (v := .bool false) (some 61) (Qu.eqv (u := .bool (x4_1.2 == 0)) (v := .bool false) (0, 0) [] (by kernel_rfl) (congrArg Value.bool hc4)) (by kernel_rfl) ?_
          refine O.pure 26 [] [0] [] (fr' := [(0, .bool false)]) (bx' := [⟨p1_7, [.slice p3_3.1 x3_3.1.f0.length p3_3.2], 24⟩]) (by kernel_rfl) ?_
          refine O.nil (by kernel_rfl) ?_
          obtain rfl := Option.some.inj H
          exact J.doneS [] [] [] [] [] () (vs := [.bool false]) (by kernel_rfl) (by kernel_rfl) (by kernel_rfl) (by kernel_rfl) (by kernel_rfl) (by decide)
      · refine J.region (by kernel_rfl) ?_
        refine O.pure 1 [] [1, 4, 5, 6, 7, 8, 9, 48] [] (fr' := [(1, .pointer (some ⟨p1_7, 0, none⟩)), (4, .int .i64 x3_3.2), (5, .slice p4_1.1 x4_1.1.length p4_1.2), (6, .int .i64 x4_1.2), (7, .slice p5_3.1 x5_3.1.length p5_3.2), (8, .int .i64 x5_3.2), (9, .slice p6_2.1 x6_2.1.length p6_2.2), (48, .int .i64 x2_1.2)]) (bx' := [⟨p1_7, [.slice p3_3.1 x3_3.1.f0.length p3_3.2], 24⟩]) (by kernel_rfl) ?_
        refine O.q (v := .bool true) (some 49) (Qu.eqv (u := .bool (x2_1.2 == 0)) (v := .bool true) (0, 0) [] (by kernel_rfl) (congrArg Value.bool hc1)) (by kernel_rfl) ?_
        refine O.pure 2 [] [1, 5, 6, 7, 8, 9, 50, 51] [] (fr' := [(1, .pointer (some ⟨p1_7, 0, none⟩)), (5, .slice p4_1.1 x4_1.1.length p4_1.2), (6, .int .i64 x4_1.2), (7, .slice p5_3.1 x5_3.1.length p5_3.2), (8, .int .i64 x5_3.2), (9, .slice p6_2.1 x6_2.1.length p6_2.2), (50, .bool true), (51, .int .i64 x3_3.2)]) (bx' := [⟨p1_7, [.slice p3_3.1 x3_3.1.f0.length p3_3.2], 24⟩]) (by kernel_rfl) ?_
        refine O.q (v := .bool true) (some 52) (Qu.eqv (u := .bool (x3_3.2 == 0)) (v := .bool true) (0, 0) [] (by kernel_rfl) (congrArg Value.bool hc2)) (by kernel_rfl) ?_
        refine O.pure 3 [] [1, 6, 7, 8, 9, 54, 55] [] (fr' := [(1, .pointer (some ⟨p1_7, 0, none⟩)), (6, .int .i64 x4_1.2), (7, .slice p5_3.1 x5_3.1.length p5_3.2), (8, .int .i64 x5_3.2), (9, .slice p6_2.1 x6_2.1.length p6_2.2), (54, .bool true), (55, .slice p4_1.1 x4_1.1.length p4_1.2)]) (bx' := [⟨p1_7, [.slice p3_3.1 x3_3.1.f0.length p3_3.2], 24⟩]) (by kernel_rfl) ?_
        refine O.q (v := .string (strOfNums x4_1.1)) (some 56) (Qu.str (t := 30) (u := 9) (x := .tmp 55) (h := p4_1) (xs := x4_1.1) 6 (by kernel_rfl) (by kernel_rfl) (by kernel_rfl) (by kernel_rfl) rfl) (by kernel_rfl) ?_
        refine O.q (v := .bool false) (some 57) (Qu.eqv (u := .bool ((strOfNums x4_1.1).toList == (⟨#[120, 121, 122, 119]⟩ : ByteArray).toList)) (v := .bool false) (0, 0) [] (by kernel_rfl) (congrArg Value.bool hc3)) (by kernel_rfl) ?_
        refine O.pure 30 [] [0] [] (fr' := [(0, .bool false)]) (bx' := [⟨p1_7, [.slice p3_3.1 x3_3.1.f0.length p3_3.2], 24⟩]) (by kernel_rfl) ?_
        refine O.nil (by kernel_rfl) ?_
        obtain rfl := Option.some.inj H
        exact J.doneS [] [] [] [] [] () (vs := [.bool false]) (by kernel_rfl) (by kernel_rfl) (by kernel_rfl) (by kernel_rfl) (by kernel_rfl) (by decide)
    · refine J.region (by kernel_rfl) ?_
      refine O.pure 1 [] [1, 4, 5, 6, 7, 8, 9, 48] [] (fr' := [(1, .pointer (some ⟨p1_7, 0, none⟩)), (4, .int .i64 x3_3.2), (5, .slice p4_1.1 x4_1.1.length p4_1.2), (6, .int .i64 x4_1.2), (7, .slice p5_3.1 x5_3.1.length p5_3.2), (8, .int .i64 x5_3.2), (9, .slice p6_2.1 x6_2.1.length p6_2.2), (48, .int .i64 x2_1.2)]) (bx' := [⟨p1_7, [.slice p3_3.1 x3_3.1.f0.length p3_3.2], 24⟩]) (by kernel_rfl) ?_
      refine O.q (v := .bool true) (some 49) (Qu.eqv (u := .bool (x2_1.2 == 0)) (v := .bool true) (0, 0) [] (by kernel_rfl) (congrArg Value.bool hc1)) (by kernel_rfl) ?_
      refine O.pure 2 [] [1, 5, 6, 7, 8, 9, 50, 51] [] (fr' := [(1, .pointer (some ⟨p1_7, 0, none⟩)), (5, .slice p4_1.1 x4_1.1.length p4_1.2), (6, .int .i64 x4_1.2), (7, .slice p5_3.1 x5_3.1.length p5_3.2), (8, .int .i64 x5_3.2), (9, .slice p6_2.1 x6_2.1.length p6_2.2), (50, .bool true), (51, .int .i64 x3_3.2)]) (bx' := [⟨p1_7, [.slice p3_3.1 x3_3.1.f0.length p3_3.2], 24⟩]) (by kernel_rfl) ?_
      refine O.q (v := .bool false) (some 52) (Qu.eqv (u := .bool (x3_3.2 == 0)) (v := .bool false) (0, 0) [] (by kernel_rfl) (congrArg Value.bool hc2)) (by kernel_rfl) ?_
      refine O.pure 35 [] [0] [] (fr' := [(0, .bool false)]) (bx' := [⟨p1_7, [.slice p3_3.1 x3_3.1.f0.length p3_3.2], 24⟩]) (by kernel_rfl) ?_
      refine O.nil (by kernel_rfl) ?_
      obtain rfl := Option.some.inj H
      exact J.doneS [] [] [] [] [] () (vs := [.bool false]) (by kernel_rfl) (by kernel_rfl) (by kernel_rfl) (by kernel_rfl) (by kernel_rfl) (by decide)
  · refine J.region (by kernel_rfl) ?_
    refine O.pure 1 [] [1, 4, 5, 6, 7, 8, 9, 48] [] (fr' := [(1, .pointer (some ⟨p1_7, 0, none⟩)), (4, .int .i64 x3_3.2), (5, .slice p4_1.1 x4_1.1.length p4_1.2), (6, .int .i64 x4_1.2), (7, .slice p5_3.1 x5_3.1.length p5_3.2), (8, .int .i64 x5_3.2), (9, .slice p6_2.1 x6_2.1.length p6_2.2), (48, .int .i64 x2_1.2)]) (bx' := [⟨p1_7, [.slice p3_3.1 x3_3.1.f0.length p3_3.2], 24⟩]) (by kernel_rfl) ?_
    refine O.q (v := .bool false) (some 49) (Qu.eqv (u := .bool (x2_1.2 == 0)) (v := .bool false) (0, 0) [] (by kernel_rfl) (congrArg Value.bool hc1)) (by kernel_rfl) ?_
    refine O.pure 38 [] [0] [] (fr' := [(0, .bool false)]) (bx' := [⟨p1_7, [.slice p3_3.1 x3_3.1.f0.length p3_3.2], 24⟩]) (by kernel_rfl) ?_
    refine O.nil (by kernel_rfl) ?_
    obtain rfl := Option.some.inj H
    exact J.doneS [] [] [] [] [] () (vs := [.bool false]) (by kernel_rfl) (by kernel_rfl) (by kernel_rfl) (by kernel_rfl) (by kernel_rfl) (by decide)
end Go.Proofs.Ytfgdceeceehmpaa.G
