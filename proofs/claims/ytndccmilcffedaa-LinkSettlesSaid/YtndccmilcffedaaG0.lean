/- Functions of the program as plain Lean, with their contracts (part 0); printed by a program of this session. -/
import Derived.Test.YtndccmilcffedaaHw
import Derived.Test.YtndccmilcffedaaProg
set_option linter.unusedVariables false
set_option linter.unusedSimpArgs false
namespace Go.Proofs.Ytndccmilcffedaa.G
open Go Go.RowKit Go.Hw
structure S71 where
  f0 : Int
  f1 : ByteArray
def kd71 : Kd S71 where
  sz := 2
  K := fun w x cs => cs = [.int .i64 x.f0, .string x.f1]
  len := by rintro w x cs rfl; rfl
  one := by rintro w x cs rfl u hu; simp at hu; rcases hu with rfl | rfl <;> rfl
  mono := by rintro w w' x cs hw rfl; exact rfl
theorem op71 (x : S71) : Lay kd71 x (fun i : Unit => [.int .i64 x.f0, .string x.f1]) (fun i => []) := by
  intro X w cs h
  exact ⟨(), h w (Away.refl _ _), by simp⟩
def wf71 (x : S71) : Prop := ((Lit.int .i64 x.f0).wf = true) ∧ (x.f1.size ≤ 140737488351232)
structure S24 where
  f0 : Int
  f1 : Int
  f2 : Int
  f3 : List S71
  f4 : Bool
def kd24 : Kd S24 where
  sz := 5
  K := fun w x cs => ∃ h3 : Hd, cs = [.int .i64 x.f0, .int .i64 x.f1, .int .i64 x.f2, .slice h3.1 x.f3.length h3.2, .bool x.f4] ∧ Rd kd71 h3.1 h3.2 x.f3 w
  len := by rintro w x cs ⟨h3, rfl, g3⟩; rfl
  one := by rintro w x cs ⟨h3, rfl, g3⟩ u hu; simp at hu; rcases hu with rfl | rfl | rfl | rfl | rfl <;> rfl
  mono := by rintro w w' x cs hw ⟨h3, rfl, g3⟩; exact ⟨h3, rfl, g3.mono hw⟩
theorem op24 (x : S24) : Lay kd24 x (fun i : Hd => [.int .i64 x.f0, .int .i64 x.f1, .int .i64 x.f2, .slice i.1 x.f3.length i.2, .bool x.f4]) (fun i => [Rd kd71 i.1 i.2 x.f3]) := by
  intro X w cs h
  obtain ⟨h3, rfl, _⟩ := h w (Away.refl _ _)
  refine ⟨h3, rfl, fun f hf w' hw => ?_⟩
  obtain ⟨k3, e, g3⟩ := h w' hw
  simp only [List.cons.injEq, Value.slice.injEq, and_true, true_and] at e
  obtain ⟨e3, e3'⟩ := e
  obtain rfl : k3 = h3 := Prod.ext e3.symm e3'.symm
  simp only [List.mem_cons, List.not_mem_nil, or_false] at hf
  rcases hf with rfl
  · exact g3
def wf24 (x : S24) : Prop := ((Lit.int .i64 x.f0).wf = true) ∧ ((Lit.int .i64 x.f1).wf = true) ∧ ((Lit.int .i64 x.f2).wf = true) ∧ (x.f3.length * 24 ≤ 140737488351232 ∧ ∀ x_ ∈ x.f3, wf71 x_) ∧ (True)
structure S37 where
  f0 : Int
  f1 : Int
  f2 : ByteArray
def kd37 : Kd S37 where
  sz := 3
  K := fun w x cs => cs = [.int .i64 x.f0, .int .i64 x.f1, .string x.f2]
  len := by rintro w x cs rfl; rfl
  one := by rintro w x cs rfl u hu; simp at hu; rcases hu with rfl | rfl | rfl <;> rfl
  mono := by rintro w w' x cs hw rfl; exact rfl
theorem op37 (x : S37) : Lay kd37 x (fun i : Unit => [.int .i64 x.f0, .int .i64 x.f1, .string x.f2]) (fun i => []) := by
  intro X w cs h
  exact ⟨(), h w (Away.refl _ _), by simp⟩
def wf37 (x : S37) : Prop := ((Lit.int .i64 x.f0).wf = true) ∧ ((Lit.int .i64 x.f1).wf = true) ∧ (x.f2.size ≤ 140737488351232)
structure S74 where
  f0 : Int
  f1 : ByteArray
def kd74 : Kd S74 where
  sz := 2
  K := fun w x cs => cs = [.int .i64 x.f0, .string x.f1]
  len := by rintro w x cs rfl; rfl
  one := by rintro w x cs rfl u hu; simp at hu; rcases hu with rfl | rfl <;> rfl
  mono := by rintro w w' x cs hw rfl; exact rfl
theorem op74 (x : S74) : Lay kd74 x (fun i : Unit => [.int .i64 x.f0, .string x.f1]) (fun i => []) := by
  intro X w cs h
  exact ⟨(), h w (Away.refl _ _), by simp⟩
def wf74 (x : S74) : Prop := ((Lit.int .i64 x.f0).wf = true) ∧ (x.f1.size ≤ 140737488351232)
structure S29 where
  f0 : Int
  f1 : Int
  f2 : Int
  f3 : List S74
  f4 : Bool
def kd29 : Kd S29 where
  sz := 5
  K := fun w x cs => ∃ h3 : Hd, cs = [.int .i64 x.f0, .int .i64 x.f1, .int .i64 x.f2, .slice h3.1 x.f3.length h3.2, .bool x.f4] ∧ Rd kd74 h3.1 h3.2 x.f3 w
  len := by rintro w x cs ⟨h3, rfl, g3⟩; rfl
  one := by rintro w x cs ⟨h3, rfl, g3⟩ u hu; simp at hu; rcases hu with rfl | rfl | rfl | rfl | rfl <;> rfl
  mono := by rintro w w' x cs hw ⟨h3, rfl, g3⟩; exact ⟨h3, rfl, g3.mono hw⟩
theorem op29 (x : S29) : Lay kd29 x (fun i : Hd => [.int .i64 x.f0, .int .i64 x.f1, .int .i64 x.f2, .slice i.1 x.f3.length i.2, .bool x.f4]) (fun i => [Rd kd74 i.1 i.2 x.f3]) := by
  intro X w cs h
  obtain ⟨h3, rfl, _⟩ := h w (Away.refl _ _)
  refine ⟨h3, rfl, fun f hf w' hw => ?_⟩
  obtain ⟨k3, e, g3⟩ := h w' hw
  simp only [List.cons.injEq, Value.slice.injEq, and_true, true_and] at e
  obtain ⟨e3, e3'⟩ := e
  obtain rfl : k3 = h3 := Prod.ext e3.symm e3'.symm
  simp only [List.mem_cons, List.not_mem_nil, or_false] at hf
  rcases hf with rfl
  · exact g3
def wf29 (x : S29) : Prop := ((Lit.int .i64 x.f0).wf = true) ∧ ((Lit.int .i64 x.f1).wf = true) ∧ ((Lit.int .i64 x.f2).wf = true) ∧ (x.f3.length * 24 ≤ 140737488351232 ∧ ∀ x_ ∈ x.f3, wf74 x_) ∧ (True)
structure S56 where
  f0 : Int
  f1 : Int
  f2 : ByteArray
def kd56 : Kd S56 where
  sz := 3
  K := fun w x cs => cs = [.int .i64 x.f0, .int .i64 x.f1, .string x.f2]
  len := by rintro w x cs rfl; rfl
  one := by rintro w x cs rfl u hu; simp at hu; rcases hu with rfl | rfl | rfl <;> rfl
  mono := by rintro w w' x cs hw rfl; exact rfl
theorem op56 (x : S56) : Lay kd56 x (fun i : Unit => [.int .i64 x.f0, .int .i64 x.f1, .string x.f2]) (fun i => []) := by
  intro X w cs h
  exact ⟨(), h w (Away.refl _ _), by simp⟩
def wf56 (x : S56) : Prop := ((Lit.int .i64 x.f0).wf = true) ∧ ((Lit.int .i64 x.f1).wf = true) ∧ (x.f2.size ≤ 140737488351232)
structure S39 where
  f0 : Int
  f1 : S37
def kd39 : Kd S39 where
  sz := 4
  K := fun w x cs => cs = [.int .i64 x.f0, .int .i64 x.f1.f0, .int .i64 x.f1.f1, .string x.f1.f2]
  len := by rintro w x cs rfl; rfl
  one := by rintro w x cs rfl u hu; simp at hu; rcases hu with rfl | rfl | rfl | rfl <;> rfl
  mono := by rintro w w' x cs hw rfl; exact rfl
theorem op39 (x : S39) : Lay kd39 x (fun i : Unit => [.int .i64 x.f0, .int .i64 x.f1.f0, .int .i64 x.f1.f1, .string x.f1.f2]) (fun i => []) := by
  intro X w cs h
  exact ⟨(), h w (Away.refl _ _), by simp⟩
def wf39 (x : S39) : Prop := ((Lit.int .i64 x.f0).wf = true) ∧ (wf37 x.f1)
structure S78 where
  f0 : S37
  f1 : Bool
def kd78 : Kd S78 where
  sz := 4
  K := fun w x cs => cs = [.int .i64 x.f0.f0, .int .i64 x.f0.f1, .string x.f0.f2, .bool x.f1]
  len := by rintro w x cs rfl; rfl
  one := by rintro w x cs rfl u hu; simp at hu; rcases hu with rfl | rfl | rfl | rfl <;> rfl
  mono := by rintro w w' x cs hw rfl; exact rfl
theorem op78 (x : S78) : Lay kd78 x (fun i : Unit => [.int .i64 x.f0.f0, .int .i64 x.f0.f1, .string x.f0.f2, .bool x.f1]) (fun i => []) := by
  intro X w cs h
  exact ⟨(), h w (Away.refl _ _), by simp⟩
def wf78 (x : S78) : Prop := (wf37 x.f0) ∧ (True)
structure S63 where
  f0 : S24
  f1 : S24
  f2 : List S78
  f3 : List ByteArray
  f4 : List ByteArray
  f5 : List ByteArray
  f6 : List ByteArray
def kd63 : Kd S63 where
  sz := 15
  K := fun w x cs => ∃ h3 h8 h10 h11 h12 h13 h14 : Hd, cs = [.int .i64 x.f0.f0, .int .i64 x.f0.f1, .int .i64 x.f0.f2, .slice h3.1 x.f0.f3.length h3.2, .bool x.f0.f4, .int .i64 x.f1.f0, .int .i64 x.f1.f1, .int .i64 x.f1.f2, .slice h8.1 x.f1.f3.length h8.2, .bool x.f1.f4, .slice h10.1 x.f2.length h10.2, .slice h11.1 x.f3.length h11.2, .slice h12.1 x.f4.length h12.2, .slice h13.1 x.f5.length h13.2, .slice h14.1 x.f6.length h14.2] ∧ Rd kd71 h3.1 h3.2 x.f0.f3 w ∧ Rd kd71 h8.1 h8.2 x.f1.f3 w ∧ Rd kd78 h10.1 h10.2 x.f2 w ∧ Rd Kd.string h11.1 h11.2 x.f3 w ∧ Rd Kd.string h12.1 h12.2 x.f4 w ∧ Rd Kd.string h13.1 h13.2 x.f5 w ∧ Rd Kd.string h14.1 h14.2 x.f6 w
  len := by rintro w x cs ⟨h3, h8, h10, h11, h12, h13, h14, rfl, g3, g8, g10, g11, g12, g13, g14⟩; rfl
  one := by rintro w x cs ⟨h3, h8, h10, h11, h12, h13, h14, rfl, g3, g8, g10, g11, g12, g13, g14⟩ u hu; simp at hu; rcases hu with rfl | rfl | rfl | rfl | rfl | rfl | rfl | rfl | rfl | rfl | rfl | rfl | rfl | rfl | rfl <;> rfl
  mono := by rintro w w' x cs hw ⟨h3, h8, h10, h11, h12, h13, h14, rfl, g3, g8, g10, g11, g12, g13, g14⟩; exact ⟨h3, h8, h10, h11, h12, h13, h14, rfl, g3.mono hw, g8.mono hw, g10.mono hw, g11.mono hw, g12.mono hw, g13.mono hw, g14.mono hw⟩
theorem op63 (x : S63) : Lay kd63 x (fun i : Hd × Hd × Hd × Hd × Hd × Hd × Hd => [.int .i64 x.f0.f0, .int .i64 x.f0.f1, .int .i64 x.f0.f2, .slice i.1.1 x.f0.f3.length i.1.2, .bool x.f0.f4, .int .i64 x.f1.f0, .int .i64 x.f1.f1, .int .i64 x.f1.f2, .slice i.2.1.1 x.f1.f3.length i.2.1.2, .bool x.f1.f4, .slice i.2.2.1.1 x.f2.length i.2.2.1.2, .slice i.2.2.2.1.1 x.f3.length i.2.2.2.1.2, .slice i.2.2.2.2.1.1 x.f4.length i.2.2.2.2.1.2, .slice i.2.2.2.2.2.1.1 x.f5.length i.2.2.2.2.2.1.2, .slice i.2.2.2.2.2.2.1 x.f6.length i.2.2.2.2.2.2.2]) (fun i => [Rd kd71 i.1.1 i.1.2 x.f0.f3, Rd kd71 i.2.1.1 i.2.1.2 x.f1.f3, Rd kd78 i.2.2.1.1 i.2.2.1.2 x.f2, Rd Kd.string i.2.2.2.1.1 i.2.2.2.1.2 x.f3, Rd Kd.string i.2.2.2.2.1.1 i.2.2.2.2.1.2 x.f4, Rd Kd.string i.2.2.2.2.2.1.1 i.2.2.2.2.2.1.2 x.f5, Rd Kd.string i.2.2.2.2.2.2.1 i.2.2.2.2.2.2.2 x.f6]) := by
  intro X w cs h
  obtain ⟨h3, h8, h10, h11, h12, h13, h14, rfl, _, _, _, _, _, _, _⟩ := h w (Away.refl _ _)
  refine ⟨(h3, h8, h10, h11, h12, h13, h14), rfl, fun f hf w' hw => ?_⟩
  obtain ⟨k3, k8, k10, k11, k12, k13, k14, e, g3, g8, g10, g11, g12, g13, g14⟩ := h w' hw
  simp only [List.cons.injEq, Value.slice.injEq, and_true, true_and] at e
  obtain ⟨⟨e3, e3'⟩, ⟨e8, e8'⟩, ⟨e10, e10'⟩, ⟨e11, e11'⟩, ⟨e12, e12'⟩, ⟨e13, e13'⟩, e14, e14'⟩ := e
  obtain rfl : k3 = h3 := Prod.ext e3.symm e3'.symm
  obtain rfl : k8 = h8 := Prod.ext e8.symm e8'.symm
  obtain rfl : k10 = h10 := Prod.ext e10.symm e10'.symm
  obtain rfl : k11 = h11 := Prod.ext e11.symm e11'.symm
  obtain rfl : k12 = h12 := Prod.ext e12.symm e12'.symm
  obtain rfl : k13 = h13 := Prod.ext e13.symm e13'.symm
  obtain rfl : k14 = h14 := Prod.ext e14.symm e14'.symm
  simp only [List.mem_cons, List.not_mem_nil, or_false] at hf
  rcases hf with rfl | rfl | rfl | rfl | rfl | rfl | rfl
  · exact g3
  · exact g8
  · exact g10
  · exact g11
  · exact g12
  · exact g13
  · exact g14
def wf63 (x : S63) : Prop := (wf24 x.f0) ∧ (wf24 x.f1) ∧ (x.f2.length * 40 ≤ 140737488351232 ∧ ∀ x_ ∈ x.f2, wf78 x_) ∧ (x.f3.length * 16 ≤ 140737488351232 ∧ ∀ x_ ∈ x.f3, x_.size ≤ 140737488351232) ∧ (x.f4.length * 16 ≤ 140737488351232 ∧ ∀ x_ ∈ x.f4, x_.size ≤ 140737488351232) ∧ (x.f5.length * 16 ≤ 140737488351232 ∧ ∀ x_ ∈ x.f5, x_.size ≤ 140737488351232) ∧ (x.f6.length * 16 ≤ 140737488351232 ∧ ∀ x_ ∈ x.f6, x_.size ≤ 140737488351232)
structure S65 where
  f0 : Int
  f1 : Int
  f2 : ByteArray
def kd65 : Kd S65 where
  sz := 3
  K := fun w x cs => cs = [.int .i64 x.f0, .int .i64 x.f1, .string x.f2]
  len := by rintro w x cs rfl; rfl
  one := by rintro w x cs rfl u hu; simp at hu; rcases hu with rfl | rfl | rfl <;> rfl
  mono := by rintro w w' x cs hw rfl; exact rfl
theorem op65 (x : S65) : Lay kd65 x (fun i : Unit => [.int .i64 x.f0, .int .i64 x.f1, .string x.f2]) (fun i => []) := by
  intro X w cs h
  exact ⟨(), h w (Away.refl _ _), by simp⟩
def wf65 (x : S65) : Prop := ((Lit.int .i64 x.f0).wf = true) ∧ ((Lit.int .i64 x.f1).wf = true) ∧ (x.f2.size ≤ 140737488351232)
/-! ### haywain/link.Right: function 11 -/
def link_Right.l9 (K : Nat) (a0 : S24) : Nat → Int → Option Bool
  | 0, _ => none
  | k + 1, s9 => cond (decide (s9 < (a0.f3.length : Int))) ((idxO a0.f3 s9).bind fun x5_1 => cond (x5_1.f0 != (IntKind.wrap .i64 ((IntKind.wrap .i64 (a0.f0 - (a0.f3.length : Int))) + s9))) (some (false)) (link_Right.l9 K a0 k (IntKind.wrap .i64 (s9 + 1)))) (some (true))
def link_Right.f (K : Nat) (a0 : S24) : Option Bool := cond (decide (a0.f0 < 1)) (some (false)) (cond (decide (a0.f0 > 1099511627776)) (some (false)) (cond (decide (a0.f1 < 1)) (some (false)) (cond (decide (a0.f1 > 1099511627776)) (some (false)) (cond (decide (a0.f2 < 0)) (some (false)) (cond (decide (a0.f2 > 3)) (some (false)) (cond (decide ((a0.f3.length : Int) > 200)) (some (false)) (cond (decide ((a0.f3.length : Int) ≥ a0.f0)) (some (false)) (link_Right.l9 K a0 K 0))))))))
set_option maxRecDepth 100000 in
set_option maxHeartbeats 1000000 in
theorem link_Right.con (K : Nat) (a0 : S24) (h0 : Hd) (r : Bool) (X : Nat → Nat → Prop) (w : World) (hS : St X w [] [] [] [] [Rd kd71 h0.1 h0.2 a0.f3] w) (H : link_Right.f K a0 = some r) :
    Cn Try.prog 11 [.agg #[.int .i64 a0.f0, .int .i64 a0.f1, .int .i64 a0.f2, .slice h0.1 a0.f3.length h0.2, .bool a0.f4]] X w [] (fun i : Unit => .bool r) (fun i => []) (fun i => []) (fun i => []) := by
  refine Cn.of Try.func11 (by kernel_rfl) hS ?_
  unfold link_Right.f at H
  refine J.seq (by kernel_rfl) ?_
  refine J.region (by kernel_rfl) ?_
  refine O.e (some 1) (Ev.box (t := 24) (x := .tmp 0) (v := .agg #[.int .i64 a0.f0, .int .i64 a0.f1, .int .i64 a0.f2, .slice h0.1 a0.f3.length h0.2, .bool a0.f4]) (by kernel_rfl) (by kernel_rfl)) (by kernel_rfl) (fun p0_0 => ?_)
  refine O.pure 1 [] [1] [] (fr' := [(1, .pointer (some ⟨p0_0, 0, none⟩))]) (bx' := [⟨p0_0, [.int .i64 a0.f0, .int .i64 a0.f1, .int .i64 a0.f2, .slice h0.1 a0.f3.length h0.2, .bool a0.f4], 24⟩]) (by kernel_rfl) ?_
  refine O.nil (by kernel_rfl) ?_
  refine J.seq (by kernel_rfl) ?_
  refine J.seq (by kernel_rfl) ?_
  rcases condE H with ⟨hc1, H⟩ | ⟨hc1, H⟩
  · refine J.region (by kernel_rfl) ?_
    refine O.pure 2 [(0, 0)] [1, 6] [p0_0, 0] (fr' := [(1, .pointer (some ⟨p0_0, 0, none⟩)), (6, .int .i64 a0.f0)]) (bx' := [⟨p0_0, [.int .i64 a0.f0, .int .i64 a0.f1, .int .i64 a0.f2, .slice h0.1 a0.f3.length h0.2, .bool a0.f4], 24⟩]) (by kernel_rfl) ?_
    refine O.q (v := .bool true) (some 7) (Qu.eqv (u := .bool (decide (a0.f0 < 1))) (v := .bool true) (0, 0) [] (by kernel_rfl) (congrArg Value.bool hc1)) (by kernel_rfl) ?_
    refine O.pure 39 [] [1, 46] [] (fr' := [(1, .pointer (some ⟨p0_0, 0, none⟩)), (46, .bool true)]) (bx' := [⟨p0_0, [.int .i64 a0.f0, .int .i64 a0.f1, .int .i64 a0.f2, .slice h0.1 a0.f3.length h0.2, .bool a0.f4], 24⟩]) (by kernel_rfl) ?_
    refine O.nil (by kernel_rfl) ?_
    refine J.cond (o := .tmp 46) true (by kernel_rfl) (by kernel_rfl) ?_
    refine J.seq (by kernel_rfl) ?_
    refine J.region (by kernel_rfl) ?_
    refine O.pure 1 [] [2] [] (fr' := [(2, .bool false)]) (bx' := [⟨p0_0, [.int .i64 a0.f0, .int .i64 a0.f1, .int .i64 a0.f2, .slice h0.1 a0.f3.length h0.2, .bool a0.f4], 24⟩]) (by kernel_rfl) ?_
    refine O.nil (by kernel_rfl) ?_
    obtain rfl := Option.some.inj H
    exact J.doneS [] [] [] [] [] () (vs := [.bool false]) (by kernel_rfl) (by kernel_rfl) (by kernel_rfl) (by kernel_rfl) (by kernel_rfl) (by decide)
  · rcases condE H with ⟨hc2, H⟩ | ⟨hc2, H⟩
    · refine J.region (by kernel_rfl) ?_
      refine O.pure 2 [(0, 0)] [1, 6] [p0_0, 0] (fr' := [(1, .pointer (some ⟨p0_0, 0, none⟩)), (6, .int .i64 a0.f0)]) (bx' := [⟨p0_0, [.int .i64 a0.f0, .int .i64 a0.f1, .int .i64 a0.f2, .slice h0.1 a0.f3.length h0.2, .bool a0.f4], 24⟩]) (by kernel_rfl) ?_
      refine O.q (v := .bool false) (some 7) (Qu.eqv (u := .bool (decide (a0.f0 < 1))) (v := .bool false) (0, 0) [] (by kernel_rfl) (congrArg Value.bool hc1)) (by kernel_rfl) ?_
      refine O.pure 3 [(0, 0)] [1, 8, 10] [p0_0, 0] (fr' := [(1, .pointer (some ⟨p0_0, 0, none⟩)), (8, .bool false), (10, .int .i64 a0.f0)]) (bx' := [⟨p0_0, [.int .i64 a0.f0, .int .i64 a0.f1, .int .i64 a0.f2, .slice h0.1 a0.f3.length h0.2, .bool a0.f4], 24⟩]) (by kernel_rfl) ?_
      refine O.q (v := .bool true) (some 11) (Qu.eqv (u := .bool (decide (a0.f0 > 1099511627776))) (v := .bool true) (0, 0) [] (by kernel_rfl) (congrArg Value.bool hc2)) (by kernel_rfl) ?_
      refine O.pure 35 [] [1, 46] [] (fr' := [(1, .pointer (some ⟨p0_0, 0, none⟩)), (46, .bool true)]) (bx' := [⟨p0_0, [.int .i64 a0.f0, .int .i64 a0.f1, .int .i64 a0.f2, .slice h0.1 a0.f3.length h0.2, .bool a0.f4], 24⟩]) (by kernel_rfl) ?_
      refine O.nil (by kernel_rfl) ?_
      refine J.cond (o := .tmp 46) true (by kernel_rfl) (by kernel_rfl) ?_
      refine J.seq (by kernel_rfl) ?_
      refine J.region (by kernel_rfl) ?_
      refine O.pure 1 [] [2] [] (fr' := [(2, .bool false)]) (bx' := [⟨p0_0, [.int .i64 a0.f0, .int .i64 a0.f1, .int .i64 a0.f2, .slice h0.1 a0.f3.length h0.2, .bool a0.f4], 24⟩]) (by kernel_rfl) ?_
      refine O.nil (by kernel_rfl) ?_
      obtain rfl := Option.some.inj H
      exact J.doneS [] [] [] [] [] () (vs := [.bool false]) (by kernel_rfl) (by kernel_rfl) (by kernel_rfl) (by kernel_rfl) (by kernel_rfl) (by decide)
    · rcases condE H with ⟨hc3, H⟩ | ⟨hc3, H⟩
      · refine J.region (by kernel_rfl) ?_
        refine O.pure 2 [(0, 0)] [1, 6] [p0_0, 0] (fr' := [(1, .pointer (some ⟨p0_0, 0, none⟩)), (6, .int .i64 a0.f0)]) (bx' := [⟨p0_0, [.int .i64 a0.f0, .int .i64 a0.f1, .int .i64 a0.f2, .slice h0.1 a0.f3.length h0.2, .bool a0.f4], 24⟩]) (by kernel_rfl) ?_
        refine O.q (v := .bool false) (some 7) (Qu.eqv (u := .bool (decide (a0.f0 < 1))) (v := .bool false) (0, 0) [] (by kernel_rfl) (congrArg Value.bool hc1)) (by kernel_rfl) ?_
        refine O.pure 3 [(0, 0)] [1, 8, 10] [p0_0, 0] (fr' := [(1, .pointer (some ⟨p0_0, 0, none⟩)), (8, .bool false), (10, .int .i64 a0.f0)]) (bx' := [⟨p0_0, [.int .i64 a0.f0, .int .i64 a0.f1, .int .i64 a0.f2, .slice h0.1 a0.f3.length h0.2, .bool a0.f4], 24⟩]) (by kernel_rfl) ?_
        refine O.q (v := .bool false) (some 11) (Qu.eqv (u := .bool (decide (a0.f0 > 1099511627776))) (v := .bool false) (0, 0) [] (by kernel_rfl) (congrArg Value.bool hc2)) (by kernel_rfl) ?_
        refine O.pure 4 [(0, 1)] [1, 13, 15] [p0_0, 1] (fr' := [(1, .pointer (some ⟨p0_0, 0, none⟩)), (13, .bool false), (15, .int .i64 a0.f1)]) (bx' := [⟨p0_0, [.int .i64 a0.f0, .int .i64 a0.f1, .int .i64 a0.f2, .slice h0.1 a0.f3.length h0.2, .bool a0.f4], 24⟩]) (by kernel_rfl) ?_
        refine O.q (v := .bool true) (some 16) (Qu.eqv (u := .bool (decide (a0.f1 < 1))) (v := .bool true) (0, 0) [] (by kernel_rfl) (congrArg Value.bool hc3)) (by kernel_rfl) ?_
        refine O.pure 30 [] [1, 46] [] (fr' := [(1, .pointer (some ⟨p0_0, 0, none⟩)), (46, .bool true)]) (bx' := [⟨p0_0, [.int .i64 a0.f0, .int .i64 a0.f1, .int .i64 a0.f2, .slice h0.1 a0.f3.length h0.2, .bool a0.f4], 24⟩]) (by kernel_rfl) ?_
        refine O.nil (by kernel_rfl) ?_
        refine J.cond (o := .tmp 46) true (by kernel_rfl) (by kernel_rfl) ?_
        refine J.seq (by kernel_rfl) ?_
        refine J.region (by kernel_rfl) ?_
        refine O.pure 1 [] [2] [] (fr' := [(2, .bool false)]) (bx' := [⟨p0_0, [.int .i64 a0.f0, .int .i64 a0.f1, .int .i64 a0.f2, .slice h0.1 a0.f3.length h0.2, .bool a0.f4], 24⟩]) (by kernel_rfl) ?_
        refine O.nil (by kernel_rfl) ?_
        obtain rfl := Option.some.inj H
        exact J.doneS [] [] [] [] [] () (vs := [.bool false]) (by kernel_rfl) (by kernel_rfl) (by kernel_rfl) (by kernel_rfl) (by kernel_rfl) (by decide)
      · rcases condE H with ⟨hc4, H⟩ | ⟨hc4, H⟩
        · refine J.region (by kernel_rfl) ?_
          refine O.pure 2 [(0, 0)] [1, 6] [p0_0, 0] (fr' := [(1, .pointer (some ⟨p0_0, 0, none⟩)), (6, .int .i64 a0.f0)]) (bx' := [⟨p0_0, [.int .i64 a0.f0, .int .i64 a0.f1, .int .i64 a0.f2, .slice h0.1 a0.f3.length h0.2, .bool a0.f4], 24⟩]) (by kernel_rfl) ?_
          refine O.q (v := .bool false) (some 7) (Qu.eqv (u := .bool (decide (a0.f0 < 1))) (v := .bool false) (0, 0) [] (by kernel_rfl) (congrArg Value.bool hc1)) (by kernel_rfl) ?_
          refine O.pure 3 [(0, 0)] [1, 8, 10] [p0_0, 0] (fr' := [(1, .pointer (some ⟨p0_0, 0, none⟩)), (8, .bool false), (10, .int .i64 a0.f0)]) (bx' := [⟨p0_0, [.int .i64 a0.f0, .int .i64 a0.f1, .int .i64 a0.f2, .slice h0.1 a0.f3.length h0.2, .bool a0.f4], 24⟩]) (by kernel_rfl) ?_
          refine O.q (v := .bool false) (some 11) (Qu.eqv (u := .bool (decide (a0.f0 > 1099511627776))) (v := .bool false) (0, 0) [] (by kernel_rfl) (congrArg Value.bool hc2)) (by kernel_rfl) ?_
          refine O.pure 4 [(0, 1)] [1, 13, 15] [p0_0, 1] (fr' := [(1, .pointer (some ⟨p0_0, 0, none⟩)), (13, .bool false), (15, .int .i64 a0.f1)]) (bx' := [⟨p0_0, [.int .i64 a0.f0, .int .i64 a0.f1, .int .i64 a0.f2, .slice h0.1 a0.f3.length h0.2, .bool a0.f4], 24⟩]) (by kernel_rfl) ?_
          refine O.q (v := .bool false) (some 16) (Qu.eqv (u := .bool (decide (a0.f1 < 1))) (v := .bool false) (0, 0) [] (by kernel_rfl) (congrArg Value.bool hc3)) (by kernel_rfl) ?_
          refine O.pure 4 [(0, 1)] [1, 18, 20] [p0_0, 1] (fr' := [(1, .pointer (some ⟨p0_0, 0, none⟩)), (18, .bool false), (20, .int .i64 a0.f1)]) (bx' := [⟨p0_0, [.int .i64 a0.f0, .int .i64 a0.f1, .int .i64 a0.f2, .slice h0.1 a0.f3.length h0.2, .bool a0.f4], 24⟩]) (by kernel_rfl) ?_
          refine O.q (v := .bool true) (some 21) (Qu.eqv (u := .bool (decide (a0.f1 > 1099511627776))) (v := .bool true) (0, 0) [] (by kernel_rfl) (congrArg Value.bool hc4)) (by kernel_rfl) ?_
          refine O.pure 25 [] [1, 46] [] (fr' := [(1, .pointer (some ⟨p0_0, 0, none⟩)), (46, .bool true)]) (bx' := [⟨p0_0, [.int .i64 a0.f0, .int .i64 a0.f1, .int .i64 a0.f2, .slice h0.1 a0.f3.length h0.2, .bool a0.f4], 24⟩]) (by kernel_rfl) ?_
          refine O.nil (by kernel_rfl) ?_
          refine J.cond (o := .tmp 46) true (by kernel_rfl) (by kernel_rfl) ?_
          refine J.seq (by kernel_rfl) ?_
          refine J.region (by kernel_rfl) ?_
          refine O.pure 1 [] [2] [] (fr' := [(2, .bool false)]) (bx' := [⟨p0_0, [.int .i64 a0.f0, .int .i64 a0.f1, .int .i64 a0.f2, .slice h0.1 a0.f3.length h0.2, .bool a0.f4], 24⟩]) (by kernel_rfl) ?_
          refine O.nil (by kernel_rfl) ?_
          obtain rfl := Option.some.inj H
          exact J.doneS [] [] [] [] [] () (vs := [.bool false]) (by kernel_rfl) (by kernel_rfl) (by kernel_rfl) (by kernel_rfl) (by kernel_rfl) (by decide)
        · rcases condE H with ⟨hc5, H⟩ | ⟨hc5, H⟩
          · refine J.region (by kernel_rfl) ?_
            refine O.pure 2 [(0, 0)] [1, 6] [p0_0, 0] (fr' := [(1, .pointer (some ⟨p0_0, 0, none⟩)), (6, .int .i64 a0.f0)]) (bx' := [⟨p0_0, [.int .i64 a0.f0, .int .i64 a0.f1, .int .i64 a0.f2, .slice h0.1 a0.f3.length h0.2, .bool a0.f4], 24⟩]) (by kernel_rfl) ?_
            refine O.q (v := .bool false) (some 7) (Qu.eqv (u := .bool (decide (a0.f0 < 1))) (v := .bool false) (0, 0) [] (by kernel_rfl) (congrArg Value.bool hc1)) (by kernel_rfl) ?_
            refine O.pure 3 [(0, 0)] [1, 8, 10] [p0_0, 0] (fr' := [(1, .pointer (some ⟨p0_0, 0, none⟩)), (8, .bool false), (10, .int .i64 a0.f0)]) (bx' := [⟨p0_0, [.int .i64 a0.f0, .int .i64 a0.f1, .int .i64 a0.f2, .slice h0.1 a0.f3.length h0.2, .bool a0.f4], 24⟩]) (by kernel_rfl) ?_
            refine O.q (v := .bool false) (some 11) (Qu.eqv (u := .bool (decide (a0.f0 > 1099511627776))) (v := .bool false) (0, 0) [] (by kernel_rfl) (congrArg Value.bool hc2)) (by kernel_rfl) ?_
            refine O.pure 4 [(0, 1)] [1, 13, 15] [p0_0, 1] (fr' := [(1, .pointer (some ⟨p0_0, 0, none⟩)), (13, .bool false), (15, .int .i64 a0.f1)]) (bx' := [⟨p0_0, [.int .i64 a0.f0, .int .i64 a0.f1, .int .i64 a0.f2, .slice h0.1 a0.f3.length h0.2, .bool a0.f4], 24⟩]) (by kernel_rfl) ?_
            refine O.q (v := .bool false) (some 16) (Qu.eqv (u := .bool (decide (a0.f1 < 1))) (v := .bool false) (0, 0) [] (by kernel_rfl) (congrArg Value.bool hc3)) (by kernel_rfl) ?_
            refine O.pure 4 [(0, 1)] [1, 18, 20] [p0_0, 1] (fr' := [(1, .pointer (some ⟨p0_0, 0, none⟩)), (18, .bool false), (20, .int .i64 a0.f1)]) (bx' := [⟨p0_0, [.int .i64 a0.f0, .int .i64 a0.f1, .int .i64 a0.f2, .slice h0.1 a0.f3.length h0.2, .bool a0.f4], 24⟩]) (by kernel_rfl) ?_
            refine O.q (v := .bool false) (some 21) (Qu.eqv (u := .bool (decide (a0.f1 > 1099511627776))) (v := .bool false) (0, 0) [] (by kernel_rfl) (congrArg Value.bool hc4)) (by kernel_rfl) ?_
            refine O.pure 4 [(0, 2)] [1, 23, 25] [p0_0, 2] (fr' := [(1, .pointer (some ⟨p0_0, 0, none⟩)), (23, .bool false), (25, .int .i64 a0.f2)]) (bx' := [⟨p0_0, [.int .i64 a0.f0, .int .i64 a0.f1, .int .i64 a0.f2, .slice h0.1 a0.f3.length h0.2, .bool a0.f4], 24⟩]) (by kernel_rfl) ?_
            refine O.q (v := .bool true) (some 26) (Qu.eqv (u := .bool (decide (a0.f2 < 0))) (v := .bool true) (0, 0) [] (by kernel_rfl) (congrArg Value.bool hc5)) (by kernel_rfl) ?_
            refine O.pure 20 [] [1, 46] [] (fr' := [(1, .pointer (some ⟨p0_0, 0, none⟩)), (46, .bool true)]) (bx' := [⟨p0_0, [.int .i64 a0.f0, .int .i64 a0.f1, .int .i64 a0.f2, .slice h0.1 a0.f3.length h0.2, .bool a0.f4], 24⟩]) (by kernel_rfl) ?_
            refine O.nil (by kernel_rfl) ?_
            refine J.cond (o := .tmp 46) true (by kernel_rfl) (by kernel_rfl) ?_
            refine J.seq (by kernel_rfl) ?_
            refine J.region (by kernel_rfl) ?_
            refine O.pure 1 [] [2] [] (fr' := [(2, .bool false)]) (bx' := [⟨p0_0, [.int .i64 a0.f0, .int .i64 a0.f1, .int .i64 a0.f2, .slice h0.1 a0.f3.length h0.2, .bool a0.f4], 24⟩]) (by kernel_rfl) ?_
            refine O.nil (by kernel_rfl) ?_
            obtain rfl := Option.some.inj H
            exact J.doneS [] [] [] [] [] () (vs := [.bool false]) (by kernel_rfl) (by kernel_rfl) (by kernel_rfl) (by kernel_rfl) (by kernel_rfl) (by decide)
          · rcases condE H with ⟨hc6, H⟩ | ⟨hc6, H⟩
            · refine J.region (by kernel_rfl) ?_
              refine O.pure 2 [(0, 0)] [1, 6] [p0_0, 0] (fr' := [(1, .pointer (some ⟨p0_0, 0, none⟩)), (6, .int .i64 a0.f0)]) (bx' := [⟨p0_0, [.int .i64 a0.f0, .int .i64 a0.f1, .int .i64 a0.f2, .slice h0.1 a0.f3.length h0.2, .bool a0.f4], 24⟩]) (by kernel_rfl) ?_
              refine O.q (v := .bool false) (some 7) (Qu.eqv (u := .bool (decide (a0.f0 < 1))) (v := .bool false) (0, 0) [] (by kernel_rfl) (congrArg Value.bool hc1)) (by kernel_rfl) ?_
              refine O.pure 3 [(0, 0)] [1, 8, 10] [p0_0, 0] (fr' := [(1, .pointer (some ⟨p0_0, 0, none⟩)), (8, .bool false), (10, .int .i64 a0.f0)]) (bx' := [⟨p0_0, [.int .i64 a0.f0, .int .i64 a0.f1, .int .i64 a0.f2, .slice h0.1 a0.f3.length h0.2, .bool a0.f4], 24⟩]) (by kernel_rfl) ?_
              refine O.q (v := .bool false) (some 11) (Qu.eqv (u := .bool (decide (a0.f0 > 1099511627776))) (v := .bool false) (0, 0) [] (by kernel_rfl) (congrArg Value.bool hc2)) (by kernel_rfl) ?_
              refine O.pure 4 [(0, 1)] [1, 13, 15] [p0_0, 1] (fr' := [(1, .pointer (some ⟨p0_0, 0, none⟩)), (13, .bool false), (15, .int .i64 a0.f1)]) (bx' := [⟨p0_0, [.int .i64 a0.f0, .int .i64 a0.f1, .int .i64 a0.f2, .slice h0.1 a0.f3.length h0.2, .bool a0.f4], 24⟩]) (by kernel_rfl) ?_
              refine O.q (v := .bool false) (some 16) (Qu.eqv (u := .bool (decide (a0.f1 < 1))) (v := .bool false) (0, 0) [] (by kernel_rfl) (congrArg Value.bool hc3)) (by kernel_rfl) ?_
              refine O.pure 4 [(0, 1)] [1, 18, 20] [p0_0, 1] (fr' := [(1, .pointer (some ⟨p0_0, 0, none⟩)), (18, .bool false), (20, .int .i64 a0.f1)]) (bx' := [⟨p0_0, [.int .i64 a0.f0, .int .i64 a0.f1, .int .i64 a0.f2, .slice h0.1 a0.f3.length h0.2, .bool a0.f4], 24⟩]) (by kernel_rfl) ?_
              refine O.q (v := .bool false) (some 21) (Qu.eqv (u := .bool (decide (a0.f1 > 1099511627776))) (v := .bool false) (0, 0) [] (by kernel_rfl) (congrArg Value.bool hc4)) (by kernel_rfl) ?_
              refine O.pure 4 [(0, 2)] [1, 23, 25] [p0_0, 2] (fr' := [(1, .pointer (some ⟨p0_0, 0, none⟩)), (23, .bool false), (25, .int .i64 a0.f2)]) (bx' := [⟨p0_0, [.int .i64 a0.f0, .int .i64 a0.f1, .int .i64 a0.f2, .slice h0.1 a0.f3.length h0.2, .bool a0.f4], 24⟩]) (by kernel_rfl) ?_
              refine O.q (v := .bool false) (some 26) (Qu.eqv (u := .bool (decide (a0.f2 < 0))) (v := .bool false) (0, 0) [] (by kernel_rfl) (congrArg Value.bool hc5)) (by kernel_rfl) ?_
              refine O.pure 4 [(0, 2)] [1, 28, 30] [p0_0, 2] (fr' := [(1, .pointer (some ⟨p0_0, 0, none⟩)), (28, .bool false), (30, .int .i64 a0.f2)]) (bx' := [⟨p0_0, [.int .i64 a0.f0, .int .i64 a0.f1, .int .i64 a0.f2, .slice h0.1 a0.f3.length h0.2, .bool a0.f4], 24⟩]) (by kernel_rfl) ?_
              refine O.q (v := .bool true) (some 31) (Qu.eqv (u := .bool (decide (a0.f2 > 3))) (v := .bool true) (0, 0) [] (by kernel_rfl) (congrArg Value.bool hc6)) (by kernel_rfl) ?_
              refine O.pure 15 [] [1, 46] [] (fr' := [(1, .pointer (some ⟨p0_0, 0, none⟩)), (46, .bool true)]) (bx' := [⟨p0_0, [.int .i64 a0.f0, .int .i64 a0.f1, .int .i64 a0.f2, .slice h0.1 a0.f3.length h0.2, .bool a0.f4], 24⟩]) (by kernel_rfl) ?_
              refine O.nil (by kernel_rfl) ?_
              refine J.cond (o := .tmp 46) true (by kernel_rfl) (by kernel_rfl) ?_
              refine J.seq (by kernel_rfl) ?_
              refine J.region (by kernel_rfl) ?_
              refine O.pure 1 [] [2] [] (fr' := [(2, .bool false)]) (bx' := [⟨p0_0, [.int .i64 a0.f0, .int .i64 a0.f1, .int .i64 a0.f2, .slice h0.1 a0.f3.length h0.2, .bool a0.f4], 24⟩]) (by kernel_rfl) ?_
              refine O.nil (by kernel_rfl) ?_
              obtain rfl := Option.some.inj H
              exact J.doneS [] [] [] [] [] () (vs := [.bool false]) (by kernel_rfl) (by kernel_rfl) (by kernel_rfl) (by kernel_rfl) (by kernel_rfl) (by decide)
            · rcases condE H with ⟨hc7, H⟩ | ⟨hc7, H⟩
              · refine J.region (by kernel_rfl) ?_
                refine O.pure 2 [(0, 0)] [1, 6] [p0_0, 0] (fr' := [(1, .pointer (some ⟨p0_0, 0, none⟩)), (6, .int .i64 a0.f0)]) (bx' := [⟨p0_0, [.int .i64 a0.f0, .int .i64 a0.f1, .int .i64 a0.f2, .slice h0.1 a0.f3.length h0.2, .bool a0.f4], 24⟩]) (by kernel_rfl) ?_
                refine O.q (v := .bool false) (some 7) (Qu.eqv (u := .bool (decide (a0.f0 < 1))) (v := .bool false) (0, 0) [] (by kernel_rfl) (congrArg Value.bool hc1)) (by kernel_rfl) ?_
                refine O.pure 3 [(0, 0)] [1, 8, 10] [p0_0, 0] (fr' := [(1, .pointer (some ⟨p0_0, 0, none⟩)), (8, .bool false), (10, .int .i64 a0.f0)]) (bx' := [⟨p0_0, [.int .i64 a0.f0, .int .i64 a0.f1, .int .i64 a0.f2, .slice h0.1 a0.f3.length h0.2, .bool a0.f4], 24⟩]) (by kernel_rfl) ?_
                refine O.q (v := .bool false) (some 11) (Qu.eqv (u := .bool (decide (a0.f0 > 1099511627776))) (v := .bool false) (0, 0) [] (by kernel_rfl) (congrArg Value.bool hc2)) (by kernel_rfl) ?_
                refine O.pure 4 [(0, 1)] [1, 13, 15] [p0_0, 1] (fr' := [(1, .pointer (some ⟨p0_0, 0, none⟩)), (13, .bool false), (15, .int .i64 a0.f1)]) (bx' := [⟨p0_0, [.int .i64 a0.f0, .int .i64 a0.f1, .int .i64 a0.f2, .slice h0.1 a0.f3.length h0.2, .bool a0.f4], 24⟩]) (by kernel_rfl) ?_
                refine O.q (v := .bool false) (some 16) (Qu.eqv (u := .bool (decide (a0.f1 < 1))) (v := .bool false) (0, 0) [] (by kernel_rfl) (congrArg Value.bool hc3)) (by kernel_rfl) ?_
                refine O.pure 4 [(0, 1)] [1, 18, 20] [p0_0, 1] (fr' := [(1, .pointer (some ⟨p0_0, 0, none⟩)), (18, .bool false), (20, .int .i64 a0.f1)]) (bx' := [⟨p0_0, [.int .i64 a0.f0, .int .i64 a0.f1, .int .i64 a0.f2, .slice h0.1 a0.f3.length h0.2, .bool a0.f4], 24⟩]) (by kernel_rfl) ?_
                refine O.q (v := .bool false) (some 21) (Qu.eqv (u := .bool (decide (a0.f1 > 1099511627776))) (v := .bool false) (0, 0) [] (by kernel_rfl) (congrArg Value.bool hc4)) (by kernel_rfl) ?_
                refine O.pure 4 [(0, 2)] [1, 23, 25] [p0_0, 2] (fr' := [(1, .pointer (some ⟨p0_0, 0, none⟩)), (23, .bool false), (25, .int .i64 a0.f2)]) (bx' := [⟨p0_0, [.int .i64 a0.f0, .int .i64 a0.f1, .int .i64 a0.f2, .slice h0.1 a0.f3.length h0.2, .bool a0.f4], 24⟩]) (by kernel_rfl) ?_
                refine O.q (v := .bool false) (some 26) (Qu.eqv (u := .bool (decide (a0.f2 < 0))) (v := .bool false) (0, 0) [] (by kernel_rfl) (congrArg Value.bool hc5)) (by kernel_rfl) ?_
                refine O.pure 4 [(0, 2)] [1, 28, 30] [p0_0, 2] (fr' := [(1, .pointer (some ⟨p0_0, 0, none⟩)), (28, .bool false), (30, .int .i64 a0.f2)]) (bx' := [⟨p0_0, [.int .i64 a0.f0, .int .i64 a0.f1, .int .i64 a0.f2, .slice h0.1 a0.f3.length h0.2, .bool a0.f4], 24⟩]) (by kernel_rfl) ?_
                refine O.q (v := .bool false) (some 31) (Qu.eqv (u := .bool (decide (a0.f2 > 3))) (v := .bool false) (0, 0) [] (by kernel_rfl) (congrArg Value.bool hc6)) (by kernel_rfl) ?_
                refine O.pure 5 [(0, 3)] [1, 33, 36] [p0_0, 3] (fr' := [(1, .pointer (some ⟨p0_0, 0, none⟩)), (33, .bool false), (36, .int .i64 (a0.f3.length : Int))]) (bx' := [⟨p0_0, [.int .i64 a0.f0, .int .i64 a0.f1, .int .i64 a0.f2, .slice h0.1 a0.f3.length h0.2, .bool a0.f4], 24⟩]) (by kernel_rfl) ?_
                refine O.q (v := .bool true) (some 37) (Qu.eqv (u := .bool (decide ((a0.f3.length : Int) > 200))) (v := .bool true) (0, 0) [] (by kernel_rfl) (congrArg Value.bool hc7)) (by kernel_rfl) ?_
                refine O.pure 9 [] [1, 46] [] (fr' := [(1, .pointer (some ⟨p0_0, 0, none⟩)), (46, .bool true)]) (bx' := [⟨p0_0, [.int .i64 a0.f0, .int .i64 a0.f1, .int .i64 a0.f2, .slice h0.1 a0.f3.length h0.2, .bool a0.f4], 24⟩]) (by kernel_rfl) ?_
                refine O.nil (by kernel_rfl) ?_
                refine J.cond (o := .tmp 46) true (by kernel_rfl) (by kernel_rfl) ?_
                refine J.seq (by kernel_rfl) ?_
                refine J.region (by kernel_rfl) ?_
                refine O.pure 1 [] [2] [] (fr' := [(2, .bool false)]) (bx' := [⟨p0_0, [.int .i64 a0.f0, .int .i64 a0.f1, .int .i64 a0.f2, .slice h0.1 a0.f3.length h0.2, .bool a0.f4], 24⟩]) (by kernel_rfl) ?_
                refine O.nil (by kernel_rfl) ?_
                obtain rfl := Option.some.inj H
                exact J.doneS [] [] [] [] [] () (vs := [.bool false]) (by kernel_rfl) (by kernel_rfl) (by kernel_rfl) (by kernel_rfl) (by kernel_rfl) (by decide)
              · refine J.region (by kernel_rfl) ?_
                refine O.pure 2 [(0, 0)] [1, 6] [p0_0, 0] (fr' := [(1, .pointer (some ⟨p0_0, 0, none⟩)), (6, .int .i64 a0.f0)]) (bx' := [⟨p0_0, [.int .i64 a0.f0, .int .i64 a0.f1, .int .i64 a0.f2, .slice h0.1 a0.f3.length h0.2, .bool a0.f4], 24⟩]) (by kernel_rfl) ?_
                refine O.q (v := .bool false) (some 7) (Qu.eqv (u := .bool (decide (a0.f0 < 1))) (v := .bool false) (0, 0) [] (by kernel_rfl) (congrArg Value.bool hc1)) (by kernel_rfl) ?_
                refine O.pure 3 [(0, 0)] [1, 8, 10] [p0_0, 0] (fr' := [(1, .pointer (some ⟨p0_0, 0, none⟩)), (8, .bool false), (10, .int .i64 a0.f0)]) (bx' := [⟨p0_0, [.int .i64 a0.f0, .int .i64 a0.f1, .int .i64 a0.f2, .slice h0.1 a0.f3.length h0.2, .bool a0.f4], 24⟩]) (by kernel_rfl) ?_
                refine O.q (v := .bool false) (some 11) (Qu.eqv (u := .bool (decide (a0.f0 > 1099511627776))) (v := .bool false) (0, 0) [] (by kernel_rfl) (congrArg Value.bool hc2)) (by kernel_rfl) ?_
                refine O.pure 4 [(0, 1)] [1, 13, 15] [p0_0, 1] (fr' := [(1, .pointer (some ⟨p0_0, 0, none⟩)), (13, .bool false), (15, .int .i64 a0.f1)]) (bx' := [⟨p0_0, [.int .i64 a0.f0, .int .i64 a0.f1, .int .i64 a0.f2, .slice h0.1 a0.f3.length h0.2, .bool a0.f4], 24⟩]) (by kernel_rfl) ?_
                refine O.q (v := .bool false) (some 16) (Qu.eqv (u := .bool (decide (a0.f1 < 1))) (v := .bool false) (0, 0) [] (by kernel_rfl) (congrArg Value.bool hc3)) (by kernel_rfl) ?_
                refine O.pure 4 [(0, 1)] [1, 18, 20] [p0_0, 1] (fr' := [(1, .pointer (some ⟨p0_0, 0, none⟩)), (18, .bool false), (20, .int .i64 a0.f1)]) (bx' := [⟨p0_0, [.int .i64 a0.f0, .int .i64 a0.f1, .int .i64 a0.f2, .slice h0.1 a0.f3.length h0.2, .bool a0.f4], 24⟩]) (by kernel_rfl) ?_
                refine O.q (v := .bool false) (some 21) (Qu.eqv (u := .bool (decide (a0.f1 > 1099511627776))) (v := .bool false) (0, 0) [] (by kernel_rfl) (congrArg Value.bool hc4)) (by kernel_rfl) ?_
                refine O.pure 4 [(0, 2)] [1, 23, 25] [p0_0, 2] (fr' := [(1, .pointer (some ⟨p0_0, 0, none⟩)), (23, .bool false), (25, .int .i64 a0.f2)]) (bx' := [⟨p0_0, [.int .i64 a0.f0, .int .i64 a0.f1, .int .i64 a0.f2, .slice h0.1 a0.f3.length h0.2, .bool a0.f4], 24⟩]) (by kernel_rfl) ?_
                refine O.q (v := .bool false) (some 26) (Qu.eqv (u := .bool (decide (a0.f2 < 0))) (v := .bool false) (0, 0) [] (by kernel_rfl) (congrArg Value.bool hc5)) (by kernel_rfl) ?_
                refine O.pure 4 [(0, 2)] [1, 28, 30] [p0_0, 2] (fr' := [(1, .pointer (some ⟨p0_0, 0, none⟩)), (28, .bool false), (30, .int .i64 a0.f2)]) (bx' := [⟨p0_0, [.int .i64 a0.f0, .int .i64 a0.f1, .int .i64 a0.f2, .slice h0.1 a0.f3.length h0.2, .bool a0.f4], 24⟩]) (by kernel_rfl) ?_
                refine O.q (v := .bool false) (some 31) (Qu.eqv (u := .bool (decide (a0.f2 > 3))) (v := .bool false) (0, 0) [] (by kernel_rfl) (congrArg Value.bool hc6)) (by kernel_rfl) ?_
                refine O.pure 5 [(0, 3)] [1, 33, 36] [p0_0, 3] (fr' := [(1, .pointer (some ⟨p0_0, 0, none⟩)), (33, .bool false), (36, .int .i64 (a0.f3.length : Int))]) (bx' := [⟨p0_0, [.int .i64 a0.f0, .int .i64 a0.f1, .int .i64 a0.f2, .slice h0.1 a0.f3.length h0.2, .bool a0.f4], 24⟩]) (by kernel_rfl) ?_
                refine O.q (v := .bool false) (some 37) (Qu.eqv (u := .bool (decide ((a0.f3.length : Int) > 200))) (v := .bool false) (0, 0) [] (by kernel_rfl) (congrArg Value.bool hc7)) (by kernel_rfl) ?_
                refine O.pure 9 [(0, 3), (0, 0)] [1, 46] [p0_0, 3, p0_0, 0] (fr' := [(1, .pointer (some ⟨p0_0, 0, none⟩)), (46, .bool (decide ((a0.f3.length : Int) ≥ a0.f0)))]) (bx' := [⟨p0_0, [.int .i64 a0.f0, .int .i64 a0.f1, .int .i64 a0.f2, .slice h0.1 a0.f3.length h0.2, .bool a0.f4], 24⟩]) (by kernel_rfl) ?_
                refine O.nil (by kernel_rfl) ?_
                rcases condE H with ⟨hc8, H⟩ | ⟨hc8, H⟩
                · refine J.condT (x := .tmp 46) (t := (decide ((a0.f3.length : Int) ≥ a0.f0))) (by kernel_rfl) (by kernel_rfl) hc8 ?_
                  refine J.seq (by kernel_rfl) ?_
                  refine J.region (by kernel_rfl) ?_
                  refine O.pure 1 [] [2] [] (fr' := [(2, .bool false)]) (bx' := [⟨p0_0, [.int .i64 a0.f0, .int .i64 a0.f1, .int .i64 a0.f2, .slice h0.1 a0.f3.length h0.2, .bool a0.f4], 24⟩]) (by kernel_rfl) ?_
                  refine O.nil (by kernel_rfl) ?_
                  obtain rfl := Option.some.inj H
                  exact J.doneS [] [] [] [] [] () (vs := [.bool false]) (by kernel_rfl) (by kernel_rfl) (by kernel_rfl) (by kernel_rfl) (by kernel_rfl) (by decide)
                · refine J.condF (x := .tmp 46) (t := (decide ((a0.f3.length : Int) ≥ a0.f0))) (by kernel_rfl) (by kernel_rfl) hc8 ?_
                  refine J.skip (by kernel_rfl) ?_
                  refine J.seq (by kernel_rfl) ?_
                  refine J.seq (by kernel_rfl) ?_
                  refine J.region (by kernel_rfl) ?_
                  refine O.pure 4 [(0, 3)] [1, 48, 49, 50] [p0_0, 3] (fr' := [(1, .pointer (some ⟨p0_0, 0, none⟩)), (48, .slice h0.1 a0.f3.length h0.2), (49, .int .i64 (a0.f3.length : Int)), (50, .int .i64 0)]) (bx' := [⟨p0_0, [.int .i64 a0.f0, .int .i64 a0.f1, .int .i64 a0.f2, .slice h0.1 a0.f3.length h0.2, .bool a0.f4], 24⟩]) (by kernel_rfl) ?_
                  refine O.nil (by kernel_rfl) ?_
                  refine J.block (id := 0) (by kernel_rfl) ?_
                  refine J.loopI (σ := Int) (γ := Unit) (f := fun m_ s_ => link_Right.l9 K a0 m_ s_) (fun s9 g9 => [(1, .pointer (some ⟨p0_0, 0, none⟩)), (48, .slice h0.1 a0.f3.length h0.2), (49, .int .i64 (a0.f3.length : Int)), (50, .int .i64 s9)]) (fun s9 g9 => St X w [] [⟨p0_0, [.int .i64 a0.f0, .int .i64 a0.f1, .int .i64 a0.f2, .slice h0.1 a0.f3.length h0.2, .bool a0.f4], 24⟩] [] [] [Rd kd71 h0.1 h0.2 a0.f3]) K 0 () (by kernel_rfl) H (fun _ => rfl) (fun m_ s9 H ih9 g9 => ?_) (fun h_ => ?_)
                  · unfold link_Right.l9 at H
                    refine J.seq (by kernel_rfl) ?_
                    refine J.region (by kernel_rfl) ?_
                    refine O.pure 1 [] [1, 48, 49, 50, 51] [] (fr' := [(1, .pointer (some ⟨p0_0, 0, none⟩)), (48, .slice h0.1 a0.f3.length h0.2), (49, .int .i64 (a0.f3.length : Int)), (50, .int .i64 s9), (51, .bool (decide (s9 < (a0.f3.length : Int))))]) (bx' := [⟨p0_0, [.int .i64 a0.f0, .int .i64 a0.f1, .int .i64 a0.f2, .slice h0.1 a0.f3.length h0.2, .bool a0.f4], 24⟩]) (by kernel_rfl) ?_
                    refine O.nil (by kernel_rfl) ?_
                    refine J.seq (by kernel_rfl) ?_
                    rcases condE H with ⟨hc14, H⟩ | ⟨hc14, H⟩
                    · refine J.condT (x := .tmp 51) (t := (decide (s9 < (a0.f3.length : Int)))) (by kernel_rfl) (by kernel_rfl) hc14 ?_
                      refine J.skip (by kernel_rfl) ?_
                      refine J.seq (by kernel_rfl) ?_
                      refine J.block (id := 1) (by kernel_rfl) ?_
                      refine J.seq (by kernel_rfl) ?_
                      obtain ⟨x5_1, hx5_1, H⟩ := bindE H
                      obtain ⟨hx5_1a, hx5_1⟩ := idxE hx5_1
                      refine J.region (by kernel_rfl) ?_
                      refine O.pure 1 [] [1, 48, 49, 50, 52] [] (fr' := [(1, .pointer (some ⟨p0_0, 0, none⟩)), (48, .slice h0.1 a0.f3.length h0.2), (49, .int .i64 (a0.f3.length : Int)), (50, .int .i64 s9), (52, .int .i64 s9)]) (bx' := [⟨p0_0, [.int .i64 a0.f0, .int .i64 a0.f1, .int .i64 a0.f2, .slice h0.1 a0.f3.length h0.2, .bool a0.f4], 24⟩]) (by kernel_rfl) ?_
                      refine O.open (d := kd71) (h := h0) (i := s9) 0 rfl hx5_1 (op71 _) (fun p5_1 hp5_1A => ?_)
                      refine O.q (v := .pointer (some ⟨p5_1.1, p5_1.2.1 + s9.toNat * 2, none⟩)) (some 53) (Qu.idx (t := 22) (x := .tmp 48) (y := .tmp 50) (c := h0.2) (kk := .i64) (sz := 2) (by kernel_rfl) (by kernel_rfl) (by kernel_rfl) (by kernel_rfl) hx5_1a (idx_lt hx5_1) hp5_1A) (by kernel_rfl) ?_
                      refine O.pure 1 [(1, 0)] [1, 48, 49, 50, 52, 54] [p5_1.1, p5_1.2.1 + s9.toNat * 2] (fr' := [(1, .pointer (some ⟨p0_0, 0, none⟩)), (48, .slice h0.1 a0.f3.length h0.2), (49, .int .i64 (a0.f3.length : Int)), (50, .int .i64 s9), (52, .int .i64 s9), (54, .agg #[.int .i64 x5_1.f0, .string x5_1.f1])]) (bx' := [⟨p0_0, [.int .i64 a0.f0, .int .i64 a0.f1, .int .i64 a0.f2, .slice h0.1 a0.f3.length h0.2, .bool a0.f4], 24⟩]) (by kernel_rfl) ?_
                      refine O.e (some 4) (Ev.alloc (t := 71) (z := .agg #[.int .i64 0, .string (⟨#[]⟩ : ByteArray)]) (by kernel_rfl) (by kernel_rfl)) (by kernel_rfl) (fun p5_3 => ?_)
                      refine O.pure 2 [(0, 0)] [1, 3, 4, 48, 49, 50] [p5_3, 0] (fr' := [(1, .pointer (some ⟨p0_0, 0, none⟩)), (3, .int .i64 s9), (4, .pointer (some ⟨p5_3, 0, none⟩)), (48, .slice h0.1 a0.f3.length h0.2), (49, .int .i64 (a0.f3.length : Int)), (50, .int .i64 s9)]) (bx' := [⟨p5_3, [.int .i64 x5_1.f0, .string x5_1.f1], 71⟩, ⟨p0_0, [.int .i64 a0.f0, .int .i64 a0.f1, .int .i64 a0.f2, .slice h0.1 a0.f3.length h0.2, .bool a0.f4], 24⟩]) (by kernel_rfl) ?_
                      refine O.nil (by kernel_rfl) ?_
                      refine J.seq (by kernel_rfl) ?_
                      refine J.region (by kernel_rfl) ?_
                      refine O.pure 11 [(0, 0), (1, 0), (1, 3)] [1, 48, 49, 50, 65] [p5_3, 0, p0_0, 0, p0_0, 3] (fr' := [(1, .pointer (some ⟨p0_0, 0, none⟩)), (48, .slice h0.1 a0.f3.length h0.2), (49, .int .i64 (a0.f3.length : Int)), (50, .int .i64 s9), (65, .bool (x5_1.f0 != (IntKind.wrap .i64 ((IntKind.wrap .i64 (a0.f0 - (a0.f3.length : Int))) + s9))))]) (bx' := [⟨p5_3, [.int .i64 x5_1.f0, .string x5_1.f1], 71⟩, ⟨p0_0, [.int .i64 a0.f0, .int .i64 a0.f1, .int .i64 a0.f2, .slice h0.1 a0.f3.length h0.2, .bool a0.f4], 24⟩]) (by kernel_rfl) ?_
                      refine O.nil (by kernel_rfl) ?_
                      rcases condE H with ⟨hc15, H⟩ | ⟨hc15, H⟩
                      · refine J.condT (x := .tmp 65) (t := (x5_1.f0 != (IntKind.wrap .i64 ((IntKind.wrap .i64 (a0.f0 - (a0.f3.length : Int))) + s9)))) (by kernel_rfl) (by kernel_rfl) hc15 ?_
                        refine J.seq (by kernel_rfl) ?_
                        refine J.region (by kernel_rfl) ?_
                        refine O.pure 1 [] [2] [] (fr' := [(2, .bool false)]) (bx' := [⟨p5_3, [.int .i64 x5_1.f0, .string x5_1.f1], 71⟩, ⟨p0_0, [.int .i64 a0.f0, .int .i64 a0.f1, .int .i64 a0.f2, .slice h0.1 a0.f3.length h0.2, .bool a0.f4], 24⟩]) (by kernel_rfl) ?_
                        refine O.nil (by kernel_rfl) ?_
                        obtain rfl := Option.some.inj H
                        exact J.doneS [] [] [] [] [] () (vs := [.bool false]) (by kernel_rfl) (by kernel_rfl) (by kernel_rfl) (by kernel_rfl) (by kernel_rfl) (by decide)
                      · refine J.condF (x := .tmp 65) (t := (x5_1.f0 != (IntKind.wrap .i64 ((IntKind.wrap .i64 (a0.f0 - (a0.f3.length : Int))) + s9)))) (by kernel_rfl) (by kernel_rfl) hc15 ?_
                        refine J.skip (by kernel_rfl) ?_
                        refine J.out ?_
                        refine J.region (by kernel_rfl) ?_
                        refine O.pure 2 [] [1, 48, 49, 50] [] (fr' := [(1, .pointer (some ⟨p0_0, 0, none⟩)), (48, .slice h0.1 a0.f3.length h0.2), (49, .int .i64 (a0.f3.length : Int)), (50, .int .i64 (IntKind.wrap .i64 (s9 + 1)))]) (bx' := [⟨p5_3, [.int .i64 x5_1.f0, .string x5_1.f1], 71⟩, ⟨p0_0, [.int .i64 a0.f0, .int .i64 a0.f1, .int .i64 a0.f2, .slice h0.1 a0.f3.length h0.2, .bool a0.f4], 24⟩]) (by kernel_rfl) ?_
                        refine O.nil (by kernel_rfl) ?_
                        exact J.conv2 [1, 48, 49, 50] [0] [1] [] (by kernel_rfl) (by kernel_rfl) (by kernel_rfl) (by kernel_rfl) (by decide) (ih9 (IntKind.wrap .i64 (s9 + 1)) () H)
                    · refine J.condF (x := .tmp 51) (t := (decide (s9 < (a0.f3.length : Int)))) (by kernel_rfl) (by kernel_rfl) hc14 ?_
                      refine J.exit (id := 0) (by kernel_rfl) rfl ?_
                      refine J.seq (by kernel_rfl) ?_
                      refine J.region (by kernel_rfl) ?_
                      refine O.pure 1 [] [2] [] (fr' := [(2, .bool true)]) (bx' := [⟨p0_0, [.int .i64 a0.f0, .int .i64 a0.f1, .int .i64 a0.f2, .slice h0.1 a0.f3.length h0.2, .bool a0.f4], 24⟩]) (by kernel_rfl) ?_
                      refine O.nil (by kernel_rfl) ?_
                      obtain rfl := Option.some.inj H
                      exact J.doneS [] [] [] [] [] () (vs := [.bool true]) (by kernel_rfl) (by kernel_rfl) (by kernel_rfl) (by kernel_rfl) (by kernel_rfl) (by decide)
                  · exact J.conv2 [1, 48, 49, 50] [0] [0] [] (by kernel_rfl) (by kernel_rfl) (by kernel_rfl) (by kernel_rfl) (by decide) h_
/-! ### haywain/link.New: function 14 -/
def link_New.f (K : Nat) : Option S24 := some ((⟨1, 1, 0, ([] : List S71), false⟩ : S24))
set_option maxRecDepth 100000 in
set_option maxHeartbeats 1000000 in
theorem link_New.con (K : Nat) (r : S24) (X : Nat → Nat → Prop) (w : World) (hS : St X w [] [] [] [] [] w) (H : link_New.f K = some r) :
    Cn Try.prog 14 [] X w [] (fun i : Hd => .agg #[.int .i64 r.f0, .int .i64 r.f1, .int .i64 r.f2, .slice i.1 r.f3.length i.2, .bool r.f4]) (fun i => []) (fun i => [mkRow kd71 71 (.slice i.1 r.f3.length i.2) r.f3]) (fun i => []) := by
  refine Cn.of Try.func14 (by kernel_rfl) hS ?_
  unfold link_New.f at H
  refine J.seq (by kernel_rfl) ?_
  refine J.region (by kernel_rfl) ?_
  refine O.e (some 0) (Ev.alloc (t := 24) (z := .agg #[.int .i64 0, .int .i64 0, .int .i64 0, .slice none 0 0, .bool false]) (by kernel_rfl) (by kernel_rfl)) (by kernel_rfl) (fun p0_0 => ?_)
  refine O.nil (by kernel_rfl) ?_
  refine J.seq (by kernel_rfl) ?_
  refine J.region (by kernel_rfl) ?_
  refine O.pure 2 [(0, 0)] [0] [p0_0, 0] (fr' := [(0, .pointer (some ⟨p0_0, 0, none⟩))]) (bx' := [⟨p0_0, [.int .i64 1, .int .i64 1, .int .i64 0, .slice none 0 0, .bool false], 24⟩]) (by kernel_rfl) ?_
  refine O.nil (by kernel_rfl) ?_
  obtain rfl := Option.some.inj H
  refine J.nilrow kd71 71 ?_
  exact J.doneS [(0, 0)] [p0_0, 0] [] [] [0] (none, 0) (vs := [.agg #[.int .i64 1, .int .i64 1, .int .i64 0, .slice none 0 0, .bool false]]) (by kernel_rfl) (by kernel_rfl) (by kernel_rfl) (by kernel_rfl) (by kernel_rfl) (by decide)
/-! ### haywain/link.own: function 28 -/
def link_own.f (K : Nat) (a0 : S24) : Option S24 := (link_Right.f K a0).bind fun x1_1 => cond (!x1_1) ((link_New.f K).bind fun x2_0 => some (x2_0)) ((appO 24 ([] : List S71) a0.f3).bind fun y3_3 => some ((⟨a0.f0, a0.f1, a0.f2, (([] : List S71) ++ a0.f3), a0.f4⟩ : S24)))
set_option maxRecDepth 100000 in
set_option maxHeartbeats 1000000 in
theorem link_own.con (K : Nat) (a0 : S24) (h0 : Hd) (r : S24) (X : Nat → Nat → Prop) (w : World) (hS : St X w [] [] [] [] [Rd kd71 h0.1 h0.2 a0.f3] w) (H : link_own.f K a0 = some r) :
    Cn Try.prog 28 [.agg #[.int .i64 a0.f0, .int .i64 a0.f1, .int .i64 a0.f2, .slice h0.1 a0.f3.length h0.2, .bool a0.f4]] X w [] (fun i : Hd => .agg #[.int .i64 r.f0, .int .i64 r.f1, .int .i64 r.f2, .slice i.1 r.f3.length i.2, .bool r.f4]) (fun i => []) (fun i => [mkRow kd71 71 (.slice i.1 r.f3.length i.2) r.f3]) (fun i => []) := by
  refine Cn.of Try.func28 (by kernel_rfl) hS ?_
  unfold link_own.f at H
  refine J.seq (by kernel_rfl) ?_
  refine J.region (by kernel_rfl) ?_
  refine O.e (some 1) (Ev.box (t := 24) (x := .tmp 0) (v := .agg #[.int .i64 a0.f0, .int .i64 a0.f1, .int .i64 a0.f2, .slice h0.1 a0.f3.length h0.2, .bool a0.f4]) (by kernel_rfl) (by kernel_rfl)) (by kernel_rfl) (fun p0_0 => ?_)
  refine O.e (some 2) (Ev.alloc (t := 24) (z := .agg #[.int .i64 0, .int .i64 0, .int .i64 0, .slice none 0 0, .bool false]) (by kernel_rfl) (by kernel_rfl)) (by kernel_rfl) (fun p0_1 => ?_)
  refine O.nil (by kernel_rfl) ?_
  refine J.seq (by kernel_rfl) ?_
  refine J.seq (by kernel_rfl) ?_
  obtain ⟨x1_1, hx1_1, H⟩ := bindE H
  refine J.region (by kernel_rfl) ?_
  refine O.pure 1 [(1, 0)] [1, 2, 3] [p0_0, 0] (fr' := [(1, .pointer (some ⟨p0_0, 0, none⟩)), (2, .pointer (some ⟨p0_1, 0, none⟩)), (3, .agg #[.int .i64 a0.f0, .int .i64 a0.f1, .int .i64 a0.f2, .slice h0.1 a0.f3.length h0.2, .bool a0.f4])]) (bx' := [⟨p0_1, [.int .i64 0, .int .i64 0, .int .i64 0, .slice none 0 0, .bool false], 24⟩, ⟨p0_0, [.int .i64 a0.f0, .int .i64 a0.f1, .int .i64 a0.f2, .slice h0.1 a0.f3.length h0.2, .bool a0.f4], 24⟩]) (by kernel_rfl) ?_
  refine O.e (some 4) (Ev.call0 (xs := [.tmp 3]) [0] (by kernel_rfl) (by kernel_rfl) (fun w hS => link_Right.con K a0 h0  _ _ w hS hx1_1)) (by kernel_rfl) (fun _ => ?_)
  refine O.pure 1 [] [1, 2, 5] [] (fr' := [(1, .pointer (some ⟨p0_0, 0, none⟩)), (2, .pointer (some ⟨p0_1, 0, none⟩)), (5, .bool (!x1_1))]) (bx' := [⟨p0_1, [.int .i64 0, .int .i64 0, .int .i64 0, .slice none 0 0, .bool false], 24⟩, ⟨p0_0, [.int .i64 a0.f0, .int .i64 a0.f1, .int .i64 a0.f2, .slice h0.1 a0.f3.length h0.2, .bool a0.f4], 24⟩]) (by kernel_rfl) ?_
  refine O.nil (by kernel_rfl) ?_
  rcases condE H with ⟨hc1, H⟩ | ⟨hc1, H⟩
  · refine J.condT (x := .tmp 5) (t := (!x1_1)) (by kernel_rfl) (by kernel_rfl) hc1 ?_
    refine J.seq (by kernel_rfl) ?_
    obtain ⟨x2_0, hx2_0, H⟩ := bindE H
    refine J.region (by kernel_rfl) ?_
    refine O.e (some 6) (Ev.call0 (xs := []) [] (by kernel_rfl) (by kernel_rfl) (fun w hS => link_New.con K  _ _ w hS hx2_0)) (by kernel_rfl) (fun p2_0 => ?_)
    refine O.pure 1 [(0, 0)] [2] [p0_1, 0] (fr' := [(2, .pointer (some ⟨p0_1, 0, none⟩))]) (bx' := [⟨p0_1, [.int .i64 x2_0.f0, .int .i64 x2_0.f1, .int .i64 x2_0.f2, .slice p2_0.1 x2_0.f3.length p2_0.2, .bool x2_0.f4], 24⟩, ⟨p0_0, [.int .i64 a0.f0, .int .i64 a0.f1, .int .i64 a0.f2, .slice h0.1 a0.f3.length h0.2, .bool a0.f4], 24⟩]) (by kernel_rfl) ?_
    refine O.nil (by kernel_rfl) ?_
    obtain rfl := Option.some.inj H
    exact J.doneS [(0, 0)] [p0_1, 0] [] [] [0] p2_0 (vs := [.agg #[.int .i64 x2_0.f0, .int .i64 x2_0.f1, .int .i64 x2_0.f2, .slice p2_0.1 x2_0.f3.length p2_0.2, .bool x2_0.f4]]) (by kernel_rfl) (by kernel_rfl) (by kernel_rfl) (by kernel_rfl) (by kernel_rfl) (by decide)
  · refine J.condF (x := .tmp 5) (t := (!x1_1)) (by kernel_rfl) (by kernel_rfl) hc1 ?_
    refine J.skip (by kernel_rfl) ?_
    refine J.seq (by kernel_rfl) ?_
    obtain ⟨y3_3, hy3_3, H⟩ := bindE H
    have hy3_3a := (appE hy3_3).1
    refine J.region (by kernel_rfl) ?_
    refine O.e (some 7) (Ev.lit (t := 22) (len := 0) (parts := #[]) (ps := []) (cs := []) (e := 71) kd71 ([] : List S71) (by kernel_rfl) (by kernel_rfl) (by kernel_rfl) (by kernel_rfl) (by kernel_rfl) (by decide) (fun w' hφ => (Els.nil _ _ _))) (by kernel_rfl) (fun p3_0 => ?_)
    refine O.pure 2 [(1, 3)] [1, 2, 7, 9] [p0_0, 3] (fr' := [(1, .pointer (some ⟨p0_0, 0, none⟩)), (2, .pointer (some ⟨p0_1, 0, none⟩)), (7, .slice ((some ⟨p3_0, 0, none⟩, 0) : Hd).1 ([] : List S71).length ((some ⟨p3_0, 0, none⟩, 0) : Hd).2), (9, .slice h0.1 a0.f3.length h0.2)]) (bx' := [⟨p0_1, [.int .i64 0, .int .i64 0, .int .i64 0, .slice none 0 0, .bool false], 24⟩, ⟨p0_0, [.int .i64 a0.f0, .int .i64 a0.f1, .int .i64 a0.f2, .slice h0.1 a0.f3.length h0.2, .bool a0.f4], 24⟩]) (by kernel_rfl) ?_
    refine O.e (some 10) (Ev.appSl (d := kd71) (ys := a0.f3) (A := h0.1) (c := h0.2) (x := .tmp 7) (y := .tmp 9) (t := 22) (bytes := 24) 0 (by kernel_rfl) (by kernel_rfl) (by kernel_rfl) rfl (by kernel_rfl) (by decide) hy3_3a) (by kernel_rfl) (fun p3_3 => ?_)
    refine O.pure 2 [(1, 3)] [1, 2] [p0_0, 3] (fr' := [(1, .pointer (some ⟨p0_0, 0, none⟩)), (2, .pointer (some ⟨p0_1, 0, none⟩))]) (bx' := [⟨p0_1, [.int .i64 0, .int .i64 0, .int .i64 0, .slice none 0 0, .bool false], 24⟩, ⟨p0_0, [.int .i64 a0.f0, .int .i64 a0.f1, .int .i64 a0.f2, .slice p3_3.1 (([] : List S71) ++ a0.f3).length p3_3.2, .bool a0.f4], 24⟩]) (by kernel_rfl) ?_
    refine O.nil (by kernel_rfl) ?_
    refine J.seq (by kernel_rfl) ?_
    refine J.region (by kernel_rfl) ?_
    refine O.pure 2 [(1, 0), (0, 0)] [2] [p0_0, 0, p0_1, 0] (fr' := [(2, .pointer (some ⟨p0_1, 0, none⟩))]) (bx' := [⟨p0_1, [.int .i64 a0.f0, .int .i64 a0.f1, .int .i64 a0.f2, .slice p3_3.1 (([] : List S71) ++ a0.f3).length p3_3.2, .bool a0.f4], 24⟩, ⟨p0_0, [.int .i64 a0.f0, .int .i64 a0.f1, .int .i64 a0.f2, .slice p3_3.1 (([] : List S71) ++ a0.f3).length p3_3.2, .bool a0.f4], 24⟩]) (by kernel_rfl) ?_
    refine O.nil (by kernel_rfl) ?_
    obtain rfl := Option.some.inj H
    exact J.doneS [(0, 0)] [p0_1, 0] [] [] [0] p3_3 (vs := [.agg #[.int .i64 a0.f0, .int .i64 a0.f1, .int .i64 a0.f2, .slice p3_3.1 (([] : List S71) ++ a0.f3).length p3_3.2, .bool a0.f4]]) (by kernel_rfl) (by kernel_rfl) (by kernel_rfl) (by kernel_rfl) (by kernel_rfl) (by decide)
/-! ### haywain/link.Send: function 16 -/
def link_Send.f (K : Nat) (a0 : S24) (a1 : ByteArray) : Option (S24 × Int) := (link_own.f K a0).bind fun x1_1 => cond (decide ((x1_1.f3.length : Int) ≥ 200)) (some ((x1_1, 3))) (cond (x1_1.f0 == 1099511627776) (some ((x1_1, 6))) ((appO 24 x1_1.f3 ([(⟨x1_1.f0, a1⟩ : S71)] : List S71)).bind fun y6_7 => some (((⟨(IntKind.wrap .i64 (x1_1.f0 + 1)), x1_1.f1, 0, (x1_1.f3 ++ ([(⟨x1_1.f0, a1⟩ : S71)] : List S71)), x1_1.f4⟩ : S24), 0))))
set_option maxRecDepth 100000 in
set_option maxHeartbeats 1000000 in
theorem link_Send.con (K : Nat) (a0 : S24) (a1 : ByteArray) (h0 : Hd) (r : (S24 × Int)) (X : Nat → Nat → Prop) (w : World) (hS : St X w [] [] [] [] [Rd kd71 h0.1 h0.2 a0.f3] w) (H : link_Send.f K a0 a1 = some r) :
    Cn Try.prog 16 [.agg #[.int .i64 a0.f0, .int .i64 a0.f1, .int .i64 a0.f2, .slice h0.1 a0.f3.length h0.2, .bool a0.f4], .string a1] X w [] (fun i : Hd => .tuple #[.agg #[.int .i64 r.1.f0, .int .i64 r.1.f1, .int .i64 r.1.f2, .slice i.1 r.1.f3.length i.2, .bool r.1.f4], .int .i64 r.2]) (fun i => []) (fun i => [mkRow kd71 71 (.slice i.1 r.1.f3.length i.2) r.1.f3]) (fun i => []) := by
  refine Cn.of Try.func16 (by kernel_rfl) hS ?_
  unfold link_Send.f at H
  refine J.seq (by kernel_rfl) ?_
  refine J.region (by kernel_rfl) ?_
  refine O.e (some 2) (Ev.box (t := 24) (x := .tmp 0) (v := .agg #[.int .i64 a0.f0, .int .i64 a0.f1, .int .i64 a0.f2, .slice h0.1 a0.f3.length h0.2, .bool a0.f4]) (by kernel_rfl) (by kernel_rfl)) (by kernel_rfl) (fun p0_0 => ?_)
  refine O.e (some 4) (Ev.alloc (t := 24) (z := .agg #[.int .i64 0, .int .i64 0, .int .i64 0, .slice none 0 0, .bool false]) (by kernel_rfl) (by kernel_rfl)) (by kernel_rfl) (fun p0_1 => ?_)
  refine O.pure 1 [] [1, 2, 4] [] (fr' := [(1, .string a1), (2, .pointer (some ⟨p0_0, 0, none⟩)), (4, .pointer (some ⟨p0_1, 0, none⟩))]) (bx' := [⟨p0_1, [.int .i64 0, .int .i64 0, .int .i64 0, .slice none 0 0, .bool false], 24⟩, ⟨p0_0, [.int .i64 a0.f0, .int .i64 a0.f1, .int .i64 a0.f2, .slice h0.1 a0.f3.length h0.2, .bool a0.f4], 24⟩]) (by kernel_rfl) ?_
  refine O.nil (by kernel_rfl) ?_
  refine J.seq (by kernel_rfl) ?_
  obtain ⟨x1_1, hx1_1, H⟩ := bindE H
  refine J.region (by kernel_rfl) ?_
  refine O.pure 1 [(1, 0)] [1, 2, 4, 6] [p0_0, 0] (fr' := [(1, .string a1), (2, .pointer (some ⟨p0_0, 0, none⟩)), (4, .pointer (some ⟨p0_1, 0, none⟩)), (6, .agg #[.int .i64 a0.f0, .int .i64 a0.f1, .int .i64 a0.f2, .slice h0.1 a0.f3.length h0.2, .bool a0.f4])]) (bx' := [⟨p0_1, [.int .i64 0, .int .i64 0, .int .i64 0, .slice none 0 0, .bool false], 24⟩, ⟨p0_0, [.int .i64 a0.f0, .int .i64 a0.f1, .int .i64 a0.f2, .slice h0.1 a0.f3.length h0.2, .bool a0.f4], 24⟩]) (by kernel_rfl) ?_
  refine O.e (some 7) (Ev.call0 (xs := [.tmp 6]) [0] (by kernel_rfl) (by kernel_rfl) (fun w hS => link_own.con K a0 h0  _ _ w hS hx1_1)) (by kernel_rfl) (fun p1_1 => ?_)
  refine O.pure 1 [(1, 0)] [1, 2, 4] [p0_0, 0] (fr' := [(1, .string a1), (2, .pointer (some ⟨p0_0, 0, none⟩)), (4, .pointer (some ⟨p0_1, 0, none⟩))]) (bx' := [⟨p0_1, [.int .i64 0, .int .i64 0, .int .i64 0, .slice none 0 0, .bool false], 24⟩, ⟨p0_0, [.int .i64 x1_1.f0, .int .i64 x1_1.f1, .int .i64 x1_1.f2, .slice p1_1.1 x1_1.f3.length p1_1.2, .bool x1_1.f4], 24⟩]) (by kernel_rfl) ?_
  refine O.nil (by kernel_rfl) ?_
  refine J.seq (by kernel_rfl) ?_
  refine J.seq (by kernel_rfl) ?_
  refine J.region (by kernel_rfl) ?_
  refine O.pure 4 [(1, 3)] [1, 2, 4, 11] [p0_0, 3] (fr' := [(1, .string a1), (2, .pointer (some ⟨p0_0, 0, none⟩)), (4, .pointer (some ⟨p0_1, 0, none⟩)), (11, .bool (decide ((x1_1.f3.length : Int) ≥ 200)))]) (bx' := [⟨p0_1, [.int .i64 0, .int .i64 0, .int .i64 0, .slice none 0 0, .bool false], 24⟩, ⟨p0_0, [.int .i64 x1_1.f0, .int .i64 x1_1.f1, .int .i64 x1_1.f2, .slice p1_1.1 x1_1.f3.length p1_1.2, .bool x1_1.f4], 24⟩]) (by kernel_rfl) ?_
  refine O.nil (by kernel_rfl) ?_
  rcases condE H with ⟨hc1, H⟩ | ⟨hc1, H⟩
  · refine J.condT (x := .tmp 11) (t := (decide ((x1_1.f3.length : Int) ≥ 200))) (by kernel_rfl) (by kernel_rfl) hc1 ?_
    refine J.seq (by kernel_rfl) ?_
    refine J.region (by kernel_rfl) ?_
    refine O.pure 3 [(1, 0), (0, 0)] [4, 5] [p0_0, 0, p0_1, 0] (fr' := [(4, .pointer (some ⟨p0_1, 0, none⟩)), (5, .int .i64 3)]) (bx' := [⟨p0_1, [.int .i64 x1_1.f0, .int .i64 x1_1.f1, .int .i64 x1_1.f2, .slice p1_1.1 x1_1.f3.length p1_1.2, .bool x1_1.f4], 24⟩, ⟨p0_0, [.int .i64 x1_1.f0, .int .i64 x1_1.f1, .int .i64 x1_1.f2, .slice p1_1.1 x1_1.f3.length p1_1.2, .bool x1_1.f4], 24⟩]) (by kernel_rfl) ?_
    refine O.nil (by kernel_rfl) ?_
    obtain rfl := Option.some.inj H
    exact J.doneS [(0, 0)] [p0_1, 0] [] [] [0] p1_1 (vs := [.agg #[.int .i64 x1_1.f0, .int .i64 x1_1.f1, .int .i64 x1_1.f2, .slice p1_1.1 x1_1.f3.length p1_1.2, .bool x1_1.f4], .int .i64 3]) (by kernel_rfl) (by kernel_rfl) (by kernel_rfl) (by kernel_rfl) (by kernel_rfl) (by decide)
  · refine J.condF (x := .tmp 11) (t := (decide ((x1_1.f3.length : Int) ≥ 200))) (by kernel_rfl) (by kernel_rfl) hc1 ?_
    refine J.skip (by kernel_rfl) ?_
    refine J.seq (by kernel_rfl) ?_
    refine J.seq (by kernel_rfl) ?_
    refine J.region (by kernel_rfl) ?_
    refine O.pure 3 [(1, 0)] [1, 2, 4, 15] [p0_0, 0] (fr' := [(1, .string a1), (2, .pointer (some ⟨p0_0, 0, none⟩)), (4, .pointer (some ⟨p0_1, 0, none⟩)), (15, .bool (x1_1.f0 == 1099511627776))]) (bx' := [⟨p0_1, [.int .i64 0, .int .i64 0, .int .i64 0, .slice none 0 0, .bool false], 24⟩, ⟨p0_0, [.int .i64 x1_1.f0, .int .i64 x1_1.f1, .int .i64 x1_1.f2, .slice p1_1.1 x1_1.f3.length p1_1.2, .bool x1_1.f4], 24⟩]) (by kernel_rfl) ?_
    refine O.nil (by kernel_rfl) ?_
    rcases condE H with ⟨hc2, H⟩ | ⟨hc2, H⟩
    · refine J.condT (x := .tmp 15) (t := (x1_1.f0 == 1099511627776)) (by kernel_rfl) (by kernel_rfl) hc2 ?_
      refine J.seq (by kernel_rfl) ?_
      refine J.region (by kernel_rfl) ?_
      refine O.pure 3 [(1, 0), (0, 0)] [4, 5] [p0_0, 0, p0_1, 0] (fr' := [(4, .pointer (some ⟨p0_1, 0, none⟩)), (5, .int .i64 6)]) (bx' := [⟨p0_1, [.int .i64 x1_1.f0, .int .i64 x1_1.f1, .int .i64 x1_1.f2, .slice p1_1.1 x1_1.f3.length p1_1.2, .bool x1_1.f4], 24⟩, ⟨p0_0, [.int .i64 x1_1.f0, .int .i64 x1_1.f1, .int .i64 x1_1.f2, .slice p1_1.1 x1_1.f3.length p1_1.2, .bool x1_1.f4], 24⟩]) (by kernel_rfl) ?_
      refine O.nil (by kernel_rfl) ?_
      obtain rfl := Option.some.inj H
      exact J.doneS [(0, 0)] [p0_1, 0] [] [] [0] p1_1 (vs := [.agg #[.int .i64 x1_1.f0, .int .i64 x1_1.f1, .int .i64 x1_1.f2, .slice p1_1.1 x1_1.f3.length p1_1.2, .bool x1_1.f4], .int .i64 6]) (by kernel_rfl) (by kernel_rfl) (by kernel_rfl) (by kernel_rfl) (by kernel_rfl) (by decide)
    · refine J.condF (x := .tmp 15) (t := (x1_1.f0 == 1099511627776)) (by kernel_rfl) (by kernel_rfl) hc2 ?_
      refine J.skip (by kernel_rfl) ?_
      refine J.seq (by kernel_rfl) ?_
      obtain ⟨y6_7, hy6_7, H⟩ := bindE H
      have hy6_7a := (appE hy6_7).1
      refine J.region (by kernel_rfl) ?_
      refine O.pure 6 [(1, 3), (1, 0)] [2, 4, 18, 22] [p0_0, 3, p0_0, 0] (fr' := [(2, .pointer (some ⟨p0_0, 0, none⟩)), (4, .pointer (some ⟨p0_1, 0, none⟩)), (18, .slice p1_1.1 x1_1.f3.length p1_1.2), (22, .agg #[.int .i64 x1_1.f0, .string a1])]) (bx' := [⟨p0_1, [.int .i64 0, .int .i64 0, .int .i64 0, .slice none 0 0, .bool false], 24⟩, ⟨p0_0, [.int .i64 x1_1.f0, .int .i64 x1_1.f1, .int .i64 x1_1.f2, .slice p1_1.1 x1_1.f3.length p1_1.2, .bool x1_1.f4], 24⟩]) (by kernel_rfl) ?_
      refine O.e (some 23) (Ev.lit (t := 22) (len := 1) (parts := #[(0, .tmp 22)]) (ps := [(0, .agg #[.int .i64 x1_1.f0, .string a1])]) (cs := [.int .i64 x1_1.f0, .string a1]) (e := 71) kd71 ([(⟨x1_1.f0, a1⟩ : S71)] : List S71) (by kernel_rfl) (by kernel_rfl) (by kernel_rfl) (by kernel_rfl) (by kernel_rfl) (by decide) (fun w' hφ => (Els.cons (c := [.int .i64 x1_1.f0, .string a1]) (rfl) (Els.nil _ _ _)))) (by kernel_rfl) (fun p6_6 => ?_)
      refine O.e (some 24) (Ev.appLit (x := .tmp 18) (y := .tmp 23) (t := 22) (bytes := 24) (by kernel_rfl) (by kernel_rfl) (by kernel_rfl) (by kernel_rfl) (by kernel_rfl) (by decide) hy6_7a) (by kernel_rfl) (fun p6_7 => ?_)
      refine O.pure 2 [(1, 3)] [2, 4] [p0_0, 3] (fr' := [(2, .pointer (some ⟨p0_0, 0, none⟩)), (4, .pointer (some ⟨p0_1, 0, none⟩))]) (bx' := [⟨p0_1, [.int .i64 0, .int .i64 0, .int .i64 0, .slice none 0 0, .bool false], 24⟩, ⟨p0_0, [.int .i64 x1_1.f0, .int .i64 x1_1.f1, .int .i64 x1_1.f2, .slice p6_7.1 (x1_1.f3 ++ ([(⟨x1_1.f0, a1⟩ : S71)] : List S71)).length p6_7.2, .bool x1_1.f4], 24⟩]) (by kernel_rfl) ?_
      refine O.nil (by kernel_rfl) ?_
      refine J.seq (by kernel_rfl) ?_
      refine J.region (by kernel_rfl) ?_
      refine O.pure 7 [(1, 0), (1, 0), (1, 2)] [2, 4] [p0_0, 0, p0_0, 0, p0_0, 2] (fr' := [(2, .pointer (some ⟨p0_0, 0, none⟩)), (4, .pointer (some ⟨p0_1, 0, none⟩))]) (bx' := [⟨p0_1, [.int .i64 0, .int .i64 0, .int .i64 0, .slice none 0 0, .bool false], 24⟩, ⟨p0_0, [.int .i64 (IntKind.wrap .i64 (x1_1.f0 + 1)), .int .i64 x1_1.f1, .int .i64 0, .slice p6_7.1 (x1_1.f3 ++ ([(⟨x1_1.f0, a1⟩ : S71)] : List S71)).length p6_7.2, .bool x1_1.f4], 24⟩]) (by kernel_rfl) ?_
      refine O.nil (by kernel_rfl) ?_
      refine J.seq (by kernel_rfl) ?_
      refine J.region (by kernel_rfl) ?_
      refine O.pure 3 [(1, 0), (0, 0)] [4, 5] [p0_0, 0, p0_1, 0] (fr' := [(4, .pointer (some ⟨p0_1, 0, none⟩)), (5, .int .i64 0)]) (bx' := [⟨p0_1, [.int .i64 (IntKind.wrap .i64 (x1_1.f0 + 1)), .int .i64 x1_1.f1, .int .i64 0, .slice p6_7.1 (x1_1.f3 ++ ([(⟨x1_1.f0, a1⟩ : S71)] : List S71)).length p6_7.2, .bool x1_1.f4], 24⟩, ⟨p0_0, [.int .i64 (IntKind.wrap .i64 (x1_1.f0 + 1)), .int .i64 x1_1.f1, .int .i64 0, .slice p6_7.1 (x1_1.f3 ++ ([(⟨x1_1.f0, a1⟩ : S71)] : List S71)).length p6_7.2, .bool x1_1.f4], 24⟩]) (by kernel_rfl) ?_
      refine O.nil (by kernel_rfl) ?_
      obtain rfl := Option.some.inj H
      exact J.doneS [(0, 0)] [p0_1, 0] [] [] [0] p6_7 (vs := [.agg #[.int .i64 (IntKind.wrap .i64 (x1_1.f0 + 1)), .int .i64 x1_1.f1, .int .i64 0, .slice p6_7.1 (x1_1.f3 ++ ([(⟨x1_1.f0, a1⟩ : S71)] : List S71)).length p6_7.2, .bool x1_1.f4], .int .i64 0]) (by kernel_rfl) (by kernel_rfl) (by kernel_rfl) (by kernel_rfl) (by kernel_rfl) (by decide)
/-! ### haywain/link.Tick: function 18 -/
def link_Tick.l25 (K : Nat) (x1_1 : S24) : Nat → ((List S37) × Int) → Option (List S37)
  | 0, _ => none
  | k + 1, s25 => cond (decide (s25.2 < ((cutL x1_1.f3 ((0 : Int).toNat) (((if (x1_1.f3.length : Int) < 8 then (x1_1.f3.length : Int) else 8) : Int).toNat)).length : Int))) ((idxO (cutL x1_1.f3 ((0 : Int).toNat) (((if (x1_1.f3.length : Int) < 8 then (x1_1.f3.length : Int) else 8) : Int).toNat)) s25.2).bind fun x6_0 => (appO 32 s25.1 ([(⟨x6_0.f0, (IntKind.wrap .i64 (x1_1.f1 - 1)), x6_0.f1⟩ : S37)] : List S37)).bind fun y7_10 => link_Tick.l25 K x1_1 k ((s25.1 ++ ([(⟨x6_0.f0, (IntKind.wrap .i64 (x1_1.f1 - 1)), x6_0.f1⟩ : S37)] : List S37)), (IntKind.wrap .i64 (s25.2 + 1)))) (some (s25.1))
def link_Tick.f (K : Nat) (a0 : S24) : Option (S24 × (List S37)) := (link_own.f K a0).bind fun x1_1 => (cond (decide ((x1_1.f3.length : Int) > 0)) (cond (x1_1.f2 == 0) ((cutO x1_1.f3 0 (if (x1_1.f3.length : Int) < 8 then (x1_1.f3.length : Int) else 8)).bind fun y4_6 => (link_Tick.l25 K x1_1 K (([] : List S37), 0) : Option (List S37)).bind fun o20 : (List S37) => some (.inr (((⟨x1_1.f0, x1_1.f1, 3, x1_1.f3, false⟩ : S24), o20)))) (cond (decide (x1_1.f2 > 0)) (some (.inl (IntKind.wrap .i64 (x1_1.f2 - 1)))) (some (.inl x1_1.f2)))) (cond (decide (x1_1.f2 > 0)) (some (.inl (IntKind.wrap .i64 (x1_1.f2 - 1)))) (some (.inl x1_1.f2))) : Option (Int ⊕ (S24 × (List S37)))).bind (Sum.elim (fun o1 : Int => (cond x1_1.f4 ((appO 32 ([] : List S37) ([(⟨0, (IntKind.wrap .i64 (x1_1.f1 - 1)), (⟨#[]⟩ : ByteArray)⟩ : S37)] : List S37)).bind fun y14_6 => some ((([] : List S37) ++ ([(⟨0, (IntKind.wrap .i64 (x1_1.f1 - 1)), (⟨#[]⟩ : ByteArray)⟩ : S37)] : List S37)))) (some (([] : List S37))) : Option (List S37)).bind fun o15 : (List S37) => some (((⟨x1_1.f0, x1_1.f1, o1, x1_1.f3, false⟩ : S24), o15))) some)
set_option maxRecDepth 100000 in
set_option maxHeartbeats 1000000 in
theorem link_Tick.con (K : Nat) (a0 : S24) (h0 : Hd) (r : (S24 × (List S37))) (X : Nat → Nat → Prop) (w : World) (hS : St X w [] [] [] [] [Rd kd71 h0.1 h0.2 a0.f3] w) (H : link_Tick.f K a0 = some r) :
    Cn Try.prog 18 [.agg #[.int .i64 a0.f0, .int .i64 a0.f1, .int .i64 a0.f2, .slice h0.1 a0.f3.length h0.2, .bool a0.f4]] X w [] (fun i : Hd × Hd => .tuple #[.agg #[.int .i64 r.1.f0, .int .i64 r.1.f1, .int .i64 r.1.f2, .slice i.1.1 r.1.f3.length i.1.2, .bool r.1.f4], .slice i.2.1 r.2.length i.2.2]) (fun i => []) (fun i => [mkRow kd37 37 (.slice i.2.1 r.2.length i.2.2) r.2]) (fun i => [Rd kd71 i.1.1 i.1.2 r.1.f3]) := by
  refine Cn.of Try.func18 (by kernel_rfl) hS ?_
  unfold link_Tick.f at H
  refine J.seq (by kernel_rfl) ?_
  refine J.region (by kernel_rfl) ?_
  refine O.e (some 1) (Ev.box (t := 24) (x := .tmp 0) (v := .agg #[.int .i64 a0.f0, .int .i64 a0.f1, .int .i64 a0.f2, .slice h0.1 a0.f3.length h0.2, .bool a0.f4]) (by kernel_rfl) (by kernel_rfl)) (by kernel_rfl) (fun p0_0 => ?_)
  refine O.e (some 2) (Ev.alloc (t := 24) (z := .agg #[.int .i64 0, .int .i64 0, .int .i64 0, .slice none 0 0, .bool false]) (by kernel_rfl) (by kernel_rfl)) (by kernel_rfl) (fun p0_1 => ?_)
  refine O.pure 1 [] [1, 2] [] (fr' := [(1, .pointer (some ⟨p0_0, 0, none⟩)), (2, .pointer (some ⟨p0_1, 0, none⟩))]) (bx' := [⟨p0_1, [.int .i64 0, .int .i64 0, .int .i64 0, .slice none 0 0, .bool false], 24⟩, ⟨p0_0, [.int .i64 a0.f0, .int .i64 a0.f1, .int .i64 a0.f2, .slice h0.1 a0.f3.length h0.2, .bool a0.f4], 24⟩]) (by kernel_rfl) ?_
  refine O.nil (by kernel_rfl) ?_
  refine J.seq (by kernel_rfl) ?_
  obtain ⟨x1_1, hx1_1, H⟩ := bindE H
  refine J.region (by kernel_rfl) ?_
  refine O.pure 1 [(1, 0)] [1, 2, 7] [p0_0, 0] (fr' := [(1, .pointer (some ⟨p0_0, 0, none⟩)), (2, .pointer (some ⟨p0_1, 0, none⟩)), (7, .agg #[.int .i64 a0.f0, .int .i64 a0.f1, .int .i64 a0.f2, .slice h0.1 a0.f3.length h0.2, .bool a0.f4])]) (bx' := [⟨p0_1, [.int .i64 0, .int .i64 0, .int .i64 0, .slice none 0 0, .bool false], 24⟩, ⟨p0_0, [.int .i64 a0.f0, .int .i64 a0.f1, .int .i64 a0.f2, .slice h0.1 a0.f3.length h0.2, .bool a0.f4], 24⟩]) (by kernel_rfl) ?_
  refine O.e (some 8) (Ev.call0 (xs := [.tmp 7]) [0] (by kernel_rfl) (by kernel_rfl) (fun w hS => link_own.con K a0 h0  _ _ w hS hx1_1)) (by kernel_rfl) (fun p1_1 => ?_)
  refine O.pure 1 [(1, 0)] [1, 2] [p0_0, 0] (fr' := [(1, .pointer (some ⟨p0_0, 0, none⟩)), (2, .pointer (some ⟨p0_1, 0, none⟩))]) (bx' := [⟨p0_1, [.int .i64 0, .int .i64 0, .int .i64 0, .slice none 0 0, .bool false], 24⟩, ⟨p0_0, [.int .i64 x1_1.f0, .int .i64 x1_1.f1, .int .i64 x1_1.f2, .slice p1_1.1 x1_1.f3.length p1_1.2, .bool x1_1.f4], 24⟩]) (by kernel_rfl) ?_
  refine O.nil (by kernel_rfl) ?_
  refine J.seq (by kernel_rfl) ?_
  refine J.region (by kernel_rfl) ?_
  refine O.pure 1 [] [1, 2, 4] [] (fr' := [(1, .pointer (some ⟨p0_0, 0, none⟩)), (2, .pointer (some ⟨p0_1, 0, none⟩)), (4, .slice none 0 0)]) (bx' := [⟨p0_1, [.int .i64 0, .int .i64 0, .int .i64 0, .slice none 0 0, .bool false], 24⟩, ⟨p0_0, [.int .i64 x1_1.f0, .int .i64 x1_1.f1, .int .i64 x1_1.f2, .slice p1_1.1 x1_1.f3.length p1_1.2, .bool x1_1.f4], 24⟩]) (by kernel_rfl) ?_
  refine O.nil (by kernel_rfl) ?_
  refine J.seq (by kernel_rfl) ?_
  refine J.joinS (α := Int) (γ := Unit) (fun o1 q1 => [(1, .pointer (some ⟨p0_0, 0, none⟩)), (2, .pointer (some ⟨p0_1, 0, none⟩)), (4, .slice none 0 0)]) (fun o1 q1 => St X w [] [⟨p0_1, [.int .i64 0, .int .i64 0, .int .i64 0, .slice none 0 0, .bool false], 24⟩, ⟨p0_0, [.int .i64 x1_1.f0, .int .i64 x1_1.f1, .int .i64 o1, .slice p1_1.1 x1_1.f3.length p1_1.2, .bool x1_1.f4], 24⟩] [mkRow kd71 71 (.slice p1_1.1 x1_1.f3.length p1_1.2) x1_1.f3] [] [Rd kd71 h0.1 h0.2 a0.f3]) H (fun o1 q1 H => ?_) (fun o1 H hj1 => ?_)
  · refine J.seq (by kernel_rfl) ?_
    refine J.seq (by kernel_rfl) ?_
    refine J.region (by kernel_rfl) ?_
    refine O.pure 2 [(1, 4)] [1, 2, 4, 56] [p0_0, 4] (fr' := [(1, .pointer (some ⟨p0_0, 0, none⟩)), (2, .pointer (some ⟨p0_1, 0, none⟩)), (4, .slice none 0 0), (56, .bool x1_1.f4)]) (bx' := [⟨p0_1, [.int .i64 0, .int .i64 0, .int .i64 0, .slice none 0 0, .bool false], 24⟩, ⟨p0_0, [.int .i64 x1_1.f0, .int .i64 x1_1.f1, .int .i64 o1, .slice p1_1.1 x1_1.f3.length p1_1.2, .bool x1_1.f4], 24⟩]) (by kernel_rfl) ?_
    refine O.nil (by kernel_rfl) ?_
    refine J.join (α := (List S37)) (γ := Hd) (fun o15 q15 => [(1, .pointer (some ⟨p0_0, 0, none⟩)), (2, .pointer (some ⟨p0_1, 0, none⟩)), (4, .slice q15.1 o15.length q15.2)]) (fun o15 q15 => St X w [] [⟨p0_1, [.int .i64 0, .int .i64 0, .int .i64 0, .slice none 0 0, .bool false], 24⟩, ⟨p0_0, [.int .i64 x1_1.f0, .int .i64 x1_1.f1, .int .i64 o1, .slice p1_1.1 x1_1.f3.length p1_1.2, .bool x1_1.f4], 24⟩] [mkRow kd37 37 (.slice q15.1 o15.length q15.2) o15, mkRow kd71 71 (.slice p1_1.1 x1_1.f3.length p1_1.2) x1_1.f3] [] [Rd kd71 h0.1 h0.2 a0.f3]) H (fun o15 q15 H => ?_) (fun o15 H hj15 => ?_)
    · refine J.seq (by kernel_rfl) ?_
      refine J.region (by kernel_rfl) ?_
      refine O.pure 2 [(1, 4)] [1, 2, 4] [p0_0, 4] (fr' := [(1, .pointer (some ⟨p0_0, 0, none⟩)), (2, .pointer (some ⟨p0_1, 0, none⟩)), (4, .slice q15.1 o15.length q15.2)]) (bx' := [⟨p0_1, [.int .i64 0, .int .i64 0, .int .i64 0, .slice none 0 0, .bool false], 24⟩, ⟨p0_0, [.int .i64 x1_1.f0, .int .i64 x1_1.f1, .int .i64 o1, .slice p1_1.1 x1_1.f3.length p1_1.2, .bool false], 24⟩]) (by kernel_rfl) ?_
      refine O.nil (by kernel_rfl) ?_
      refine J.seq (by kernel_rfl) ?_
      refine J.region (by kernel_rfl) ?_
      refine O.pure 4 [(1, 0), (0, 0)] [2, 3] [p0_0, 0, p0_1, 0] (fr' := [(2, .pointer (some ⟨p0_1, 0, none⟩)), (3, .slice q15.1 o15.length q15.2)]) (bx' := [⟨p0_1, [.int .i64 x1_1.f0, .int .i64 x1_1.f1, .int .i64 o1, .slice p1_1.1 x1_1.f3.length p1_1.2, .bool false], 24⟩, ⟨p0_0, [.int .i64 x1_1.f0, .int .i64 x1_1.f1, .int .i64 o1, .slice p1_1.1 x1_1.f3.length p1_1.2, .bool false], 24⟩]) (by kernel_rfl) ?_
      refine O.nil (by kernel_rfl) ?_
      obtain rfl := Option.some.inj H
      refine J.mono (fun w hS => hS.rowsel [1, 0] rfl (by decide)) ?_
      refine J.mono (fun w hS => hS.freezeH (h := p1_1) (xs := x1_1.f3)) ?_
      exact J.doneS [(0, 0)] [p0_1, 0] [0] [] [0] (p1_1, q15) (vs := [.agg #[.int .i64 x1_1.f0, .int .i64 x1_1.f1, .int .i64 o1, .slice p1_1.1 x1_1.f3.length p1_1.2, .bool false], .slice q15.1 o15.length q15.2]) (by kernel_rfl) (by kernel_rfl) (by kernel_rfl) (by kernel_rfl) (by kernel_rfl) (by decide)
    · rcases condE H with ⟨hc17, H⟩ | ⟨hc17, H⟩
      · refine J.condT (x := .tmp 56) (t := x1_1.f4) (by kernel_rfl) (by kernel_rfl) hc17 ?_
        obtain ⟨y14_6, hy14_6, H⟩ := bindE H
        have hy14_6a := (appE hy14_6).1
        refine J.region (by kernel_rfl) ?_
        refine O.pure 5 [(1, 1)] [1, 2, 4, 57, 61] [p0_0, 1] (fr' := [(1, .pointer (some ⟨p0_0, 0, none⟩)), (2, .pointer (some ⟨p0_1, 0, none⟩)), (4, .slice none 0 0), (57, .slice none 0 0), (61, .agg #[.int .i64 0, .int .i64 (IntKind.wrap .i64 (x1_1.f1 - 1)), .string (⟨#[]⟩ : ByteArray)])]) (bx' := [⟨p0_1, [.int .i64 0, .int .i64 0, .int .i64 0, .slice none 0 0, .bool false], 24⟩, ⟨p0_0, [.int .i64 x1_1.f0, .int .i64 x1_1.f1, .int .i64 o1, .slice p1_1.1 x1_1.f3.length p1_1.2, .bool x1_1.f4], 24⟩]) (by kernel_rfl) ?_
        refine O.e (some 62) (Ev.mono (fun w hS => hS.nilrow kd37 37) (Ev.lit (t := 45) (len := 1) (parts := #[(0, .tmp 61)]) (ps := [(0, .agg #[.int .i64 0, .int .i64 (IntKind.wrap .i64 (x1_1.f1 - 1)), .string (⟨#[]⟩ : ByteArray)])]) (cs := [.int .i64 0, .int .i64 (IntKind.wrap .i64 (x1_1.f1 - 1)), .string (⟨#[]⟩ : ByteArray)]) (e := 37) kd37 ([(⟨0, (IntKind.wrap .i64 (x1_1.f1 - 1)), (⟨#[]⟩ : ByteArray)⟩ : S37)] : List S37) (by kernel_rfl) (by kernel_rfl) (by kernel_rfl) (by kernel_rfl) (by kernel_rfl) (by decide) (fun w' hφ => (Els.cons (c := [.int .i64 0, .int .i64 (IntKind.wrap .i64 (x1_1.f1 - 1)), .string (⟨#[]⟩ : ByteArray)]) (rfl) (Els.nil _ _ _))))) (by kernel_rfl) (fun p14_5 => ?_)
        refine O.e (some 63) (Ev.appLit (x := .tmp 57) (y := .tmp 62) (t := 45) (bytes := 32) (by kernel_rfl) (by kernel_rfl) (by kernel_rfl) (by kernel_rfl) (by kernel_rfl) (by decide) hy14_6a) (by kernel_rfl) (fun p14_6 => ?_)
        refine O.pure 1 [] [1, 2, 4] [] (fr' := [(1, .pointer (some ⟨p0_0, 0, none⟩)), (2, .pointer (some ⟨p0_1, 0, none⟩)), (4, .slice p14_6.1 (([] : List S37) ++ ([(⟨0, (IntKind.wrap .i64 (x1_1.f1 - 1)), (⟨#[]⟩ : ByteArray)⟩ : S37)] : List S37)).length p14_6.2)]) (bx' := [⟨p0_1, [.int .i64 0, .int .i64 0, .int .i64 0, .slice none 0 0, .bool false], 24⟩, ⟨p0_0, [.int .i64 x1_1.f0, .int .i64 x1_1.f1, .int .i64 o1, .slice p1_1.1 x1_1.f3.length p1_1.2, .bool x1_1.f4], 24⟩]) (by kernel_rfl) ?_
        refine O.nil (by kernel_rfl) ?_
        obtain rfl := Option.some.inj H
        exact J.conv2 [1, 2, 4] [0] [0, 1] [0, 1] (by kernel_rfl) (by kernel_rfl) (by kernel_rfl) (by kernel_rfl) (by decide) (hj15 p14_6)
      · refine J.condF (x := .tmp 56) (t := x1_1.f4) (by kernel_rfl) (by kernel_rfl) hc17 ?_
        refine J.skip (by kernel_rfl) ?_
        obtain rfl := Option.some.inj H
        refine J.nilrow kd37 37 ?_
        exact J.conv2 [1, 2, 4] [0] [0, 1] [0, 1] (by kernel_rfl) (by kernel_rfl) (by kernel_rfl) (by kernel_rfl) (by decide) (hj15 (none, 0))
  · refine J.block (id := 0) (by kernel_rfl) ?_
    refine J.seq (by kernel_rfl) ?_
    rcases condE H with ⟨hc18, H⟩ | ⟨hc18, H⟩
    · refine J.region (by kernel_rfl) ?_
      refine O.pure 3 [(1, 3)] [1, 2, 4, 12] [p0_0, 3] (fr' := [(1, .pointer (some ⟨p0_0, 0, none⟩)), (2, .pointer (some ⟨p0_1, 0, none⟩)), (4, .slice none 0 0), (12, .int .i64 (x1_1.f3.length : Int))]) (bx' := [⟨p0_1, [.int .i64 0, .int .i64 0, .int .i64 0, .slice none 0 0, .bool false], 24⟩, ⟨p0_0, [.int .i64 x1_1.f0, .int .i64 x1_1.f1, .int .i64 x1_1.f2, .slice p1_1.1 x1_1.f3.length p1_1.2, .bool x1_1.f4], 24⟩]) (by kernel_rfl) ?_
      refine O.q (v := .bool true) (some 13) (Qu.eqv (u := .bool (decide ((x1_1.f3.length : Int) > 0))) (v := .bool true) (0, 0) [] (by kernel_rfl) (congrArg Value.bool hc18)) (by kernel_rfl) ?_
      refine O.pure 6 [(1, 2)] [1, 2, 4, 9] [p0_0, 2] (fr' := [(1, .pointer (some ⟨p0_0, 0, none⟩)), (2, .pointer (some ⟨p0_1, 0, none⟩)), (4, .slice none 0 0), (9, .bool (x1_1.f2 == 0))]) (bx' := [⟨p0_1, [.int .i64 0, .int .i64 0, .int .i64 0, .slice none 0 0, .bool false], 24⟩, ⟨p0_0, [.int .i64 x1_1.f0, .int .i64 x1_1.f1, .int .i64 x1_1.f2, .slice p1_1.1 x1_1.f3.length p1_1.2, .bool x1_1.f4], 24⟩]) (by kernel_rfl) ?_
      refine O.nil (by kernel_rfl) ?_
      rcases condE H with ⟨hc19, H⟩ | ⟨hc19, H⟩
      · refine J.condT (x := .tmp 9) (t := (x1_1.f2 == 0)) (by kernel_rfl) (by kernel_rfl) hc19 ?_
        refine J.seq (by kernel_rfl) ?_
        refine J.seq (by kernel_rfl) ?_
        obtain ⟨y4_6, hy4_6, H⟩ := bindE H
        obtain ⟨hy4_6a, hy4_6b, hy4_6c, -⟩ := cutE hy4_6
        refine J.region (by kernel_rfl) ?_
        refine O.pure 6 [(1, 3), (1, 3)] [1, 2, 4, 20, 24] [p0_0, 3, p0_0, 3] (fr' := [(1, .pointer (some ⟨p0_0, 0, none⟩)), (2, .pointer (some ⟨p0_1, 0, none⟩)), (4, .slice none 0 0), (20, .slice p1_1.1 x1_1.f3.length p1_1.2), (24, .int .i64 (if (x1_1.f3.length : Int) < 8 then (x1_1.f3.length : Int) else 8))]) (bx' := [⟨p0_1, [.int .i64 0, .int .i64 0, .int .i64 0, .slice none 0 0, .bool false], 24⟩, ⟨p0_0, [.int .i64 x1_1.f0, .int .i64 x1_1.f1, .int .i64 x1_1.f2, .slice p1_1.1 x1_1.f3.length p1_1.2, .bool x1_1.f4], 24⟩]) (by kernel_rfl) ?_
        refine O.e (some 25) (Ev.mono (fun w hS => hS.freezeH (h := p1_1) (xs := x1_1.f3)) (Ev.cut (d := kd71) (xs := x1_1.f3) (t := 22) (x := .tmp 20) (lo := none) (hi := (some (.tmp 24))) (vlo := none) (vhi := (some (.int .i64 (if (x1_1.f3.length : Int) < 8 then (x1_1.f3.length : Int) else 8)))) (A := p1_1.1) (c := p1_1.2) (l := (0 : Int).toNat) (h := ((if (x1_1.f3.length : Int) < 8 then (x1_1.f3.length : Int) else 8) : Int).toNat) 0 (by kernel_rfl) (by kernel_rfl) (by kernel_rfl) (by kernel_rfl) (by kernel_rfl) (Bd.dflt _) (Bd.val _ _ _ (by omega)) (by omega) (by omega) rfl)) (by kernel_rfl) (fun p4_6 => ?_)
        refine O.pure 2 [] [1, 2, 4, 25, 26, 27] [] (fr' := [(1, .pointer (some ⟨p0_0, 0, none⟩)), (2, .pointer (some ⟨p0_1, 0, none⟩)), (4, .slice none 0 0), (25, .slice p4_6.1 (cutL x1_1.f3 ((0 : Int).toNat) (((if (x1_1.f3.length : Int) < 8 then (x1_1.f3.length : Int) else 8) : Int).toNat)).length p4_6.2), (26, .int .i64 ((cutL x1_1.f3 ((0 : Int).toNat) (((if (x1_1.f3.length : Int) < 8 then (x1_1.f3.length : Int) else 8) : Int).toNat)).length : Int)), (27, .int .i64 0)]) (bx' := [⟨p0_1, [.int .i64 0, .int .i64 0, .int .i64 0, .slice none 0 0, .bool false], 24⟩, ⟨p0_0, [.int .i64 x1_1.f0, .int .i64 x1_1.f1, .int .i64 x1_1.f2, .slice p1_1.1 x1_1.f3.length p1_1.2, .bool x1_1.f4], 24⟩]) (by kernel_rfl) ?_
        refine O.nil (by kernel_rfl) ?_
        refine J.join (α := (List S37)) (γ := Hd) (fun o20 q20 => [(1, .pointer (some ⟨p0_0, 0, none⟩)), (2, .pointer (some ⟨p0_1, 0, none⟩)), (4, .slice q20.1 o20.length q20.2)]) (fun o20 q20 => St X w [] [⟨p0_1, [.int .i64 0, .int .i64 0, .int .i64 0, .slice none 0 0, .bool false], 24⟩, ⟨p0_0, [.int .i64 x1_1.f0, .int .i64 x1_1.f1, .int .i64 x1_1.f2, .slice p1_1.1 x1_1.f3.length p1_1.2, .bool x1_1.f4], 24⟩] [mkRow kd37 37 (.slice q20.1 o20.length q20.2) o20] [] [Rd kd71 p1_1.1 p1_1.2 x1_1.f3, Rd kd71 h0.1 h0.2 a0.f3]) H (fun o20 q20 H => ?_) (fun o20 H hj20 => ?_)
        · refine J.seq (by kernel_rfl) ?_
          refine J.region (by kernel_rfl) ?_
          refine O.pure 4 [(1, 2), (1, 4)] [1, 2, 4] [p0_0, 2, p0_0, 4] (fr' := [(1, .pointer (some ⟨p0_0, 0, none⟩)), (2, .pointer (some ⟨p0_1, 0, none⟩)), (4, .slice q20.1 o20.length q20.2)]) (bx' := [⟨p0_1, [.int .i64 0, .int .i64 0, .int .i64 0, .slice none 0 0, .bool false], 24⟩, ⟨p0_0, [.int .i64 x1_1.f0, .int .i64 x1_1.f1, .int .i64 3, .slice p1_1.1 x1_1.f3.length p1_1.2, .bool false], 24⟩]) (by kernel_rfl) ?_
          refine O.nil (by kernel_rfl) ?_
          refine J.seq (by kernel_rfl) ?_
          refine J.region (by kernel_rfl) ?_
          refine O.pure 4 [(1, 0), (0, 0)] [2, 3] [p0_0, 0, p0_1, 0] (fr' := [(2, .pointer (some ⟨p0_1, 0, none⟩)), (3, .slice q20.1 o20.length q20.2)]) (bx' := [⟨p0_1, [.int .i64 x1_1.f0, .int .i64 x1_1.f1, .int .i64 3, .slice p1_1.1 x1_1.f3.length p1_1.2, .bool false], 24⟩, ⟨p0_0, [.int .i64 x1_1.f0, .int .i64 x1_1.f1, .int .i64 3, .slice p1_1.1 x1_1.f3.length p1_1.2, .bool false], 24⟩]) (by kernel_rfl) ?_
          refine O.nil (by kernel_rfl) ?_
          obtain rfl := Option.some.inj H
          obtain rfl := hj1.2 _ rfl
          exact J.doneS [(0, 0)] [p0_1, 0] [0] [] [0] (p1_1, q20) (vs := [.agg #[.int .i64 x1_1.f0, .int .i64 x1_1.f1, .int .i64 3, .slice p1_1.1 x1_1.f3.length p1_1.2, .bool false], .slice q20.1 o20.length q20.2]) (by kernel_rfl) (by kernel_rfl) (by kernel_rfl) (by kernel_rfl) (by kernel_rfl) (by decide)
        · refine J.block (id := 1) (by kernel_rfl) ?_
          refine J.loopI (σ := (List S37) × Int) (γ := Hd) (f := fun m_ s_ => link_Tick.l25 K x1_1 m_ s_) (fun s25 g25 => [(1, .pointer (some ⟨p0_0, 0, none⟩)), (2, .pointer (some ⟨p0_1, 0, none⟩)), (4, .slice g25.1 s25.1.length g25.2), (25, .slice p4_6.1 (cutL x1_1.f3 ((0 : Int).toNat) (((if (x1_1.f3.length : Int) < 8 then (x1_1.f3.length : Int) else 8) : Int).toNat)).length p4_6.2), (26, .int .i64 ((cutL x1_1.f3 ((0 : Int).toNat) (((if (x1_1.f3.length : Int) < 8 then (x1_1.f3.length : Int) else 8) : Int).toNat)).length : Int)), (27, .int .i64 s25.2)]) (fun s25 g25 => St X w [] [⟨p0_1, [.int .i64 0, .int .i64 0, .int .i64 0, .slice none 0 0, .bool false], 24⟩, ⟨p0_0, [.int .i64 x1_1.f0, .int .i64 x1_1.f1, .int .i64 x1_1.f2, .slice p1_1.1 x1_1.f3.length p1_1.2, .bool x1_1.f4], 24⟩] [mkRow kd37 37 (.slice g25.1 s25.1.length g25.2) s25.1] [] [Rd kd71 p4_6.1 p4_6.2 (cutL x1_1.f3 ((0 : Int).toNat) (((if (x1_1.f3.length : Int) < 8 then (x1_1.f3.length : Int) else 8) : Int).toNat)), Rd kd71 p1_1.1 p1_1.2 x1_1.f3, Rd kd71 h0.1 h0.2 a0.f3]) K (([] : List S37), 0) (none, 0) (by kernel_rfl) H (fun _ => rfl) (fun m_ s25 H ih25 g25 => ?_) (fun h_ => ?_)
          · unfold link_Tick.l25 at H
            refine J.seq (by kernel_rfl) ?_
            refine J.region (by kernel_rfl) ?_
            refine O.pure 1 [] [1, 2, 4, 25, 26, 27, 28] [] (fr' := [(1, .pointer (some ⟨p0_0, 0, none⟩)), (2, .pointer (some ⟨p0_1, 0, none⟩)), (4, .slice g25.1 s25.1.length g25.2), (25, .slice p4_6.1 (cutL x1_1.f3 ((0 : Int).toNat) (((if (x1_1.f3.length : Int) < 8 then (x1_1.f3.length : Int) else 8) : Int).toNat)).length p4_6.2), (26, .int .i64 ((cutL x1_1.f3 ((0 : Int).toNat) (((if (x1_1.f3.length : Int) < 8 then (x1_1.f3.length : Int) else 8) : Int).toNat)).length : Int)), (27, .int .i64 s25.2), (28, .bool (decide (s25.2 < ((cutL x1_1.f3 ((0 : Int).toNat) (((if (x1_1.f3.length : Int) < 8 then (x1_1.f3.length : Int) else 8) : Int).toNat)).length : Int))))]) (bx' := [⟨p0_1, [.int .i64 0, .int .i64 0, .int .i64 0, .slice none 0 0, .bool false], 24⟩, ⟨p0_0, [.int .i64 x1_1.f0, .int .i64 x1_1.f1, .int .i64 x1_1.f2, .slice p1_1.1 x1_1.f3.length p1_1.2, .bool x1_1.f4], 24⟩]) (by kernel_rfl) ?_
            refine O.nil (by kernel_rfl) ?_
            refine J.seq (by kernel_rfl) ?_
            rcases condE H with ⟨hc28, H⟩ | ⟨hc28, H⟩
            · refine J.condT (x := .tmp 28) (t := (decide (s25.2 < ((cutL x1_1.f3 ((0 : Int).toNat) (((if (x1_1.f3.length : Int) < 8 then (x1_1.f3.length : Int) else 8) : Int).toNat)).length : Int)))) (by kernel_rfl) (by kernel_rfl) hc28 ?_
              refine J.skip (by kernel_rfl) ?_
              refine J.seq (by kernel_rfl) ?_
              refine J.block (id := 2) (by kernel_rfl) ?_
              refine J.seq (by kernel_rfl) ?_
              obtain ⟨x6_0, hx6_0, H⟩ := bindE H
              obtain ⟨hx6_0a, hx6_0⟩ := idxE hx6_0
              refine J.region (by kernel_rfl) ?_
              refine O.open (d := kd71) (h := p4_6) (i := s25.2) 0 rfl hx6_0 (op71 _) (fun p6_0 hp6_0A => ?_)
              refine O.q (v := .pointer (some ⟨p6_0.1, p6_0.2.1 + s25.2.toNat * 2, none⟩)) (some 29) (Qu.idx (t := 22) (x := .tmp 25) (y := .tmp 27) (c := p4_6.2) (kk := .i64) (sz := 2) (by kernel_rfl) (by kernel_rfl) (by kernel_rfl) (by kernel_rfl) hx6_0a (idx_lt hx6_0) hp6_0A) (by kernel_rfl) ?_
              refine O.pure 1 [(2, 0)] [1, 2, 4, 25, 26, 27, 30] [p6_0.1, p6_0.2.1 + s25.2.toNat * 2] (fr' := [(1, .pointer (some ⟨p0_0, 0, none⟩)), (2, .pointer (some ⟨p0_1, 0, none⟩)), (4, .slice g25.1 s25.1.length g25.2), (25, .slice p4_6.1 (cutL x1_1.f3 ((0 : Int).toNat) (((if (x1_1.f3.length : Int) < 8 then (x1_1.f3.length : Int) else 8) : Int).toNat)).length p4_6.2), (26, .int .i64 ((cutL x1_1.f3 ((0 : Int).toNat) (((if (x1_1.f3.length : Int) < 8 then (x1_1.f3.length : Int) else 8) : Int).toNat)).length : Int)), (27, .int .i64 s25.2), (30, .agg #[.int .i64 x6_0.f0, .string x6_0.f1])]) (bx' := [⟨p0_1, [.int .i64 0, .int .i64 0, .int .i64 0, .slice none 0 0, .bool false], 24⟩, ⟨p0_0, [.int .i64 x1_1.f0, .int .i64 x1_1.f1, .int .i64 x1_1.f2, .slice p1_1.1 x1_1.f3.length p1_1.2, .bool x1_1.f4], 24⟩]) (by kernel_rfl) ?_
              refine O.e (some 6) (Ev.alloc (t := 71) (z := .agg #[.int .i64 0, .string (⟨#[]⟩ : ByteArray)]) (by kernel_rfl) (by kernel_rfl)) (by kernel_rfl) (fun p6_2 => ?_)
              refine O.pure 1 [(0, 0)] [1, 2, 4, 6, 25, 26, 27] [p6_2, 0] (fr' := [(1, .pointer (some ⟨p0_0, 0, none⟩)), (2, .pointer (some ⟨p0_1, 0, none⟩)), (4, .slice g25.1 s25.1.length g25.2), (6, .pointer (some ⟨p6_2, 0, none⟩)), (25, .slice p4_6.1 (cutL x1_1.f3 ((0 : Int).toNat) (((if (x1_1.f3.length : Int) < 8 then (x1_1.f3.length : Int) else 8) : Int).toNat)).length p4_6.2), (26, .int .i64 ((cutL x1_1.f3 ((0 : Int).toNat) (((if (x1_1.f3.length : Int) < 8 then (x1_1.f3.length : Int) else 8) : Int).toNat)).length : Int)), (27, .int .i64 s25.2)]) (bx' := [⟨p6_2, [.int .i64 x6_0.f0, .string x6_0.f1], 71⟩, ⟨p0_1, [.int .i64 0, .int .i64 0, .int .i64 0, .slice none 0 0, .bool false], 24⟩, ⟨p0_0, [.int .i64 x1_1.f0, .int .i64 x1_1.f1, .int .i64 x1_1.f2, .slice p1_1.1 x1_1.f3.length p1_1.2, .bool x1_1.f4], 24⟩]) (by kernel_rfl) ?_
              refine O.nil (by kernel_rfl) ?_
              obtain ⟨y7_10, hy7_10, H⟩ := bindE H
              have hy7_10a := (appE hy7_10).1
              refine J.region (by kernel_rfl) ?_
              refine O.pure 9 [(0, 0), (2, 1), (0, 1)] [1, 2, 4, 25, 26, 27, 31, 39] [p6_2, 0, p0_0, 1, p6_2, 1] (fr' := [(1, .pointer (some ⟨p0_0, 0, none⟩)), (2, .pointer (some ⟨p0_1, 0, none⟩)), (4, .slice g25.1 s25.1.length g25.2), (25, .slice p4_6.1 (cutL x1_1.f3 ((0 : Int).toNat) (((if (x1_1.f3.length : Int) < 8 then (x1_1.f3.length : Int) else 8) : Int).toNat)).length p4_6.2), (26, .int .i64 ((cutL x1_1.f3 ((0 : Int).toNat) (((if (x1_1.f3.length : Int) < 8 then (x1_1.f3.length : Int) else 8) : Int).toNat)).length : Int)), (27, .int .i64 s25.2), (31, .slice g25.1 s25.1.length g25.2), (39, .agg #[.int .i64 x6_0.f0, .int .i64 (IntKind.wrap .i64 (x1_1.f1 - 1)), .string x6_0.f1])]) (bx' := [⟨p6_2, [.int .i64 x6_0.f0, .string x6_0.f1], 71⟩, ⟨p0_1, [.int .i64 0, .int .i64 0, .int .i64 0, .slice none 0 0, .bool false], 24⟩, ⟨p0_0, [.int .i64 x1_1.f0, .int .i64 x1_1.f1, .int .i64 x1_1.f2, .slice p1_1.1 x1_1.f3.length p1_1.2, .bool x1_1.f4], 24⟩]) (by kernel_rfl) ?_
              refine O.e (some 40) (Ev.lit (t := 45) (len := 1) (parts := #[(0, .tmp 39)]) (ps := [(0, .agg #[.int .i64 x6_0.f0, .int .i64 (IntKind.wrap .i64 (x1_1.f1 - 1)), .string x6_0.f1])]) (cs := [.int .i64 x6_0.f0, .int .i64 (IntKind.wrap .i64 (x1_1.f1 - 1)), .string x6_0.f1]) (e := 37) kd37 ([(⟨x6_0.f0, (IntKind.wrap .i64 (x1_1.f1 - 1)), x6_0.f1⟩ : S37)] : List S37) (by kernel_rfl) (by kernel_rfl) (by kernel_rfl) (by kernel_rfl) (by kernel_rfl) (by decide) (fun w' hφ => (Els.cons (c := [.int .i64 x6_0.f0, .int .i64 (IntKind.wrap .i64 (x1_1.f1 - 1)), .string x6_0.f1]) (rfl) (Els.nil _ _ _)))) (by kernel_rfl) (fun p7_9 => ?_)
              refine O.e (some 41) (Ev.appLit (x := .tmp 31) (y := .tmp 40) (t := 45) (bytes := 32) (by kernel_rfl) (by kernel_rfl) (by kernel_rfl) (by kernel_rfl) (by kernel_rfl) (by decide) hy7_10a) (by kernel_rfl) (fun p7_10 => ?_)
              refine O.pure 1 [] [1, 2, 4, 25, 26, 27] [] (fr' := [(1, .pointer (some ⟨p0_0, 0, none⟩)), (2, .pointer (some ⟨p0_1, 0, none⟩)), (4, .slice p7_10.1 (s25.1 ++ ([(⟨x6_0.f0, (IntKind.wrap .i64 (x1_1.f1 - 1)), x6_0.f1⟩ : S37)] : List S37)).length p7_10.2), (25, .slice p4_6.1 (cutL x1_1.f3 ((0 : Int).toNat) (((if (x1_1.f3.length : Int) < 8 then (x1_1.f3.length : Int) else 8) : Int).toNat)).length p4_6.2), (26, .int .i64 ((cutL x1_1.f3 ((0 : Int).toNat) (((if (x1_1.f3.length : Int) < 8 then (x1_1.f3.length : Int) else 8) : Int).toNat)).length : Int)), (27, .int .i64 s25.2)]) (bx' := [⟨p6_2, [.int .i64 x6_0.f0, .string x6_0.f1], 71⟩, ⟨p0_1, [.int .i64 0, .int .i64 0, .int .i64 0, .slice none 0 0, .bool false], 24⟩, ⟨p0_0, [.int .i64 x1_1.f0, .int .i64 x1_1.f1, .int .i64 x1_1.f2, .slice p1_1.1 x1_1.f3.length p1_1.2, .bool x1_1.f4], 24⟩]) (by kernel_rfl) ?_
              refine O.nil (by kernel_rfl) ?_
              refine J.out ?_
              refine J.region (by kernel_rfl) ?_
              refine O.pure 2 [] [1, 2, 4, 25, 26, 27] [] (fr' := [(1, .pointer (some ⟨p0_0, 0, none⟩)), (2, .pointer (some ⟨p0_1, 0, none⟩)), (4, .slice p7_10.1 (s25.1 ++ ([(⟨x6_0.f0, (IntKind.wrap .i64 (x1_1.f1 - 1)), x6_0.f1⟩ : S37)] : List S37)).length p7_10.2), (25, .slice p4_6.1 (cutL x1_1.f3 ((0 : Int).toNat) (((if (x1_1.f3.length : Int) < 8 then (x1_1.f3.length : Int) else 8) : Int).toNat)).length p4_6.2), (26, .int .i64 ((cutL x1_1.f3 ((0 : Int).toNat) (((if (x1_1.f3.length : Int) < 8 then (x1_1.f3.length : Int) else 8) : Int).toNat)).length : Int)), (27, .int .i64 (IntKind.wrap .i64 (s25.2 + 1)))]) (bx' := [⟨p6_2, [.int .i64 x6_0.f0, .string x6_0.f1], 71⟩, ⟨p0_1, [.int .i64 0, .int .i64 0, .int .i64 0, .slice none 0 0, .bool false], 24⟩, ⟨p0_0, [.int .i64 x1_1.f0, .int .i64 x1_1.f1, .int .i64 x1_1.f2, .slice p1_1.1 x1_1.f3.length p1_1.2, .bool x1_1.f4], 24⟩]) (by kernel_rfl) ?_
              refine O.nil (by kernel_rfl) ?_
              exact J.conv2 [1, 2, 4, 25, 26, 27] [0, 1, 2] [1, 2] [0] (by kernel_rfl) (by kernel_rfl) (by kernel_rfl) (by kernel_rfl) (by decide) (ih25 ((s25.1 ++ ([(⟨x6_0.f0, (IntKind.wrap .i64 (x1_1.f1 - 1)), x6_0.f1⟩ : S37)] : List S37)), (IntKind.wrap .i64 (s25.2 + 1))) p7_10 H)
            · refine J.condF (x := .tmp 28) (t := (decide (s25.2 < ((cutL x1_1.f3 ((0 : Int).toNat) (((if (x1_1.f3.length : Int) < 8 then (x1_1.f3.length : Int) else 8) : Int).toNat)).length : Int)))) (by kernel_rfl) (by kernel_rfl) hc28 ?_
              refine J.exit (id := 1) (by kernel_rfl) rfl ?_
              obtain rfl := Option.some.inj H
              exact J.conv2 [1, 2, 4] [1, 2] [0, 1] [0] (by kernel_rfl) (by kernel_rfl) (by kernel_rfl) (by kernel_rfl) (by decide) (hj20 g25)
          · refine J.nilrow kd37 37 ?_
            exact J.conv2 [1, 2, 4, 25, 26, 27] [0, 1, 2] [0, 1] [0] (by kernel_rfl) (by kernel_rfl) (by kernel_rfl) (by kernel_rfl) (by decide) h_
      · refine J.condF (x := .tmp 9) (t := (x1_1.f2 == 0)) (by kernel_rfl) (by kernel_rfl) hc19 ?_
        refine J.seq (by kernel_rfl) ?_
        refine J.region (by kernel_rfl) ?_
        refine O.pure 4 [(1, 2)] [1, 2, 4, 47] [p0_0, 2] (fr' := [(1, .pointer (some ⟨p0_0, 0, none⟩)), (2, .pointer (some ⟨p0_1, 0, none⟩)), (4, .slice none 0 0), (47, .bool (decide (x1_1.f2 > 0)))]) (bx' := [⟨p0_1, [.int .i64 0, .int .i64 0, .int .i64 0, .slice none 0 0, .bool false], 24⟩, ⟨p0_0, [.int .i64 x1_1.f0, .int .i64 x1_1.f1, .int .i64 x1_1.f2, .slice p1_1.1 x1_1.f3.length p1_1.2, .bool x1_1.f4], 24⟩]) (by kernel_rfl) ?_
        refine O.nil (by kernel_rfl) ?_
        rcases condE H with ⟨hc29, H⟩ | ⟨hc29, H⟩
        · refine J.condT (x := .tmp 47) (t := (decide (x1_1.f2 > 0))) (by kernel_rfl) (by kernel_rfl) hc29 ?_
          refine J.region (by kernel_rfl) ?_
          refine O.pure 5 [(1, 2), (1, 2)] [1, 2, 4] [p0_0, 2, p0_0, 2] (fr' := [(1, .pointer (some ⟨p0_0, 0, none⟩)), (2, .pointer (some ⟨p0_1, 0, none⟩)), (4, .slice none 0 0)]) (bx' := [⟨p0_1, [.int .i64 0, .int .i64 0, .int .i64 0, .slice none 0 0, .bool false], 24⟩, ⟨p0_0, [.int .i64 x1_1.f0, .int .i64 x1_1.f1, .int .i64 (IntKind.wrap .i64 (x1_1.f2 - 1)), .slice p1_1.1 x1_1.f3.length p1_1.2, .bool x1_1.f4], 24⟩]) (by kernel_rfl) ?_
          refine O.nil (by kernel_rfl) ?_
          refine J.out ?_
          obtain rfl := Option.some.inj H
          exact J.conv2 [1, 2, 4] [0] [0, 1] [0] (by kernel_rfl) (by kernel_rfl) (by kernel_rfl) (by kernel_rfl) (by decide) (hj1.1 _ rfl ())
        · refine J.condF (x := .tmp 47) (t := (decide (x1_1.f2 > 0))) (by kernel_rfl) (by kernel_rfl) hc29 ?_
          refine J.skip (by kernel_rfl) ?_
          refine J.out ?_
          obtain rfl := Option.some.inj H
          exact J.conv2 [1, 2, 4] [0] [0, 1] [0] (by kernel_rfl) (by kernel_rfl) (by kernel_rfl) (by kernel_rfl) (by decide) (hj1.1 _ rfl ())
    · refine J.region (by kernel_rfl) ?_
      refine O.pure 3 [(1, 3)] [1, 2, 4, 12] [p0_0, 3] (fr' := [(1, .pointer (some ⟨p0_0, 0, none⟩)), (2, .pointer (some ⟨p0_1, 0, none⟩)), (4, .slice none 0 0), (12, .int .i64 (x1_1.f3.length : Int))]) (bx' := [⟨p0_1, [.int .i64 0, .int .i64 0, .int .i64 0, .slice none 0 0, .bool false], 24⟩, ⟨p0_0, [.int .i64 x1_1.f0, .int .i64 x1_1.f1, .int .i64 x1_1.f2, .slice p1_1.1 x1_1.f3.length p1_1.2, .bool x1_1.f4], 24⟩]) (by kernel_rfl) ?_
      refine O.q (v := .bool false) (some 13) (Qu.eqv (u := .bool (decide ((x1_1.f3.length : Int) > 0))) (v := .bool false) (0, 0) [] (by kernel_rfl) (congrArg Value.bool hc18)) (by kernel_rfl) ?_
      refine O.pure 6 [] [1, 2, 4, 9] [] (fr' := [(1, .pointer (some ⟨p0_0, 0, none⟩)), (2, .pointer (some ⟨p0_1, 0, none⟩)), (4, .slice none 0 0), (9, .bool false)]) (bx' := [⟨p0_1, [.int .i64 0, .int .i64 0, .int .i64 0, .slice none 0 0, .bool false], 24⟩, ⟨p0_0, [.int .i64 x1_1.f0, .int .i64 x1_1.f1, .int .i64 x1_1.f2, .slice p1_1.1 x1_1.f3.length p1_1.2, .bool x1_1.f4], 24⟩]) (by kernel_rfl) ?_
      refine O.nil (by kernel_rfl) ?_
      refine J.cond (o := .tmp 9) false (by kernel_rfl) (by kernel_rfl) ?_
      refine J.seq (by kernel_rfl) ?_
      refine J.region (by kernel_rfl) ?_
      refine O.pure 4 [(1, 2)] [1, 2, 4, 47] [p0_0, 2] (fr' := [(1, .pointer (some ⟨p0_0, 0, none⟩)), (2, .pointer (some ⟨p0_1, 0, none⟩)), (4, .slice none 0 0), (47, .bool (decide (x1_1.f2 > 0)))]) (bx' := [⟨p0_1, [.int .i64 0, .int .i64 0, .int .i64 0, .slice none 0 0, .bool false], 24⟩, ⟨p0_0, [.int .i64 x1_1.f0, .int .i64 x1_1.f1, .int .i64 x1_1.f2, .slice p1_1.1 x1_1.f3.length p1_1.2, .bool x1_1.f4], 24⟩]) (by kernel_rfl) ?_
      refine O.nil (by kernel_rfl) ?_
      rcases condE H with ⟨hc30, H⟩ | ⟨hc30, H⟩
      · refine J.condT (x := .tmp 47) (t := (decide (x1_1.f2 > 0))) (by kernel_rfl) (by kernel_rfl) hc30 ?_
        refine J.region (by kernel_rfl) ?_
        refine O.pure 5 [(1, 2), (1, 2)] [1, 2, 4] [p0_0, 2, p0_0, 2] (fr' := [(1, .pointer (some ⟨p0_0, 0, none⟩)), (2, .pointer (some ⟨p0_1, 0, none⟩)), (4, .slice none 0 0)]) (bx' := [⟨p0_1, [.int .i64 0, .int .i64 0, .int .i64 0, .slice none 0 0, .bool false], 24⟩, ⟨p0_0, [.int .i64 x1_1.f0, .int .i64 x1_1.f1, .int .i64 (IntKind.wrap .i64 (x1_1.f2 - 1)), .slice p1_1.1 x1_1.f3.length p1_1.2, .bool x1_1.f4], 24⟩]) (by kernel_rfl) ?_
        refine O.nil (by kernel_rfl) ?_
        refine J.out ?_
        obtain rfl := Option.some.inj H
        exact J.conv2 [1, 2, 4] [0] [0, 1] [0] (by kernel_rfl) (by kernel_rfl) (by kernel_rfl) (by kernel_rfl) (by decide) (hj1.1 _ rfl ())
      · refine J.condF (x := .tmp 47) (t := (decide (x1_1.f2 > 0))) (by kernel_rfl) (by kernel_rfl) hc30 ?_
        refine J.skip (by kernel_rfl) ?_
        refine J.out ?_
        obtain rfl := Option.some.inj H
        exact J.conv2 [1, 2, 4] [0] [0, 1] [0] (by kernel_rfl) (by kernel_rfl) (by kernel_rfl) (by kernel_rfl) (by decide) (hj1.1 _ rfl ())
/-! ### haywain/link.Take: function 21 -/
def link_Take.l18 (K : Nat) (a1 : S37) (x1_1 : S24) : Nat → Int → Option Int
  | 0, _ => none
  | k + 1, s18 => cond (decide (s18 < (x1_1.f3.length : Int))) ((idxO x1_1.f3 s18).bind fun x5_9 => cond (decide (x5_9.f0 ≤ a1.f1)) (link_Take.l18 K a1 x1_1 k (IntKind.wrap .i64 (s18 + 1))) (some (s18))) (some (s18))
def link_Take.f (K : Nat) (a0 : S24) (a1 : S37) : Option (S24 × ByteArray × Bool) := (link_own.f K a0).bind fun x1_1 => cond (decide (a1.f0 < 0)) (some ((x1_1, (⟨#[]⟩ : ByteArray), false))) (cond (decide (a1.f1 < 0)) (some ((x1_1, (⟨#[]⟩ : ByteArray), false))) (cond (decide (a1.f1 ≥ x1_1.f0)) (some ((x1_1, (⟨#[]⟩ : ByteArray), false))) ((link_Take.l18 K a1 x1_1 K 0 : Option Int).bind fun o4 : Int => (cond (decide (o4 > 0)) ((cutO x1_1.f3 o4 (x1_1.f3.length : Int)).bind fun y8_9 => some ((0, (cutL x1_1.f3 ((o4 : Int).toNat) (((x1_1.f3.length : Int) : Int).toNat))))) (some ((x1_1.f2, x1_1.f3))) : Option (Int × (List S71))).bind fun o12 : Int × (List S71) => cond (a1.f0 == 0) (some (((⟨x1_1.f0, x1_1.f1, o12.1, o12.2, x1_1.f4⟩ : S24), (⟨#[]⟩ : ByteArray), false))) (cond (a1.f0 != x1_1.f1) (some (((⟨x1_1.f0, x1_1.f1, o12.1, o12.2, true⟩ : S24), (⟨#[]⟩ : ByteArray), false))) (cond (decide (x1_1.f1 ≥ 1099511627776)) (some (((⟨x1_1.f0, x1_1.f1, o12.1, o12.2, true⟩ : S24), (⟨#[]⟩ : ByteArray), false))) (some (((⟨x1_1.f0, (IntKind.wrap .i64 (x1_1.f1 + 1)), o12.1, o12.2, true⟩ : S24), a1.f2, true))))))))
set_option maxRecDepth 100000 in
set_option maxHeartbeats 1000000 in
theorem link_Take.con (K : Nat) (a0 : S24) (a1 : S37) (h0 : Hd) (r : (S24 × ByteArray × Bool)) (X : Nat → Nat → Prop) (w : World) (hS : St X w [] [] [] [] [Rd kd71 h0.1 h0.2 a0.f3] w) (H : link_Take.f K a0 a1 = some r) :
    Cn Try.prog 21 [.agg #[.int .i64 a0.f0, .int .i64 a0.f1, .int .i64 a0.f2, .slice h0.1 a0.f3.length h0.2, .bool a0.f4], .agg #[.int .i64 a1.f0, .int .i64 a1.f1, .string a1.f2]] X w [] (fun i : Hd => .tuple #[.agg #[.int .i64 r.1.f0, .int .i64 r.1.f1, .int .i64 r.1.f2, .slice i.1 r.1.f3.length i.2, .bool r.1.f4], .string r.2.1, .bool r.2.2]) (fun i => []) (fun i => []) (fun i => [Rd kd71 i.1 i.2 r.1.f3]) := by
  refine Cn.of Try.func21 (by kernel_rfl) hS ?_
  unfold link_Take.f at H
  refine J.seq (by kernel_rfl) ?_
  refine J.region (by kernel_rfl) ?_
  refine O.e (some 2) (Ev.box (t := 24) (x := .tmp 0) (v := .agg #[.int .i64 a0.f0, .int .i64 a0.f1, .int .i64 a0.f2, .slice h0.1 a0.f3.length h0.2, .bool a0.f4]) (by kernel_rfl) (by kernel_rfl)) (by kernel_rfl) (fun p0_0 => ?_)
  refine O.e (some 3) (Ev.box (t := 37) (x := .tmp 1) (v := .agg #[.int .i64 a1.f0, .int .i64 a1.f1, .string a1.f2]) (by kernel_rfl) (by kernel_rfl)) (by kernel_rfl) (fun p0_1 => ?_)
  refine O.e (some 4) (Ev.alloc (t := 24) (z := .agg #[.int .i64 0, .int .i64 0, .int .i64 0, .slice none 0 0, .bool false]) (by kernel_rfl) (by kernel_rfl)) (by kernel_rfl) (fun p0_2 => ?_)
  refine O.pure 2 [] [2, 3, 4] [] (fr' := [(2, .pointer (some ⟨p0_0, 0, none⟩)), (3, .pointer (some ⟨p0_1, 0, none⟩)), (4, .pointer (some ⟨p0_2, 0, none⟩))]) (bx' := [⟨p0_2, [.int .i64 0, .int .i64 0, .int .i64 0, .slice none 0 0, .bool false], 24⟩, ⟨p0_1, [.int .i64 a1.f0, .int .i64 a1.f1, .string a1.f2], 37⟩, ⟨p0_0, [.int .i64 a0.f0, .int .i64 a0.f1, .int .i64 a0.f2, .slice h0.1 a0.f3.length h0.2, .bool a0.f4], 24⟩]) (by kernel_rfl) ?_
  refine O.nil (by kernel_rfl) ?_
  refine J.seq (by kernel_rfl) ?_
  obtain ⟨x1_1, hx1_1, H⟩ := bindE H
  refine J.region (by kernel_rfl) ?_
  refine O.pure 1 [(2, 0)] [2, 3, 4, 8] [p0_0, 0] (fr' := [(2, .pointer (some ⟨p0_0, 0, none⟩)), (3, .pointer (some ⟨p0_1, 0, none⟩)), (4, .pointer (some ⟨p0_2, 0, none⟩)), (8, .agg #[.int .i64 a0.f0, .int .i64 a0.f1, .int .i64 a0.f2, .slice h0.1 a0.f3.length h0.2, .bool a0.f4])]) (bx' := [⟨p0_2, [.int .i64 0, .int .i64 0, .int .i64 0, .slice none 0 0, .bool false], 24⟩, ⟨p0_1, [.int .i64 a1.f0, .int .i64 a1.f1, .string a1.f2], 37⟩, ⟨p0_0, [.int .i64 a0.f0, .int .i64 a0.f1, .int .i64 a0.f2, .slice h0.1 a0.f3.length h0.2, .bool a0.f4], 24⟩]) (by kernel_rfl) ?_
  refine O.e (some 9) (Ev.call0 (xs := [.tmp 8]) [0] (by kernel_rfl) (by kernel_rfl) (fun w hS => link_own.con K a0 h0  _ _ w hS hx1_1)) (by kernel_rfl) (fun p1_1 => ?_)
  refine O.pure 1 [(2, 0)] [2, 3, 4] [p0_0, 0] (fr' := [(2, .pointer (some ⟨p0_0, 0, none⟩)), (3, .pointer (some ⟨p0_1, 0, none⟩)), (4, .pointer (some ⟨p0_2, 0, none⟩))]) (bx' := [⟨p0_2, [.int .i64 0, .int .i64 0, .int .i64 0, .slice none 0 0, .bool false], 24⟩, ⟨p0_1, [.int .i64 a1.f0, .int .i64 a1.f1, .string a1.f2], 37⟩, ⟨p0_0, [.int .i64 x1_1.f0, .int .i64 x1_1.f1, .int .i64 x1_1.f2, .slice p1_1.1 x1_1.f3.length p1_1.2, .bool x1_1.f4], 24⟩]) (by kernel_rfl) ?_
  refine O.nil (by kernel_rfl) ?_
  refine J.seq (by kernel_rfl) ?_
  refine J.seq (by kernel_rfl) ?_
  rcases condE H with ⟨hc1, H⟩ | ⟨hc1, H⟩
  · refine J.region (by kernel_rfl) ?_
    refine O.pure 2 [(1, 0)] [2, 3, 4, 11] [p0_1, 0] (fr' := [(2, .pointer (some ⟨p0_0, 0, none⟩)), (3, .pointer (some ⟨p0_1, 0, none⟩)), (4, .pointer (some ⟨p0_2, 0, none⟩)), (11, .int .i64 a1.f0)]) (bx' := [⟨p0_2, [.int .i64 0, .int .i64 0, .int .i64 0, .slice none 0 0, .bool false], 24⟩, ⟨p0_1, [.int .i64 a1.f0, .int .i64 a1.f1, .string a1.f2], 37⟩, ⟨p0_0, [.int .i64 x1_1.f0, .int .i64 x1_1.f1, .int .i64 x1_1.f2, .slice p1_1.1 x1_1.f3.length p1_1.2, .bool x1_1.f4], 24⟩]) (by kernel_rfl) ?_
    refine O.q (v := .bool true) (some 12) (Qu.eqv (u := .bool (decide (a1.f0 < 0))) (v := .bool true) (0, 0) [] (by kernel_rfl) (congrArg Value.bool hc1)) (by kernel_rfl) ?_
    refine O.pure 12 [] [2, 3, 4, 24] [] (fr' := [(2, .pointer (some ⟨p0_0, 0, none⟩)), (3, .pointer (some ⟨p0_1, 0, none⟩)), (4, .pointer (some ⟨p0_2, 0, none⟩)), (24, .bool true)]) (bx' := [⟨p0_2, [.int .i64 0, .int .i64 0, .int .i64 0, .slice none 0 0, .bool false], 24⟩, ⟨p0_1, [.int .i64 a1.f0, .int .i64 a1.f1, .string a1.f2], 37⟩, ⟨p0_0, [.int .i64 x1_1.f0, .int .i64 x1_1.f1, .int .i64 x1_1.f2, .slice p1_1.1 x1_1.f3.length p1_1.2, .bool x1_1.f4], 24⟩]) (by kernel_rfl) ?_
    refine O.nil (by kernel_rfl) ?_
    refine J.cond (o := .tmp 24) true (by kernel_rfl) (by kernel_rfl) ?_
    refine J.seq (by kernel_rfl) ?_
    refine J.region (by kernel_rfl) ?_
    refine O.pure 4 [(2, 0), (0, 0)] [4, 5, 6] [p0_0, 0, p0_2, 0] (fr' := [(4, .pointer (some ⟨p0_2, 0, none⟩)), (5, .string (⟨#[]⟩ : ByteArray)), (6, .bool false)]) (bx' := [⟨p0_2, [.int .i64 x1_1.f0, .int .i64 x1_1.f1, .int .i64 x1_1.f2, .slice p1_1.1 x1_1.f3.length p1_1.2, .bool x1_1.f4], 24⟩, ⟨p0_1, [.int .i64 a1.f0, .int .i64 a1.f1, .string a1.f2], 37⟩, ⟨p0_0, [.int .i64 x1_1.f0, .int .i64 x1_1.f1, .int .i64 x1_1.f2, .slice p1_1.1 x1_1.f3.length p1_1.2, .bool x1_1.f4], 24⟩]) (by kernel_rfl) ?_
    refine O.nil (by kernel_rfl) ?_
    obtain rfl := Option.some.inj H
    refine J.mono (fun w hS => hS.freezeH (h := p1_1) (xs := x1_1.f3)) ?_
    exact J.doneS [(0, 0)] [p0_2, 0] [0] [] [] p1_1 (vs := [.agg #[.int .i64 x1_1.f0, .int .i64 x1_1.f1, .int .i64 x1_1.f2, .slice p1_1.1 x1_1.f3.length p1_1.2, .bool x1_1.f4], .string (⟨#[]⟩ : ByteArray), .bool false]) (by kernel_rfl) (by kernel_rfl) (by kernel_rfl) (by kernel_rfl) (by kernel_rfl) (by decide)
  · rcases condE H with ⟨hc2, H⟩ | ⟨hc2, H⟩
    · refine J.region (by kernel_rfl) ?_
      refine O.pure 2 [(1, 0)] [2, 3, 4, 11] [p0_1, 0] (fr' := [(2, .pointer (some ⟨p0_0, 0, none⟩)), (3, .pointer (some ⟨p0_1, 0, none⟩)), (4, .pointer (some ⟨p0_2, 0, none⟩)), (11, .int .i64 a1.f0)]) (bx' := [⟨p0_2, [.int .i64 0, .int .i64 0, .int .i64 0, .slice none 0 0, .bool false], 24⟩, ⟨p0_1, [.int .i64 a1.f0, .int .i64 a1.f1, .string a1.f2], 37⟩, ⟨p0_0, [.int .i64 x1_1.f0, .int .i64 x1_1.f1, .int .i64 x1_1.f2, .slice p1_1.1 x1_1.f3.length p1_1.2, .bool x1_1.f4], 24⟩]) (by kernel_rfl) ?_
      refine O.q (v := .bool false) (some 12) (Qu.eqv (u := .bool (decide (a1.f0 < 0))) (v := .bool false) (0, 0) [] (by kernel_rfl) (congrArg Value.bool hc1)) (by kernel_rfl) ?_
      refine O.pure 3 [(1, 1)] [2, 3, 4, 13, 15] [p0_1, 1] (fr' := [(2, .pointer (some ⟨p0_0, 0, none⟩)), (3, .pointer (some ⟨p0_1, 0, none⟩)), (4, .pointer (some ⟨p0_2, 0, none⟩)), (13, .bool false), (15, .int .i64 a1.f1)]) (bx' := [⟨p0_2, [.int .i64 0, .int .i64 0, .int .i64 0, .slice none 0 0, .bool false], 24⟩, ⟨p0_1, [.int .i64 a1.f0, .int .i64 a1.f1, .string a1.f2], 37⟩, ⟨p0_0, [.int .i64 x1_1.f0, .int .i64 x1_1.f1, .int .i64 x1_1.f2, .slice p1_1.1 x1_1.f3.length p1_1.2, .bool x1_1.f4], 24⟩]) (by kernel_rfl) ?_
      refine O.q (v := .bool true) (some 16) (Qu.eqv (u := .bool (decide (a1.f1 < 0))) (v := .bool true) (0, 0) [] (by kernel_rfl) (congrArg Value.bool hc2)) (by kernel_rfl) ?_
      refine O.pure 8 [] [2, 3, 4, 24] [] (fr' := [(2, .pointer (some ⟨p0_0, 0, none⟩)), (3, .pointer (some ⟨p0_1, 0, none⟩)), (4, .pointer (some ⟨p0_2, 0, none⟩)), (24, .bool true)]) (bx' := [⟨p0_2, [.int .i64 0, .int .i64 0, .int .i64 0, .slice none 0 0, .bool false], 24⟩, ⟨p0_1, [.int .i64 a1.f0, .int .i64 a1.f1, .string a1.f2], 37⟩, ⟨p0_0, [.int .i64 x1_1.f0, .int .i64 x1_1.f1, .int .i64 x1_1.f2, .slice p1_1.1 x1_1.f3.length p1_1.2, .bool x1_1.f4], 24⟩]) (by kernel_rfl) ?_
      refine O.nil (by kernel_rfl) ?_
      refine J.cond (o := .tmp 24) true (by kernel_rfl) (by kernel_rfl) ?_
      refine J.seq (by kernel_rfl) ?_
      refine J.region (by kernel_rfl) ?_
      refine O.pure 4 [(2, 0), (0, 0)] [4, 5, 6] [p0_0, 0, p0_2, 0] (fr' := [(4, .pointer (some ⟨p0_2, 0, none⟩)), (5, .string (⟨#[]⟩ : ByteArray)), (6, .bool false)]) (bx' := [⟨p0_2, [.int .i64 x1_1.f0, .int .i64 x1_1.f1, .int .i64 x1_1.f2, .slice p1_1.1 x1_1.f3.length p1_1.2, .bool x1_1.f4], 24⟩, ⟨p0_1, [.int .i64 a1.f0, .int .i64 a1.f1, .string a1.f2], 37⟩, ⟨p0_0, [.int .i64 x1_1.f0, .int .i64 x1_1.f1, .int .i64 x1_1.f2, .slice p1_1.1 x1_1.f3.length p1_1.2, .bool x1_1.f4], 24⟩]) (by kernel_rfl) ?_
      refine O.nil (by kernel_rfl) ?_
      obtain rfl := Option.some.inj H
      refine J.mono (fun w hS => hS.freezeH (h := p1_1) (xs := x1_1.f3)) ?_
      exact J.doneS [(0, 0)] [p0_2, 0] [0] [] [] p1_1 (vs := [.agg #[.int .i64 x1_1.f0, .int .i64 x1_1.f1, .int .i64 x1_1.f2, .slice p1_1.1 x1_1.f3.length p1_1.2, .bool x1_1.f4], .string (⟨#[]⟩ : ByteArray), .bool false]) (by kernel_rfl) (by kernel_rfl) (by kernel_rfl) (by kernel_rfl) (by kernel_rfl) (by decide)
    · refine J.region (by kernel_rfl) ?_
      refine O.pure 2 [(1, 0)] [2, 3, 4, 11] [p0_1, 0] (fr' := [(2, .pointer (some ⟨p0_0, 0, none⟩)), (3, .pointer (some ⟨p0_1, 0, none⟩)), (4, .pointer (some ⟨p0_2, 0, none⟩)), (11, .int .i64 a1.f0)]) (bx' := [⟨p0_2, [.int .i64 0, .int .i64 0, .int .i64 0, .slice none 0 0, .bool false], 24⟩, ⟨p0_1, [.int .i64 a1.f0, .int .i64 a1.f1, .string a1.f2], 37⟩, ⟨p0_0, [.int .i64 x1_1.f0, .int .i64 x1_1.f1, .int .i64 x1_1.f2, .slice p1_1.1 x1_1.f3.length p1_1.2, .bool x1_1.f4], 24⟩]) (by kernel_rfl) ?_
      refine O.q (v := .bool false) (some 12) (Qu.eqv (u := .bool (decide (a1.f0 < 0))) (v := .bool false) (0, 0) [] (by kernel_rfl) (congrArg Value.bool hc1)) (by kernel_rfl) ?_
      refine O.pure 3 [(1, 1)] [2, 3, 4, 13, 15] [p0_1, 1] (fr' := [(2, .pointer (some ⟨p0_0, 0, none⟩)), (3, .pointer (some ⟨p0_1, 0, none⟩)), (4, .pointer (some ⟨p0_2, 0, none⟩)), (13, .bool false), (15, .int .i64 a1.f1)]) (bx' := [⟨p0_2, [.int .i64 0, .int .i64 0, .int .i64 0, .slice none 0 0, .bool false], 24⟩, ⟨p0_1, [.int .i64 a1.f0, .int .i64 a1.f1, .string a1.f2], 37⟩, ⟨p0_0, [.int .i64 x1_1.f0, .int .i64 x1_1.f1, .int .i64 x1_1.f2, .slice p1_1.1 x1_1.f3.length p1_1.2, .bool x1_1.f4], 24⟩]) (by kernel_rfl) ?_
      refine O.q (v := .bool false) (some 16) (Qu.eqv (u := .bool (decide (a1.f1 < 0))) (v := .bool false) (0, 0) [] (by kernel_rfl) (congrArg Value.bool hc2)) (by kernel_rfl) ?_
      refine O.pure 8 [(1, 1), (2, 0)] [2, 3, 4, 24] [p0_1, 1, p0_0, 0] (fr' := [(2, .pointer (some ⟨p0_0, 0, none⟩)), (3, .pointer (some ⟨p0_1, 0, none⟩)), (4, .pointer (some ⟨p0_2, 0, none⟩)), (24, .bool (decide (a1.f1 ≥ x1_1.f0)))]) (bx' := [⟨p0_2, [.int .i64 0, .int .i64 0, .int .i64 0, .slice none 0 0, .bool false], 24⟩, ⟨p0_1, [.int .i64 a1.f0, .int .i64 a1.f1, .string a1.f2], 37⟩, ⟨p0_0, [.int .i64 x1_1.f0, .int .i64 x1_1.f1, .int .i64 x1_1.f2, .slice p1_1.1 x1_1.f3.length p1_1.2, .bool x1_1.f4], 24⟩]) (by kernel_rfl) ?_
      refine O.nil (by kernel_rfl) ?_
      rcases condE H with ⟨hc3, H⟩ | ⟨hc3, H⟩
      · refine J.condT (x := .tmp 24) (t := (decide (a1.f1 ≥ x1_1.f0))) (by kernel_rfl) (by kernel_rfl) hc3 ?_
        refine J.seq (by kernel_rfl) ?_
        refine J.region (by kernel_rfl) ?_
        refine O.pure 4 [(2, 0), (0, 0)] [4, 5, 6] [p0_0, 0, p0_2, 0] (fr' := [(4, .pointer (some ⟨p0_2, 0, none⟩)), (5, .string (⟨#[]⟩ : ByteArray)), (6, .bool false)]) (bx' := [⟨p0_2, [.int .i64 x1_1.f0, .int .i64 x1_1.f1, .int .i64 x1_1.f2, .slice p1_1.1 x1_1.f3.length p1_1.2, .bool x1_1.f4], 24⟩, ⟨p0_1, [.int .i64 a1.f0, .int .i64 a1.f1, .string a1.f2], 37⟩, ⟨p0_0, [.int .i64 x1_1.f0, .int .i64 x1_1.f1, .int .i64 x1_1.f2, .slice p1_1.1 x1_1.f3.length p1_1.2, .bool x1_1.f4], 24⟩]) (by kernel_rfl) ?_
        refine O.nil (by kernel_rfl) ?_
        obtain rfl := Option.some.inj H
        refine J.mono (fun w hS => hS.freezeH (h := p1_1) (xs := x1_1.f3)) ?_
        exact J.doneS [(0, 0)] [p0_2, 0] [0] [] [] p1_1 (vs := [.agg #[.int .i64 x1_1.f0, .int .i64 x1_1.f1, .int .i64 x1_1.f2, .slice p1_1.1 x1_1.f3.length p1_1.2, .bool x1_1.f4], .string (⟨#[]⟩ : ByteArray), .bool false]) (by kernel_rfl) (by kernel_rfl) (by kernel_rfl) (by kernel_rfl) (by kernel_rfl) (by decide)
      · refine J.condF (x := .tmp 24) (t := (decide (a1.f1 ≥ x1_1.f0))) (by kernel_rfl) (by kernel_rfl) hc3 ?_
        refine J.skip (by kernel_rfl) ?_
        refine J.seq (by kernel_rfl) ?_
        refine J.region (by kernel_rfl) ?_
        refine O.pure 1 [] [2, 3, 4, 7] [] (fr' := [(2, .pointer (some ⟨p0_0, 0, none⟩)), (3, .pointer (some ⟨p0_1, 0, none⟩)), (4, .pointer (some ⟨p0_2, 0, none⟩)), (7, .int .i64 0)]) (bx' := [⟨p0_2, [.int .i64 0, .int .i64 0, .int .i64 0, .slice none 0 0, .bool false], 24⟩, ⟨p0_1, [.int .i64 a1.f0, .int .i64 a1.f1, .string a1.f2], 37⟩, ⟨p0_0, [.int .i64 x1_1.f0, .int .i64 x1_1.f1, .int .i64 x1_1.f2, .slice p1_1.1 x1_1.f3.length p1_1.2, .bool x1_1.f4], 24⟩]) (by kernel_rfl) ?_
        refine O.nil (by kernel_rfl) ?_
        refine J.seq (by kernel_rfl) ?_
        refine J.join (α := Int) (γ := Unit) (fun o4 q4 => [(2, .pointer (some ⟨p0_0, 0, none⟩)), (3, .pointer (some ⟨p0_1, 0, none⟩)), (4, .pointer (some ⟨p0_2, 0, none⟩)), (7, .int .i64 o4)]) (fun o4 q4 => St X w [] [⟨p0_2, [.int .i64 0, .int .i64 0, .int .i64 0, .slice none 0 0, .bool false], 24⟩, ⟨p0_1, [.int .i64 a1.f0, .int .i64 a1.f1, .string a1.f2], 37⟩, ⟨p0_0, [.int .i64 x1_1.f0, .int .i64 x1_1.f1, .int .i64 x1_1.f2, .slice p1_1.1 x1_1.f3.length p1_1.2, .bool x1_1.f4], 24⟩] [] [] [Rd kd71 h0.1 h0.2 a0.f3, Rd kd71 p1_1.1 p1_1.2 x1_1.f3]) H (fun o4 q4 H => ?_) (fun o4 H hj4 => ?_)
        · refine J.seq (by kernel_rfl) ?_
          refine J.seq (by kernel_rfl) ?_
          refine J.region (by kernel_rfl) ?_
          refine O.pure 2 [] [2, 3, 4, 7, 45] [] (fr' := [(2, .pointer (some ⟨p0_0, 0, none⟩)), (3, .pointer (some ⟨p0_1, 0, none⟩)), (4, .pointer (some ⟨p0_2, 0, none⟩)), (7, .int .i64 o4), (45, .bool (decide (o4 > 0)))]) (bx' := [⟨p0_2, [.int .i64 0, .int .i64 0, .int .i64 0, .slice none 0 0, .bool false], 24⟩, ⟨p0_1, [.int .i64 a1.f0, .int .i64 a1.f1, .string a1.f2], 37⟩, ⟨p0_0, [.int .i64 x1_1.f0, .int .i64 x1_1.f1, .int .i64 x1_1.f2, .slice p1_1.1 x1_1.f3.length p1_1.2, .bool x1_1.f4], 24⟩]) (by kernel_rfl) ?_
          refine O.nil (by kernel_rfl) ?_
          refine J.join (α := Int × (List S71)) (γ := Hd) (fun o12 q12 => [(2, .pointer (some ⟨p0_0, 0, none⟩)), (3, .pointer (some ⟨p0_1, 0, none⟩)), (4, .pointer (some ⟨p0_2, 0, none⟩))]) (fun o12 q12 => St X w [] [⟨p0_2, [.int .i64 0, .int .i64 0, .int .i64 0, .slice none 0 0, .bool false], 24⟩, ⟨p0_1, [.int .i64 a1.f0, .int .i64 a1.f1, .string a1.f2], 37⟩, ⟨p0_0, [.int .i64 x1_1.f0, .int .i64 x1_1.f1, .int .i64 o12.1, .slice q12.1 o12.2.length q12.2, .bool x1_1.f4], 24⟩] [] [] [Rd kd71 q12.1 q12.2 o12.2, Rd kd71 h0.1 h0.2 a0.f3]) H (fun o12 q12 H => ?_) (fun o12 H hj12 => ?_)
          · refine J.seq (by kernel_rfl) ?_
            refine J.seq (by kernel_rfl) ?_
            refine J.region (by kernel_rfl) ?_
            refine O.pure 3 [(1, 0)] [2, 3, 4, 60] [p0_1, 0] (fr' := [(2, .pointer (some ⟨p0_0, 0, none⟩)), (3, .pointer (some ⟨p0_1, 0, none⟩)), (4, .pointer (some ⟨p0_2, 0, none⟩)), (60, .bool (a1.f0 == 0))]) (bx' := [⟨p0_2, [.int .i64 0, .int .i64 0, .int .i64 0, .slice none 0 0, .bool false], 24⟩, ⟨p0_1, [.int .i64 a1.f0, .int .i64 a1.f1, .string a1.f2], 37⟩, ⟨p0_0, [.int .i64 x1_1.f0, .int .i64 x1_1.f1, .int .i64 o12.1, .slice q12.1 o12.2.length q12.2, .bool x1_1.f4], 24⟩]) (by kernel_rfl) ?_
            refine O.nil (by kernel_rfl) ?_
            rcases condE H with ⟨hc14, H⟩ | ⟨hc14, H⟩
            · refine J.condT (x := .tmp 60) (t := (a1.f0 == 0)) (by kernel_rfl) (by kernel_rfl) hc14 ?_
              refine J.seq (by kernel_rfl) ?_
              refine J.region (by kernel_rfl) ?_
              refine O.pure 4 [(2, 0), (0, 0)] [4, 5, 6] [p0_0, 0, p0_2, 0] (fr' := [(4, .pointer (some ⟨p0_2, 0, none⟩)), (5, .string (⟨#[]⟩ : ByteArray)), (6, .bool false)]) (bx' := [⟨p0_2, [.int .i64 x1_1.f0, .int .i64 x1_1.f1, .int .i64 o12.1, .slice q12.1 o12.2.length q12.2, .bool x1_1.f4], 24⟩, ⟨p0_1, [.int .i64 a1.f0, .int .i64 a1.f1, .string a1.f2], 37⟩, ⟨p0_0, [.int .i64 x1_1.f0, .int .i64 x1_1.f1, .int .i64 o12.1, .slice q12.1 o12.2.length q12.2, .bool x1_1.f4], 24⟩]) (by kernel_rfl) ?_
              refine O.nil (by kernel_rfl) ?_
              obtain rfl := Option.some.inj H
              exact J.doneS [(0, 0)] [p0_2, 0] [0] [] [] q12 (vs := [.agg #[.int .i64 x1_1.f0, .int .i64 x1_1.f1, .int .i64 o12.1, .slice q12.1 o12.2.length q12.2, .bool x1_1.f4], .string (⟨#[]⟩ : ByteArray), .bool false]) (by kernel_rfl) (by kernel_rfl) (by kernel_rfl) (by kernel_rfl) (by kernel_rfl) (by decide)
            · refine J.condF (x := .tmp 60) (t := (a1.f0 == 0)) (by kernel_rfl) (by kernel_rfl) hc14 ?_
              refine J.skip (by kernel_rfl) ?_
              refine J.seq (by kernel_rfl) ?_
              refine J.region (by kernel_rfl) ?_
              refine O.pure 2 [(2, 4)] [2, 3, 4] [p0_0, 4] (fr' := [(2, .pointer (some ⟨p0_0, 0, none⟩)), (3, .pointer (some ⟨p0_1, 0, none⟩)), (4, .pointer (some ⟨p0_2, 0, none⟩))]) (bx' := [⟨p0_2, [.int .i64 0, .int .i64 0, .int .i64 0, .slice none 0 0, .bool false], 24⟩, ⟨p0_1, [.int .i64 a1.f0, .int .i64 a1.f1, .string a1.f2], 37⟩, ⟨p0_0, [.int .i64 x1_1.f0, .int .i64 x1_1.f1, .int .i64 o12.1, .slice q12.1 o12.2.length q12.2, .bool true], 24⟩]) (by kernel_rfl) ?_
              refine O.nil (by kernel_rfl) ?_
              refine J.seq (by kernel_rfl) ?_
              refine J.seq (by kernel_rfl) ?_
              rcases condE H with ⟨hc15, H⟩ | ⟨hc15, H⟩
              · refine J.region (by kernel_rfl) ?_
                refine O.pure 4 [(1, 0), (2, 1)] [2, 3, 4, 64, 66] [p0_1, 0, p0_0, 1] (fr' := [(2, .pointer (some ⟨p0_0, 0, none⟩)), (3, .pointer (some ⟨p0_1, 0, none⟩)), (4, .pointer (some ⟨p0_2, 0, none⟩)), (64, .int .i64 a1.f0), (66, .int .i64 x1_1.f1)]) (bx' := [⟨p0_2, [.int .i64 0, .int .i64 0, .int .i64 0, .slice none 0 0, .bool false], 24⟩, ⟨p0_1, [.int .i64 a1.f0, .int .i64 a1.f1, .string a1.f2], 37⟩, ⟨p0_0, [.int .i64 x1_1.f0, .int .i64 x1_1.f1, .int .i64 o12.1, .slice q12.1 o12.2.length q12.2, .bool true], 24⟩]) (by kernel_rfl) ?_
                refine O.q (v := .bool true) (some 67) (Qu.eqv (u := .bool (a1.f0 != x1_1.f1)) (v := .bool true) (0, 0) [] (by kernel_rfl) (congrArg Value.bool hc15)) (by kernel_rfl) ?_
                refine O.pure 5 [] [2, 3, 4, 72] [] (fr' := [(2, .pointer (some ⟨p0_0, 0, none⟩)), (3, .pointer (some ⟨p0_1, 0, none⟩)), (4, .pointer (some ⟨p0_2, 0, none⟩)), (72, .bool true)]) (bx' := [⟨p0_2, [.int .i64 0, .int .i64 0, .int .i64 0, .slice none 0 0, .bool false], 24⟩, ⟨p0_1, [.int .i64 a1.f0, .int .i64 a1.f1, .string a1.f2], 37⟩, ⟨p0_0, [.int .i64 x1_1.f0, .int .i64 x1_1.f1, .int .i64 o12.1, .slice q12.1 o12.2.length q12.2, .bool true], 24⟩]) (by kernel_rfl) ?_
                refine O.nil (by kernel_rfl) ?_
                refine J.cond (o := .tmp 72) true (by kernel_rfl) (by kernel_rfl) ?_
                refine J.seq (by kernel_rfl) ?_
                refine J.region (by kernel_rfl) ?_
                refine O.pure 4 [(2, 0), (0, 0)] [4, 5, 6] [p0_0, 0, p0_2, 0] (fr' := [(4, .pointer (some ⟨p0_2, 0, none⟩)), (5, .string (⟨#[]⟩ : ByteArray)), (6, .bool false)]) (bx' := [⟨p0_2, [.int .i64 x1_1.f0, .int .i64 x1_1.f1, .int .i64 o12.1, .slice q12.1 o12.2.length q12.2, .bool true], 24⟩, ⟨p0_1, [.int .i64 a1.f0, .int .i64 a1.f1, .string a1.f2], 37⟩, ⟨p0_0, [.int .i64 x1_1.f0, .int .i64 x1_1.f1, .int .i64 o12.1, .slice q12.1 o12.2.length q12.2, .bool true], 24⟩]) (by kernel_rfl) ?_
                refine O.nil (by kernel_rfl) ?_
                obtain rfl := Option.some.inj H
                exact J.doneS [(0, 0)] [p0_2, 0] [0] [] [] q12 (vs := [.agg #[.int .i64 x1_1.f0, .int .i64 x1_1.f1, .int .i64 o12.1, .slice q12.1 o12.2.length q12.2, .bool true], .string (⟨#[]⟩ : ByteArray), .bool false]) (by kernel_rfl) (by kernel_rfl) (by kernel_rfl) (by kernel_rfl) (by kernel_rfl) (by decide)
              · refine J.region (by kernel_rfl) ?_
                refine O.pure 4 [(1, 0), (2, 1)] [2, 3, 4, 64, 66] [p0_1, 0, p0_0, 1] (fr' := [(2, .pointer (some ⟨p0_0, 0, none⟩)), (3, .pointer (some ⟨p0_1, 0, none⟩)), (4, .pointer (some ⟨p0_2, 0, none⟩)), (64, .int .i64 a1.f0), (66, .int .i64 x1_1.f1)]) (bx' := [⟨p0_2, [.int .i64 0, .int .i64 0, .int .i64 0, .slice none 0 0, .bool false], 24⟩, ⟨p0_1, [.int .i64 a1.f0, .int .i64 a1.f1, .string a1.f2], 37⟩, ⟨p0_0, [.int .i64 x1_1.f0, .int .i64 x1_1.f1, .int .i64 o12.1, .slice q12.1 o12.2.length q12.2, .bool true], 24⟩]) (by kernel_rfl) ?_
                refine O.q (v := .bool false) (some 67) (Qu.eqv (u := .bool (a1.f0 != x1_1.f1)) (v := .bool false) (0, 0) [] (by kernel_rfl) (congrArg Value.bool hc15)) (by kernel_rfl) ?_
                refine O.pure 5 [(2, 1)] [2, 3, 4, 72] [p0_0, 1] (fr' := [(2, .pointer (some ⟨p0_0, 0, none⟩)), (3, .pointer (some ⟨p0_1, 0, none⟩)), (4, .pointer (some ⟨p0_2, 0, none⟩)), (72, .bool (decide (x1_1.f1 ≥ 1099511627776)))]) (bx' := [⟨p0_2, [.int .i64 0, .int .i64 0, .int .i64 0, .slice none 0 0, .bool false], 24⟩, ⟨p0_1, [.int .i64 a1.f0, .int .i64 a1.f1, .string a1.f2], 37⟩, ⟨p0_0, [.int .i64 x1_1.f0, .int .i64 x1_1.f1, .int .i64 o12.1, .slice q12.1 o12.2.length q12.2, .bool true], 24⟩]) (by kernel_rfl) ?_
                refine O.nil (by kernel_rfl) ?_
                rcases condE H with ⟨hc16, H⟩ | ⟨hc16, H⟩
                · refine J.condT (x := .tmp 72) (t := (decide (x1_1.f1 ≥ 1099511627776))) (by kernel_rfl) (by kernel_rfl) hc16 ?_
                  refine J.seq (by kernel_rfl) ?_
                  refine J.region (by kernel_rfl) ?_
                  refine O.pure 4 [(2, 0), (0, 0)] [4, 5, 6] [p0_0, 0, p0_2, 0] (fr' := [(4, .pointer (some ⟨p0_2, 0, none⟩)), (5, .string (⟨#[]⟩ : ByteArray)), (6, .bool false)]) (bx' := [⟨p0_2, [.int .i64 x1_1.f0, .int .i64 x1_1.f1, .int .i64 o12.1, .slice q12.1 o12.2.length q12.2, .bool true], 24⟩, ⟨p0_1, [.int .i64 a1.f0, .int .i64 a1.f1, .string a1.f2], 37⟩, ⟨p0_0, [.int .i64 x1_1.f0, .int .i64 x1_1.f1, .int .i64 o12.1, .slice q12.1 o12.2.length q12.2, .bool true], 24⟩]) (by kernel_rfl) ?_
                  refine O.nil (by kernel_rfl) ?_
                  obtain rfl := Option.some.inj H
                  exact J.doneS [(0, 0)] [p0_2, 0] [0] [] [] q12 (vs := [.agg #[.int .i64 x1_1.f0, .int .i64 x1_1.f1, .int .i64 o12.1, .slice q12.1 o12.2.length q12.2, .bool true], .string (⟨#[]⟩ : ByteArray), .bool false]) (by kernel_rfl) (by kernel_rfl) (by kernel_rfl) (by kernel_rfl) (by kernel_rfl) (by decide)
                · refine J.condF (x := .tmp 72) (t := (decide (x1_1.f1 ≥ 1099511627776))) (by kernel_rfl) (by kernel_rfl) hc16 ?_
                  refine J.skip (by kernel_rfl) ?_
                  refine J.seq (by kernel_rfl) ?_
                  refine J.region (by kernel_rfl) ?_
                  refine O.pure 5 [(2, 1), (2, 1)] [2, 3, 4] [p0_0, 1, p0_0, 1] (fr' := [(2, .pointer (some ⟨p0_0, 0, none⟩)), (3, .pointer (some ⟨p0_1, 0, none⟩)), (4, .pointer (some ⟨p0_2, 0, none⟩))]) (bx' := [⟨p0_2, [.int .i64 0, .int .i64 0, .int .i64 0, .slice none 0 0, .bool false], 24⟩, ⟨p0_1, [.int .i64 a1.f0, .int .i64 a1.f1, .string a1.f2], 37⟩, ⟨p0_0, [.int .i64 x1_1.f0, .int .i64 (IntKind.wrap .i64 (x1_1.f1 + 1)), .int .i64 o12.1, .slice q12.1 o12.2.length q12.2, .bool true], 24⟩]) (by kernel_rfl) ?_
                  refine O.nil (by kernel_rfl) ?_
                  refine J.seq (by kernel_rfl) ?_
                  refine J.drawS (by kernel_rfl) [(0, some 78, .agg #[.int .i64 x1_1.f0, .int .i64 (IntKind.wrap .i64 (x1_1.f1 + 1)), .int .i64 o12.1, .slice q12.1 o12.2.length q12.2, .bool true]), (1, some 79, .pointer (some ⟨p0_1, 2, none⟩)), (2, some 80, .string a1.f2)] ([0, 1, 2] ++ []) (by kernel_rfl) ?_
                  refine D.mid (cs := [3]) [0, 1, 2] [] [(2, 0), (1, 2)] [p0_0, 0, p0_1, 2] (by kernel_rfl) (by kernel_rfl) trivial (by kernel_rfl) ⟨?_, trivial⟩
                  refine EvStep.mk none (new := fun _ => [(4, some 5, .string a1.f2), (5, some 6, .bool true)]) ([1, 2, 4, 5] ++ []) (by kernel_rfl) (Ev.store (kk := 0) (cs := [.int .i64 x1_1.f0, .int .i64 (IntKind.wrap .i64 (x1_1.f1 + 1)), .int .i64 o12.1, .slice q12.1 o12.2.length q12.2, .bool true]) (0, 0) [p0_2, 0] (by kernel_rfl)) (fun _ => by kernel_rfl) (fun _ => ?_)
                  refine D.fin (fr' := [(4, .pointer (some ⟨p0_2, 0, none⟩)), (5, .string a1.f2), (6, .bool true)]) [1, 2, 4, 5] [] [(1, 2)] [p0_1, 2] [4, 5, 6] (by kernel_rfl) (by kernel_rfl) trivial (by kernel_rfl) ?_
                  obtain rfl := Option.some.inj H
                  exact J.doneS [(0, 0)] [p0_2, 0] [0] [] [] q12 (vs := [.agg #[.int .i64 x1_1.f0, .int .i64 (IntKind.wrap .i64 (x1_1.f1 + 1)), .int .i64 o12.1, .slice q12.1 o12.2.length q12.2, .bool true], .string a1.f2, .bool true]) (by kernel_rfl) (by kernel_rfl) (by kernel_rfl) (by kernel_rfl) (by kernel_rfl) (by decide)
          · rcases condE H with ⟨hc17, H⟩ | ⟨hc17, H⟩
            · refine J.condT (x := .tmp 45) (t := (decide (o4 > 0))) (by kernel_rfl) (by kernel_rfl) hc17 ?_
              obtain ⟨y8_9, hy8_9, H⟩ := bindE H
              obtain ⟨hy8_9a, hy8_9b, hy8_9c, -⟩ := cutE hy8_9
              refine J.region (by kernel_rfl) ?_
              refine O.pure 9 [(2, 3), (2, 3), (2, 3)] [2, 3, 4, 47, 48, 51, 54] [p0_0, 3, p0_0, 3, p0_0, 3] (fr' := [(2, .pointer (some ⟨p0_0, 0, none⟩)), (3, .pointer (some ⟨p0_1, 0, none⟩)), (4, .pointer (some ⟨p0_2, 0, none⟩)), (47, .slice p1_1.1 x1_1.f3.length p1_1.2), (48, .int .i64 o4), (51, .int .i64 (x1_1.f3.length : Int)), (54, .int .i64 (x1_1.f3.length : Int))]) (bx' := [⟨p0_2, [.int .i64 0, .int .i64 0, .int .i64 0, .slice none 0 0, .bool false], 24⟩, ⟨p0_1, [.int .i64 a1.f0, .int .i64 a1.f1, .string a1.f2], 37⟩, ⟨p0_0, [.int .i64 x1_1.f0, .int .i64 x1_1.f1, .int .i64 x1_1.f2, .slice p1_1.1 x1_1.f3.length p1_1.2, .bool x1_1.f4], 24⟩]) (by kernel_rfl) ?_
              refine O.e (some 55) (Ev.cut3 (d := kd71) (xs := x1_1.f3) (t := 22) (x := .tmp 47) (lo := (some (.tmp 48))) (hi := (some (.tmp 51))) (mx := (some (.tmp 54))) (vlo := (some (.int .i64 o4))) (vhi := (some (.int .i64 (x1_1.f3.length : Int)))) (vmx := (some (.int .i64 (x1_1.f3.length : Int)))) (A := p1_1.1) (c := p1_1.2) (l := (o4 : Int).toNat) (h := ((x1_1.f3.length : Int) : Int).toNat) 1 (by kernel_rfl) (by kernel_rfl) (by kernel_rfl) (by kernel_rfl) (by kernel_rfl) (by kernel_rfl) (Bd.val _ _ _ (by omega)) ⟨_, _, rfl, by omega, rfl⟩ ⟨_, _, rfl, by omega, rfl⟩ (by omega) (by omega) rfl) (by kernel_rfl) (fun p8_9 => ?_)
              refine O.pure 4 [(2, 3), (2, 2)] [2, 3, 4] [p0_0, 3, p0_0, 2] (fr' := [(2, .pointer (some ⟨p0_0, 0, none⟩)), (3, .pointer (some ⟨p0_1, 0, none⟩)), (4, .pointer (some ⟨p0_2, 0, none⟩))]) (bx' := [⟨p0_2, [.int .i64 0, .int .i64 0, .int .i64 0, .slice none 0 0, .bool false], 24⟩, ⟨p0_1, [.int .i64 a1.f0, .int .i64 a1.f1, .string a1.f2], 37⟩, ⟨p0_0, [.int .i64 x1_1.f0, .int .i64 x1_1.f1, .int .i64 0, .slice ((p8_9, (cutL x1_1.f3 ((o4 : Int).toNat) (((x1_1.f3.length : Int) : Int).toNat)).length) : Hd).1 (cutL x1_1.f3 ((o4 : Int).toNat) (((x1_1.f3.length : Int) : Int).toNat)).length ((p8_9, (cutL x1_1.f3 ((o4 : Int).toNat) (((x1_1.f3.length : Int) : Int).toNat)).length) : Hd).2, .bool x1_1.f4], 24⟩]) (by kernel_rfl) ?_
              refine O.nil (by kernel_rfl) ?_
              obtain rfl := Option.some.inj H
              exact J.conv2 [2, 3, 4] [0, 1] [0, 1, 2] [] (by kernel_rfl) (by kernel_rfl) (by kernel_rfl) (by kernel_rfl) (by decide) (hj12 ((p8_9, (cutL x1_1.f3 ((o4 : Int).toNat) (((x1_1.f3.length : Int) : Int).toNat)).length) : Hd))
            · refine J.condF (x := .tmp 45) (t := (decide (o4 > 0))) (by kernel_rfl) (by kernel_rfl) hc17 ?_
              refine J.skip (by kernel_rfl) ?_
              obtain rfl := Option.some.inj H
              exact J.conv2 [2, 3, 4] [1, 0] [0, 1, 2] [] (by kernel_rfl) (by kernel_rfl) (by kernel_rfl) (by kernel_rfl) (by decide) (hj12 p1_1)
        · refine J.block (id := 0) (by kernel_rfl) ?_
          refine J.loopI (σ := Int) (γ := Unit) (f := fun m_ s_ => link_Take.l18 K a1 x1_1 m_ s_) (fun s18 g18 => [(2, .pointer (some ⟨p0_0, 0, none⟩)), (3, .pointer (some ⟨p0_1, 0, none⟩)), (4, .pointer (some ⟨p0_2, 0, none⟩)), (7, .int .i64 s18)]) (fun s18 g18 => St X w [] [⟨p0_2, [.int .i64 0, .int .i64 0, .int .i64 0, .slice none 0 0, .bool false], 24⟩, ⟨p0_1, [.int .i64 a1.f0, .int .i64 a1.f1, .string a1.f2], 37⟩, ⟨p0_0, [.int .i64 x1_1.f0, .int .i64 x1_1.f1, .int .i64 x1_1.f2, .slice p1_1.1 x1_1.f3.length p1_1.2, .bool x1_1.f4], 24⟩] [] [] [Rd kd71 h0.1 h0.2 a0.f3, Rd kd71 p1_1.1 p1_1.2 x1_1.f3]) K 0 () (by kernel_rfl) H (fun _ => rfl) (fun m_ s18 H ih18 g18 => ?_) (fun h_ => ?_)
          · unfold link_Take.l18 at H
            refine J.seq (by kernel_rfl) ?_
            refine J.seq (by kernel_rfl) ?_
            rcases condE H with ⟨hc23, H⟩ | ⟨hc23, H⟩
            · obtain ⟨x5_9, hx5_9, H⟩ := bindE H
              obtain ⟨hx5_9a, hx5_9⟩ := idxE hx5_9
              refine J.open (d := kd71) (h := p1_1) (i := s18) 1 rfl hx5_9 (op71 _) (fun p5_9 hp5_9A => ?_)
              refine J.drawS (by kernel_rfl) [(0, some 26, .int .i64 s18), (1, some 27, .pointer (some ⟨p0_0, 3, none⟩)), (2, some 28, .slice p1_1.1 x1_1.f3.length p1_1.2), (3, some 29, .int .i64 (x1_1.f3.length : Int)), (5, some 31, .bool true), (6, some 32, .pointer (some ⟨p0_0, 3, none⟩)), (7, some 33, .slice p1_1.1 x1_1.f3.length p1_1.2), (8, some 34, .int .i64 s18), (10, some 36, .pointer (some ⟨p5_9.1, p5_9.2.1 + s18.toNat * 2, none⟩)), (11, some 37, .int .i64 x5_9.f0), (12, some 38, .pointer (some ⟨p0_1, 1, none⟩)), (13, some 39, .int .i64 a1.f1), (14, some 40, .bool (decide (x5_9.f0 ≤ a1.f1))), (15, some 41, .bool (decide (x5_9.f0 ≤ a1.f1))), (4, some 30, .bool true), (9, some 35, .pointer (some ⟨p5_9.1, p5_9.2.1 + s18.toNat * 2, none⟩))] ([0, 1, 2, 3, 5, 6, 7, 8, 10, 11, 12, 13, 14, 15] ++ [4, 9]) (by kernel_rfl) ?_
              refine D.fin (fr' := [(2, .pointer (some ⟨p0_0, 0, none⟩)), (3, .pointer (some ⟨p0_1, 0, none⟩)), (4, .pointer (some ⟨p0_2, 0, none⟩)), (7, .int .i64 s18), (32, .pointer (some ⟨p0_0, 3, none⟩)), (33, .slice p1_1.1 x1_1.f3.length p1_1.2), (34, .int .i64 s18), (35, .pointer (some ⟨p5_9.1, p5_9.2.1 + s18.toNat * 2, none⟩)), (36, .pointer (some ⟨p5_9.1, p5_9.2.1 + s18.toNat * 2, none⟩)), (37, .int .i64 x5_9.f0), (38, .pointer (some ⟨p0_1, 1, none⟩)), (39, .int .i64 a1.f1), (40, .bool (decide (x5_9.f0 ≤ a1.f1))), (41, .bool (decide (x5_9.f0 ≤ a1.f1)))]) [0, 1, 2, 3, 5, 6, 7, 8, 10, 11, 12, 13, 14, 15] [4, 9] [(2, 3), (2, 3), (3, 0), (1, 1)] [p0_0, 3, p0_0, 3, p5_9.1, p5_9.2.1 + s18.toNat * 2, p0_1, 1] [2, 3, 4, 7, 32, 33, 34, 35, 36, 37, 38, 39, 40, 41] (by kernel_rfl) (by kernel_rfl) (⟨QuAt.mk (v := .bool true) (some 30) (by kernel_rfl) (by kernel_rfl) (Qu.eqv (u := .bool (decide (s18 < (x1_1.f3.length : Int)))) (v := .bool true) (0, 0) [] (by kernel_rfl) (congrArg Value.bool hc23)), QuAt.mk (v := .pointer (some ⟨p5_9.1, p5_9.2.1 + s18.toNat * 2, none⟩)) (some 35) (by kernel_rfl) (by kernel_rfl) (Qu.idx (t := 22) (x := .tmp 33) (y := .tmp 34) (c := p1_1.2) (kk := .i64) (sz := 2) (by kernel_rfl) (by kernel_rfl) (by kernel_rfl) (by kernel_rfl) hx5_9a (idx_lt hx5_9) hp5_9A), trivial⟩) (by kernel_rfl) ?_
              rcases condE H with ⟨hc24, H⟩ | ⟨hc24, H⟩
              · refine J.condT (x := .tmp 41) (t := (decide (x5_9.f0 ≤ a1.f1))) (by kernel_rfl) (by kernel_rfl) hc24 ?_
                refine J.skip (by kernel_rfl) ?_
                refine J.block (id := 1) (by kernel_rfl) ?_
                refine J.region (by kernel_rfl) ?_
                refine O.pure 3 [] [2, 3, 4, 7, 32, 33, 34, 35, 36, 37, 38, 39, 40] [] (fr' := [(2, .pointer (some ⟨p0_0, 0, none⟩)), (3, .pointer (some ⟨p0_1, 0, none⟩)), (4, .pointer (some ⟨p0_2, 0, none⟩)), (7, .int .i64 (IntKind.wrap .i64 (s18 + 1))), (32, .pointer (some ⟨p0_0, 3, none⟩)), (33, .slice p1_1.1 x1_1.f3.length p1_1.2), (34, .int .i64 s18), (35, .pointer (some ⟨p5_9.1, p5_9.2.1 + s18.toNat * 2, none⟩)), (36, .pointer (some ⟨p5_9.1, p5_9.2.1 + s18.toNat * 2, none⟩)), (37, .int .i64 x5_9.f0), (38, .pointer (some ⟨p0_1, 1, none⟩)), (39, .int .i64 a1.f1), (40, .bool (decide (x5_9.f0 ≤ a1.f1)))]) (bx' := [⟨p0_2, [.int .i64 0, .int .i64 0, .int .i64 0, .slice none 0 0, .bool false], 24⟩, ⟨p0_1, [.int .i64 a1.f0, .int .i64 a1.f1, .string a1.f2], 37⟩, ⟨p0_0, [.int .i64 x1_1.f0, .int .i64 x1_1.f1, .int .i64 x1_1.f2, .slice p1_1.1 x1_1.f3.length p1_1.2, .bool x1_1.f4], 24⟩]) (by kernel_rfl) ?_
                refine O.nil (by kernel_rfl) ?_
                refine J.out ?_
                exact J.conv2 [2, 3, 4, 7] [0, 1] [0, 1, 2] [] (by kernel_rfl) (by kernel_rfl) (by kernel_rfl) (by kernel_rfl) (by decide) (ih18 (IntKind.wrap .i64 (s18 + 1)) () H)
              · refine J.condF (x := .tmp 41) (t := (decide (x5_9.f0 ≤ a1.f1))) (by kernel_rfl) (by kernel_rfl) hc24 ?_
                refine J.exit (id := 0) (by kernel_rfl) rfl ?_
                obtain rfl := Option.some.inj H
                exact J.conv2 [2, 3, 4, 7] [0, 1] [0, 1, 2] [] (by kernel_rfl) (by kernel_rfl) (by kernel_rfl) (by kernel_rfl) (by decide) (hj4 ())
            · refine J.drawS (by kernel_rfl) [(0, some 26, .int .i64 s18), (1, some 27, .pointer (some ⟨p0_0, 3, none⟩)), (2, some 28, .slice p1_1.1 x1_1.f3.length p1_1.2), (3, some 29, .int .i64 (x1_1.f3.length : Int)), (5, some 31, .bool false), (6, some 32, undef), (7, some 33, undef), (8, some 34, undef), (9, some 35, undef), (10, some 36, undef), (11, some 37, undef), (12, some 38, undef), (13, some 39, undef), (14, some 40, undef), (15, some 41, .bool false), (4, some 30, .bool false)] ([0, 1, 2, 3, 5, 6, 7, 8, 9, 10, 11, 12, 13, 14, 15] ++ [4]) (by kernel_rfl) ?_
              refine D.fin (fr' := [(2, .pointer (some ⟨p0_0, 0, none⟩)), (3, .pointer (some ⟨p0_1, 0, none⟩)), (4, .pointer (some ⟨p0_2, 0, none⟩)), (7, .int .i64 s18), (32, undef), (33, undef), (34, undef), (35, undef), (36, undef), (37, undef), (38, undef), (39, undef), (40, undef), (41, .bool false)]) [0, 1, 2, 3, 5, 6, 7, 8, 9, 10, 11, 12, 13, 14, 15] [4] [(2, 3)] [p0_0, 3] [2, 3, 4, 7, 32, 33, 34, 35, 36, 37, 38, 39, 40, 41] (by kernel_rfl) (by kernel_rfl) (⟨QuAt.mk (v := .bool false) (some 30) (by kernel_rfl) (by kernel_rfl) (Qu.eqv (u := .bool (decide (s18 < (x1_1.f3.length : Int)))) (v := .bool false) (0, 0) [] (by kernel_rfl) (congrArg Value.bool hc23)), trivial⟩) (by kernel_rfl) ?_
              refine J.cond (o := .tmp 41) false (by kernel_rfl) (by kernel_rfl) ?_
              refine J.exit (id := 0) (by kernel_rfl) rfl ?_
              obtain rfl := Option.some.inj H
              exact J.conv2 [2, 3, 4, 7] [0, 1] [0, 1, 2] [] (by kernel_rfl) (by kernel_rfl) (by kernel_rfl) (by kernel_rfl) (by decide) (hj4 ())
          · refine J.mono (fun w hS => hS.freezeH (h := p1_1) (xs := x1_1.f3)) ?_
            exact J.conv2 [2, 3, 4, 7] [1, 0] [0, 1, 2] [] (by kernel_rfl) (by kernel_rfl) (by kernel_rfl) (by kernel_rfl) (by decide) h_
/-! ### haywain/haywainlaw16.knows: function 9 -/
def haywainlaw16_knows.f (K : Nat) : Option Bool := (link_New.f K).bind fun x1_0 => (link_Send.f K x1_0 (⟨#[97]⟩ : ByteArray)).bind fun x1_1 => (link_Send.f K x1_1.1 (⟨#[98]⟩ : ByteArray)).bind fun x2_1 => (link_Tick.f K x2_1.1).bind fun x3_1 => cond (x2_1.2 != 0) (some (false)) (cond ((x3_1.2.length : Int) != 2) (some (false)) ((link_New.f K).bind fun x6_0 => (idxO x3_1.2 0).bind fun x6_2 => (link_Take.f K x6_0 x6_2).bind fun x6_4 => (idxO x3_1.2 1).bind fun x7_2 => (link_Take.f K x6_4.1 x7_2).bind fun x7_4 => (link_Tick.f K x7_4.1).bind fun x8_1 => cond ((x8_1.2.length : Int) != 1) (some (false)) ((idxO x8_1.2 0).bind fun x11_2 => (link_Take.f K x3_1.1 x11_2).bind fun x11_4 => (idxO x3_1.2 1).bind fun x12_2 => (link_Take.f K x8_1.1 x12_2).bind fun x12_4 => cond (x6_4.2.1.toList == (⟨#[97]⟩ : ByteArray).toList) (cond x6_4.2.2 (cond (x7_4.2.1.toList == (⟨#[98]⟩ : ByteArray).toList) (cond x7_4.2.2 ((idxO x8_1.2 0).bind fun x13_14 => cond (x13_14.f0 == 0 && (x13_14.f1 == 2 && (x13_14.f2 == (⟨#[]⟩ : ByteArray) && true))) (cond ((x11_4.1.f3.length : Int) == 0) (cond (!x12_4.2.2) ((link_Right.f K x11_4.1).bind fun x13_31 => some (x13_31)) (some (false))) (some (false))) (some (false))) (some (false))) (some (false))) (some (false))) (some (false)))))
set_option maxRecDepth 100000 in
set_option maxHeartbeats 1000000 in
theorem haywainlaw16_knows.con (K : Nat) (r : Bool) (X : Nat → Nat → Prop) (w : World) (hS : St X w [] [] [] [] [] w) (H : haywainlaw16_knows.f K = some r) :
    Cn Try.prog 9 [] X w [] (fun i : Unit => .bool r) (fun i => []) (fun i => []) (fun i => []) := by
  refine Cn.of Try.func9 (by kernel_rfl) hS ?_
  unfold haywainlaw16_knows.f at H
  refine J.seq (by kernel_rfl) ?_
  refine J.region (by kernel_rfl) ?_
  refine O.pure 1 [] [] [] (fr' := []) (bx' := []) (by kernel_rfl) ?_
  refine O.nil (by kernel_rfl) ?_
  refine J.seq (by kernel_rfl) ?_
  obtain ⟨x1_0, hx1_0, H⟩ := bindE H
  obtain ⟨x1_1, hx1_1, H⟩ := bindE H
  refine J.region (by kernel_rfl) ?_
  refine O.e (some 15) (Ev.call0 (xs := []) [] (by kernel_rfl) (by kernel_rfl) (fun w hS => link_New.con K  _ _ w hS hx1_0)) (by kernel_rfl) (fun p1_0 => ?_)
  refine O.e (some 16) (Ev.callLs (xs1 := [.tmp 15, .const (.string (⟨#[97]⟩ : ByteArray))]) [0] (fun w hS => (hS.rowsel [0] rfl (by decide)).freezeL rfl) (by kernel_rfl) (by kernel_rfl) (fun _ q hq _ _ _ h => by obtain rfl := List.mem_singleton.1 hq; exact h) (fun w hS => link_Send.con K x1_0 (⟨#[97]⟩ : ByteArray) p1_0  _ _ w hS hx1_1)) (by kernel_rfl) (fun p1_1 => ?_)
  refine O.pure 3 [] [17, 18] [] (fr' := [(17, .agg #[.int .i64 x1_1.1.f0, .int .i64 x1_1.1.f1, .int .i64 x1_1.1.f2, .slice p1_1.1 x1_1.1.f3.length p1_1.2, .bool x1_1.1.f4]), (18, .int .i64 x1_1.2)]) (bx' := []) (by kernel_rfl) ?_
  refine O.e (some 1) (Ev.alloc (t := 24) (z := .agg #[.int .i64 0, .int .i64 0, .int .i64 0, .slice none 0 0, .bool false]) (by kernel_rfl) (by kernel_rfl)) (by kernel_rfl) (fun p1_5 => ?_)
  refine O.pure 2 [(0, 0)] [1] [p1_5, 0] (fr' := [(1, .pointer (some ⟨p1_5, 0, none⟩))]) (bx' := [⟨p1_5, [.int .i64 x1_1.1.f0, .int .i64 x1_1.1.f1, .int .i64 x1_1.1.f2, .slice p1_1.1 x1_1.1.f3.length p1_1.2, .bool x1_1.1.f4], 24⟩]) (by kernel_rfl) ?_
  refine O.nil (by kernel_rfl) ?_
  refine J.seq (by kernel_rfl) ?_
  obtain ⟨x2_1, hx2_1, H⟩ := bindE H
  refine J.region (by kernel_rfl) ?_
  refine O.pure 1 [(0, 0)] [1, 20] [p1_5, 0] (fr' := [(1, .pointer (some ⟨p1_5, 0, none⟩)), (20, .agg #[.int .i64 x1_1.1.f0, .int .i64 x1_1.1.f1, .int .i64 x1_1.1.f2, .slice p1_1.1 x1_1.1.f3.length p1_1.2, .bool x1_1.1.f4])]) (bx' := [⟨p1_5, [.int .i64 x1_1.1.f0, .int .i64 x1_1.1.f1, .int .i64 x1_1.1.f2, .slice p1_1.1 x1_1.1.f3.length p1_1.2, .bool x1_1.1.f4], 24⟩]) (by kernel_rfl) ?_
  refine O.e (some 21) (Ev.callLs (xs1 := [.tmp 20, .const (.string (⟨#[98]⟩ : ByteArray))]) [0] (fun w hS => (hS.rowsel [0, 1] rfl (by decide)).freezeL rfl) (by kernel_rfl) (by kernel_rfl) (fun _ q hq _ _ _ h => by obtain rfl := List.mem_singleton.1 hq; exact h) (fun w hS => link_Send.con K x1_1.1 (⟨#[98]⟩ : ByteArray) p1_1  _ _ w hS hx2_1)) (by kernel_rfl) (fun p2_1 => ?_)
  refine O.pure 5 [(0, 0)] [1, 3] [p1_5, 0] (fr' := [(1, .pointer (some ⟨p1_5, 0, none⟩)), (3, .int .i64 x2_1.2)]) (bx' := [⟨p1_5, [.int .i64 x2_1.1.f0, .int .i64 x2_1.1.f1, .int .i64 x2_1.1.f2, .slice p2_1.1 x2_1.1.f3.length p2_1.2, .bool x2_1.1.f4], 24⟩]) (by kernel_rfl) ?_
  refine O.nil (by kernel_rfl) ?_
  refine J.seq (by kernel_rfl) ?_
  obtain ⟨x3_1, hx3_1, H⟩ := bindE H
  refine J.region (by kernel_rfl) ?_
  refine O.pure 1 [(0, 0)] [1, 3, 25] [p1_5, 0] (fr' := [(1, .pointer (some ⟨p1_5, 0, none⟩)), (3, .int .i64 x2_1.2), (25, .agg #[.int .i64 x2_1.1.f0, .int .i64 x2_1.1.f1, .int .i64 x2_1.1.f2, .slice p2_1.1 x2_1.1.f3.length p2_1.2, .bool x2_1.1.f4])]) (bx' := [⟨p1_5, [.int .i64 x2_1.1.f0, .int .i64 x2_1.1.f1, .int .i64 x2_1.1.f2, .slice p2_1.1 x2_1.1.f3.length p2_1.2, .bool x2_1.1.f4], 24⟩]) (by kernel_rfl) ?_
  refine O.e (some 26) (Ev.mono (fun w hS => hS.freezeH (h := p2_1) (xs := x2_1.1.f3)) (Ev.call0 (xs := [.tmp 25]) [0] (by kernel_rfl) (by kernel_rfl) (fun w hS => link_Tick.con K x2_1.1 p2_1  _ _ w hS hx3_1))) (by kernel_rfl) (fun p3_1 => ?_)
  refine O.pure 5 [(0, 0)] [1, 3, 4] [p1_5, 0] (fr' := [(1, .pointer (some ⟨p1_5, 0, none⟩)), (3, .int .i64 x2_1.2), (4, .slice p3_1.2.1 x3_1.2.length p3_1.2.2)]) (bx' := [⟨p1_5, [.int .i64 x3_1.1.f0, .int .i64 x3_1.1.f1, .int .i64 x3_1.1.f2, .slice p3_1.1.1 x3_1.1.f3.length p3_1.1.2, .bool x3_1.1.f4], 24⟩]) (by kernel_rfl) ?_
  refine O.nil (by kernel_rfl) ?_
  refine J.seq (by kernel_rfl) ?_
  refine J.seq (by kernel_rfl) ?_
  rcases condE H with ⟨hc1, H⟩ | ⟨hc1, H⟩
  · refine J.region (by kernel_rfl) ?_
    refine O.pure 1 [] [1, 4, 29] [] (fr' := [(1, .pointer (some ⟨p1_5, 0, none⟩)), (4, .slice p3_1.2.1 x3_1.2.length p3_1.2.2), (29, .int .i64 x2_1.2)]) (bx' := [⟨p1_5, [.int .i64 x3_1.1.f0, .int .i64 x3_1.1.f1, .int .i64 x3_1.1.f2, .slice p3_1.1.1 x3_1.1.f3.length p3_1.1.2, .bool x3_1.1.f4], 24⟩]) (by kernel_rfl) ?_
    refine O.q (v := .bool true) (some 30) (Qu.eqv (u := .bool (x2_1.2 != 0)) (v := .bool true) (0, 0) [] (by kernel_rfl) (congrArg Value.bool hc1)) (by kernel_rfl) ?_
    refine O.pure 5 [] [1, 4, 35] [] (fr' := [(1, .pointer (some ⟨p1_5, 0, none⟩)), (4, .slice p3_1.2.1 x3_1.2.length p3_1.2.2), (35, .bool true)]) (bx' := [⟨p1_5, [.int .i64 x3_1.1.f0, .int .i64 x3_1.1.f1, .int .i64 x3_1.1.f2, .slice p3_1.1.1 x3_1.1.f3.length p3_1.1.2, .bool x3_1.1.f4], 24⟩]) (by kernel_rfl) ?_
    refine O.nil (by kernel_rfl) ?_
    refine J.cond (o := .tmp 35) true (by kernel_rfl) (by kernel_rfl) ?_
    refine J.seq (by kernel_rfl) ?_
    refine J.region (by kernel_rfl) ?_
    refine O.pure 1 [] [0] [] (fr' := [(0, .bool false)]) (bx' := [⟨p1_5, [.int .i64 x3_1.1.f0, .int .i64 x3_1.1.f1, .int .i64 x3_1.1.f2, .slice p3_1.1.1 x3_1.1.f3.length p3_1.1.2, .bool x3_1.1.f4], 24⟩]) (by kernel_rfl) ?_
    refine O.nil (by kernel_rfl) ?_
    obtain rfl := Option.some.inj H
    exact J.doneS [] [] [] [] [] () (vs := [.bool false]) (by kernel_rfl) (by kernel_rfl) (by kernel_rfl) (by kernel_rfl) (by kernel_rfl) (by decide)
  · refine J.region (by kernel_rfl) ?_
    refine O.pure 1 [] [1, 4, 29] [] (fr' := [(1, .pointer (some ⟨p1_5, 0, none⟩)), (4, .slice p3_1.2.1 x3_1.2.length p3_1.2.2), (29, .int .i64 x2_1.2)]) (bx' := [⟨p1_5, [.int .i64 x3_1.1.f0, .int .i64 x3_1.1.f1, .int .i64 x3_1.1.f2, .slice p3_1.1.1 x3_1.1.f3.length p3_1.1.2, .bool x3_1.1.f4], 24⟩]) (by kernel_rfl) ?_
    refine O.q (v := .bool false) (some 30) (Qu.eqv (u := .bool (x2_1.2 != 0)) (v := .bool false) (0, 0) [] (by kernel_rfl) (congrArg Value.bool hc1)) (by kernel_rfl) ?_
    refine O.pure 5 [] [1, 4, 35] [] (fr' := [(1, .pointer (some ⟨p1_5, 0, none⟩)), (4, .slice p3_1.2.1 x3_1.2.length p3_1.2.2), (35, .bool ((x3_1.2.length : Int) != 2))]) (bx' := [⟨p1_5, [.int .i64 x3_1.1.f0, .int .i64 x3_1.1.f1, .int .i64 x3_1.1.f2, .slice p3_1.1.1 x3_1.1.f3.length p3_1.1.2, .bool x3_1.1.f4], 24⟩]) (by kernel_rfl) ?_
    refine O.nil (by kernel_rfl) ?_
    rcases condE H with ⟨hc2, H⟩ | ⟨hc2, H⟩
    · refine J.condT (x := .tmp 35) (t := ((x3_1.2.length : Int) != 2)) (by kernel_rfl) (by kernel_rfl) hc2 ?_
      refine J.seq (by kernel_rfl) ?_
      refine J.region (by kernel_rfl) ?_
      refine O.pure 1 [] [0] [] (fr' := [(0, .bool false)]) (bx' := [⟨p1_5, [.int .i64 x3_1.1.f0, .int .i64 x3_1.1.f1, .int .i64 x3_1.1.f2, .slice p3_1.1.1 x3_1.1.f3.length p3_1.1.2, .bool x3_1.1.f4], 24⟩]) (by kernel_rfl) ?_
      refine O.nil (by kernel_rfl) ?_
      obtain rfl := Option.some.inj H
      exact J.doneS [] [] [] [] [] () (vs := [.bool false]) (by kernel_rfl) (by kernel_rfl) (by kernel_rfl) (by kernel_rfl) (by kernel_rfl) (by decide)
    · refine J.condF (x := .tmp 35) (t := ((x3_1.2.length : Int) != 2)) (by kernel_rfl) (by kernel_rfl) hc2 ?_
      refine J.skip (by kernel_rfl) ?_
      refine J.seq (by kernel_rfl) ?_
      obtain ⟨x6_0, hx6_0, H⟩ := bindE H
      obtain ⟨x6_2, hx6_2, H⟩ := bindE H
      obtain ⟨hx6_2a, hx6_2⟩ := idxE hx6_2
      obtain ⟨x6_4, hx6_4, H⟩ := bindE H
      refine J.mono (fun w hS => hS.freezeH (h := p3_1.2) (xs := x3_1.2)) ?_
      refine J.open (d := kd37) (h := p3_1.2) (i := 0) 0 rfl hx6_2 (op37 _) (fun p6_2 hp6_2A => ?_)
      refine J.cutAt (γ := Hd × Hd × Nat) (fun q_ => [(1, .pointer (some ⟨p1_5, 0, none⟩)), (4, .slice p3_1.2.1 x3_1.2.length p3_1.2.2), (5, .pointer (some ⟨q_.2.2, 0, none⟩)), (6, .string x6_4.2.1), (7, .bool x6_4.2.2)]) (fun q_ => St X w [] [⟨q_.2.2, [.int .i64 x6_4.1.f0, .int .i64 x6_4.1.f1, .int .i64 x6_4.1.f2, .slice q_.2.1.1 x6_4.1.f3.length q_.2.1.2, .bool x6_4.1.f4], 24⟩, ⟨p1_5, [.int .i64 x3_1.1.f0, .int .i64 x3_1.1.f1, .int .i64 x3_1.1.f2, .slice p3_1.1.1 x3_1.1.f3.length p3_1.1.2, .bool x3_1.1.f4], 24⟩] [mkRow kd71 71 (.slice p1_1.1 x1_1.1.f3.length p1_1.2) x1_1.1.f3, mkRow kd71 71 (.slice p1_0.1 x1_0.f3.length p1_0.2) x1_0.f3] [] [Rd kd71 q_.2.1.1 q_.2.1.2 x6_4.1.f3, Rd kd71 q_.1.1 q_.1.2 x6_0.f3, Rd kd37 p3_1.2.1 p3_1.2.2 x3_1.2, Rd kd71 p3_1.1.1 p3_1.1.2 x3_1.1.f3, Rd kd71 p2_1.1 p2_1.2 x2_1.1.f3]) (fun q_ => ?_) (fun hk_ => ?_)
      · obtain ⟨p6_0, p6_4, p6_9⟩ := q_
        refine J.seq (by kernel_rfl) ?_
        obtain ⟨x7_2, hx7_2, H⟩ := bindE H
        obtain ⟨hx7_2a, hx7_2⟩ := idxE hx7_2
        obtain ⟨x7_4, hx7_4, H⟩ := bindE H
        refine J.open (d := kd37) (h := p3_1.2) (i := 1) 2 rfl hx7_2 (op37 _) (fun p7_2 hp7_2A => ?_)
        refine J.drawS (by kernel_rfl) [(0, some 46, .agg #[.int .i64 x6_4.1.f0, .int .i64 x6_4.1.f1, .int .i64 x6_4.1.f2, .slice p6_4.1 x6_4.1.f3.length p6_4.2, .bool x6_4.1.f4]), (1, some 47, .slice p3_1.2.1 x3_1.2.length p3_1.2.2), (3, some 49, .agg #[.int .i64 x7_2.f0, .int .i64 x7_2.f1, .string x7_2.f2]), (2, some 48, .pointer (some ⟨p7_2.1, p7_2.2.1 + (1 : Int).toNat * 3, none⟩))] ([0, 1, 3] ++ [2]) (by kernel_rfl) ?_
        refine D.mid (cs := [4]) [0, 1, 3] [2] [(0, 0), (2, 0)] [p6_9, 0, p7_2.1, p7_2.2.1 + (1 : Int).toNat * 3] (by kernel_rfl) (by kernel_rfl) (⟨QuAt.mk (v := .pointer (some ⟨p7_2.1, p7_2.2.1 + (1 : Int).toNat * 3, none⟩)) (some 48) (by kernel_rfl) (by kernel_rfl) (Qu.idx (t := 45) (x := .tmp 47) (y := .const (.int .i64 1)) (c := p3_1.2.2) (kk := .i64) (sz := 3) (by kernel_rfl) (by kernel_rfl) (by kernel_rfl) (by kernel_rfl) hx7_2a (idx_lt hx7_2) hp7_2A), trivial⟩) (by kernel_rfl) ⟨?_, trivial⟩
        refine EvStep.mk (some 50) (new := fun p7_4 => [(5, some 45, .tuple #[.agg #[.int .i64 x7_4.1.f0, .int .i64 x7_4.1.f1, .int .i64 x7_4.1.f2, .slice p7_4.1 x7_4.1.f3.length p7_4.2, .bool x7_4.1.f4], .string x7_4.2.1, .bool x7_4.2.2]), (6, some 51, .agg #[.int .i64 x7_4.1.f0, .int .i64 x7_4.1.f1, .int .i64 x7_4.1.f2, .slice p7_4.1 x7_4.1.f3.length p7_4.2, .bool x7_4.1.f4]), (7, some 52, .string x7_4.2.1), (8, some 53, .bool x7_4.2.2)]) ([1, 5, 6, 7, 8] ++ [2]) (by kernel_rfl) (Ev.call0 (xs := [.tmp 46, .tmp 49]) [0] (by kernel_rfl) (by kernel_rfl) (fun w hS => link_Take.con K x6_4.1 x7_2 p6_4  _ _ w hS hx7_4)) (fun p7_4 => by kernel_rfl) (fun p7_4 => ?_)
        refine D.mid (cs := [9]) [1, 5, 6, 7, 8] [2] [] [] (by kernel_rfl) (by kernel_rfl) (⟨QuAt.mk (v := .pointer (some ⟨p7_2.1, p7_2.2.1 + (1 : Int).toNat * 3, none⟩)) (some 48) (by kernel_rfl) (by kernel_rfl) (Qu.idx (t := 45) (x := .tmp 47) (y := .const (.int .i64 1)) (c := p3_1.2.2) (kk := .i64) (sz := 3) (by kernel_rfl) (by kernel_rfl) (by kernel_rfl) (by kernel_rfl) hx7_2a (idx_lt hx7_2) hp7_2A), trivial⟩) (by kernel_rfl) ⟨?_, trivial⟩
        refine EvStep.mk none (new := fun _ => [(10, some 8, .string x7_4.2.1), (11, some 9, .bool x7_4.2.2)]) ([7, 8, 10, 11] ++ []) (by kernel_rfl) (Ev.store (kk := 0) (cs := [.int .i64 x7_4.1.f0, .int .i64 x7_4.1.f1, .int .i64 x7_4.1.f2, .slice p7_4.1 x7_4.1.f3.length p7_4.2, .bool x7_4.1.f4]) (0, 0) [p6_9, 0] (by kernel_rfl)) (fun _ => by kernel_rfl) (fun _ => ?_)
        refine D.fin (fr' := [(1, .pointer (some ⟨p1_5, 0, none⟩)), (4, .slice p3_1.2.1 x3_1.2.length p3_1.2.2), (5, .pointer (some ⟨p6_9, 0, none⟩)), (6, .string x6_4.2.1), (7, .bool x6_4.2.2), (8, .string x7_4.2.1), (9, .bool x7_4.2.2)]) [7, 8, 10, 11] [] [] [] [1, 4, 5, 6, 7, 8, 9] (by kernel_rfl) (by kernel_rfl) trivial (by kernel_rfl) ?_
        refine J.seq (by kernel_rfl) ?_
        obtain ⟨x8_1, hx8_1, H⟩ := bindE H
        refine J.region (by kernel_rfl) ?_
        refine O.pure 1 [(0, 0)] [1, 4, 5, 6, 7, 8, 9, 55] [p6_9, 0] (fr' := [(1, .pointer (some ⟨p1_5, 0, none⟩)), (4, .slice p3_1.2.1 x3_1.2.length p3_1.2.2), (5, .pointer (some ⟨p6_9, 0, none⟩)), (6, .string x6_4.2.1), (7, .bool x6_4.2.2), (8, .string x7_4.2.1), (9, .bool x7_4.2.2), (55, .agg #[.int .i64 x7_4.1.f0, .int .i64 x7_4.1.f1, .int .i64 x7_4.1.f2, .slice p7_4.1 x7_4.1.f3.length p7_4.2, .bool x7_4.1.f4])]) (bx' := [⟨p6_9, [.int .i64 x7_4.1.f0, .int .i64 x7_4.1.f1, .int .i64 x7_4.1.f2, .slice p7_4.1 x7_4.1.f3.length p7_4.2, .bool x7_4.1.f4], 24⟩, ⟨p1_5, [.int .i64 x3_1.1.f0, .int .i64 x3_1.1.f1, .int .i64 x3_1.1.f2, .slice p3_1.1.1 x3_1.1.f3.length p3_1.1.2, .bool x3_1.1.f4], 24⟩]) (by kernel_rfl) ?_
        refine O.e (some 56) (Ev.call0 (xs := [.tmp 55]) [0] (by kernel_rfl) (by kernel_rfl) (fun w hS => link_Tick.con K x7_4.1 p7_4  _ _ w hS hx8_1)) (by kernel_rfl) (fun p8_1 => ?_)
        refine O.pure 5 [(0, 0)] [1, 4, 5, 6, 7, 8, 9, 10] [p6_9, 0] (fr' := [(1, .pointer (some ⟨p1_5, 0, none⟩)), (4, .slice p3_1.2.1 x3_1.2.length p3_1.2.2), (5, .pointer (some ⟨p6_9, 0, none⟩)), (6, .string x6_4.2.1), (7, .bool x6_4.2.2), (8, .string x7_4.2.1), (9, .bool x7_4.2.2), (10, .slice p8_1.2.1 x8_1.2.length p8_1.2.2)]) (bx' := [⟨p6_9, [.int .i64 x8_1.1.f0, .int .i64 x8_1.1.f1, .int .i64 x8_1.1.f2, .slice p8_1.1.1 x8_1.1.f3.length p8_1.1.2, .bool x8_1.1.f4], 24⟩, ⟨p1_5, [.int .i64 x3_1.1.f0, .int .i64 x3_1.1.f1, .int .i64 x3_1.1.f2, .slice p3_1.1.1 x3_1.1.f3.length p3_1.1.2, .bool x3_1.1.f4], 24⟩]) (by kernel_rfl) ?_
        refine O.nil (by kernel_rfl) ?_
        refine J.seq (by kernel_rfl) ?_
        refine J.seq (by kernel_rfl) ?_
        refine J.region (by kernel_rfl) ?_
        refine O.pure 3 [] [1, 4, 5, 6, 7, 8, 9, 10, 61] [] (fr' := [(1, .pointer (some ⟨p1_5, 0, none⟩)), (4, .slice p3_1.2.1 x3_1.2.length p3_1.2.2), (5, .pointer (some ⟨p6_9, 0, none⟩)), (6, .string x6_4.2.1), (7, .bool x6_4.2.2), (8, .string x7_4.2.1), (9, .bool x7_4.2.2), (10, .slice p8_1.2.1 x8_1.2.length p8_1.2.2), (61, .bool ((x8_1.2.length : Int) != 1))]) (bx' := [⟨p6_9, [.int .i64 x8_1.1.f0, .int .i64 x8_1.1.f1, .int .i64 x8_1.1.f2, .slice p8_1.1.1 x8_1.1.f3.length p8_1.1.2, .bool x8_1.1.f4], 24⟩, ⟨p1_5, [.int .i64 x3_1.1.f0, .int .i64 x3_1.1.f1, .int .i64 x3_1.1.f2, .slice p3_1.1.1 x3_1.1.f3.length p3_1.1.2, .bool x3_1.1.f4], 24⟩]) (by kernel_rfl) ?_
        refine O.nil (by kernel_rfl) ?_
        rcases condE H with ⟨hc3, H⟩ | ⟨hc3, H⟩
        · refine J.condT (x := .tmp 61) (t := ((x8_1.2.length : Int) != 1)) (by kernel_rfl) (by kernel_rfl) hc3 ?_
          refine J.seq (by kernel_rfl) ?_
          refine J.region (by kernel_rfl) ?_
          refine O.pure 1 [] [0] [] (fr' := [(0, .bool false)]) (bx' := [⟨p6_9, [.int .i64 x8_1.1.f0, .int .i64 x8_1.1.f1, .int .i64 x8_1.1.f2, .slice p8_1.1.1 x8_1.1.f3.length p8_1.1.2, .bool x8_1.1.f4], 24⟩, ⟨p1_5, [.int .i64 x3_1.1.f0, .int .i64 x3_1.1.f1, .int .i64 x3_1.1.f2, .slice p3_1.1.1 x3_1.1.f3.length p3_1.1.2, .bool x3_1.1.f4], 24⟩]) (by kernel_rfl) ?_
          refine O.nil (by kernel_rfl) ?_
          obtain rfl := Option.some.inj H
          exact J.doneS [] [] [] [] [] () (vs := [.bool false]) (by kernel_rfl) (by kernel_rfl) (by kernel_rfl) (by kernel_rfl) (by kernel_rfl) (by decide)
        · refine J.condF (x := .tmp 61) (t := ((x8_1.2.length : Int) != 1)) (by kernel_rfl) (by kernel_rfl) hc3 ?_
          refine J.skip (by kernel_rfl) ?_
          refine J.seq (by kernel_rfl) ?_
          obtain ⟨x11_2, hx11_2, H⟩ := bindE H
          obtain ⟨hx11_2a, hx11_2⟩ := idxE hx11_2
          obtain ⟨x11_4, hx11_4, H⟩ := bindE H
          refine J.mono (fun w hS => hS.freezeH (h := p8_1.2) (xs := x8_1.2)) ?_
          refine J.open (d := kd37) (h := p8_1.2) (i := 0) 0 rfl hx11_2 (op37 _) (fun p11_2 hp11_2A => ?_)
          refine J.drawS (by kernel_rfl) [(0, some 63, .agg #[.int .i64 x3_1.1.f0, .int .i64 x3_1.1.f1, .int .i64 x3_1.1.f2, .slice p3_1.1.1 x3_1.1.f3.length p3_1.1.2, .bool x3_1.1.f4]), (1, some 64, .slice p8_1.2.1 x8_1.2.length p8_1.2.2), (3, some 66, .agg #[.int .i64 x11_2.f0, .int .i64 x11_2.f1, .string x11_2.f2]), (2, some 65, .pointer (some ⟨p11_2.1, p11_2.2.1 + (0 : Int).toNat * 3, none⟩))] ([0, 1, 3] ++ [2]) (by kernel_rfl) ?_
          refine D.mid (cs := [4]) [0, 1, 3] [2] [(1, 0), (2, 0)] [p1_5, 0, p11_2.1, p11_2.2.1 + (0 : Int).toNat * 3] (by kernel_rfl) (by kernel_rfl) (⟨QuAt.mk (v := .pointer (some ⟨p11_2.1, p11_2.2.1 + (0 : Int).toNat * 3, none⟩)) (some 65) (by kernel_rfl) (by kernel_rfl) (Qu.idx (t := 45) (x := .tmp 64) (y := .const (.int .i64 0)) (c := p8_1.2.2) (kk := .i64) (sz := 3) (by kernel_rfl) (by kernel_rfl) (by kernel_rfl) (by kernel_rfl) hx11_2a (idx_lt hx11_2) hp11_2A), trivial⟩) (by kernel_rfl) ⟨?_, trivial⟩
          refine EvStep.mk (some 67) (new := fun p11_4 => [(5, some 62, .tuple #[.agg #[.int .i64 x11_4.1.f0, .int .i64 x11_4.1.f1, .int .i64 x11_4.1.f2, .slice p11_4.1 x11_4.1.f3.length p11_4.2, .bool x11_4.1.f4], .string x11_4.2.1, .bool x11_4.2.2]), (6, some 68, .agg #[.int .i64 x11_4.1.f0, .int .i64 x11_4.1.f1, .int .i64 x11_4.1.f2, .slice p11_4.1 x11_4.1.f3.length p11_4.2, .bool x11_4.1.f4]), (7, some 69, .string x11_4.2.1), (8, some 70, .bool x11_4.2.2)]) ([1, 5, 6, 7, 8] ++ [2]) (by kernel_rfl) (Ev.call0 (xs := [.tmp 63, .tmp 66]) [6] (by kernel_rfl) (by kernel_rfl) (fun w hS => link_Take.con K x3_1.1 x11_2 p3_1.1  _ _ w hS hx11_4)) (fun p11_4 => by kernel_rfl) (fun p11_4 => ?_)
          refine D.mid (cs := [9]) [1, 5, 6, 7, 8] [2] [] [] (by kernel_rfl) (by kernel_rfl) (⟨QuAt.mk (v := .pointer (some ⟨p11_2.1, p11_2.2.1 + (0 : Int).toNat * 3, none⟩)) (some 65) (by kernel_rfl) (by kernel_rfl) (Qu.idx (t := 45) (x := .tmp 64) (y := .const (.int .i64 0)) (c := p8_1.2.2) (kk := .i64) (sz := 3) (by kernel_rfl) (by kernel_rfl) (by kernel_rfl) (by kernel_rfl) hx11_2a (idx_lt hx11_2) hp11_2A), trivial⟩) (by kernel_rfl) ⟨?_, trivial⟩
          refine EvStep.mk none (new := fun _ => []) ([7, 8] ++ []) (by kernel_rfl) (Ev.store (kk := 1) (cs := [.int .i64 x11_4.1.f0, .int .i64 x11_4.1.f1, .int .i64 x11_4.1.f2, .slice p11_4.1 x11_4.1.f3.length p11_4.2, .bool x11_4.1.f4]) (1, 0) [p1_5, 0] (by kernel_rfl)) (fun _ => by kernel_rfl) (fun _ => ?_)
          refine D.fin (fr' := [(1, .pointer (some ⟨p1_5, 0, none⟩)), (4, .slice p3_1.2.1 x3_1.2.length p3_1.2.2), (5, .pointer (some ⟨p6_9, 0, none⟩)), (6, .string x6_4.2.1), (7, .bool x6_4.2.2), (8, .string x7_4.2.1), (9, .bool x7_4.2.2), (10, .slice p8_1.2.1 x8_1.2.length p8_1.2.2)]) [7, 8] [] [] [] [1, 4, 5, 6, 7, 8, 9, 10] (by kernel_rfl) (by kernel_rfl) trivial (by kernel_rfl) ?_
          refine J.seq (by kernel_rfl) ?_
          obtain ⟨x12_2, hx12_2, H⟩ := bindE H
          obtain ⟨hx12_2a, hx12_2⟩ := idxE hx12_2
          obtain ⟨x12_4, hx12_4, H⟩ := bindE H
          refine J.open (d := kd37) (h := p3_1.2) (i := 1) 6 rfl hx12_2 (op37 _) (fun p12_2 hp12_2A => ?_)
          refine J.cutAt (γ := Hd × Nat) (fun q_ => [(1, .pointer (some ⟨p1_5, 0, none⟩)), (6, .string x6_4.2.1), (7, .bool x6_4.2.2), (8, .string x7_4.2.1), (9, .bool x7_4.2.2), (10, .slice p8_1.2.1 x8_1.2.length p8_1.2.2), (13, .bool x12_4.2.2)]) (fun q_ => St X w [] [⟨q_.2, [.int .i64 x12_4.1.f0, .int .i64 x12_4.1.f1, .int .i64 x12_4.1.f2, .slice q_.1.1 x12_4.1.f3.length q_.1.2, .bool x12_4.1.f4], 24⟩, ⟨p6_9, [.int .i64 x8_1.1.f0, .int .i64 x8_1.1.f1, .int .i64 x8_1.1.f2, .slice p8_1.1.1 x8_1.1.f3.length p8_1.1.2, .bool x8_1.1.f4], 24⟩, ⟨p1_5, [.int .i64 x11_4.1.f0, .int .i64 x11_4.1.f1, .int .i64 x11_4.1.f2, .slice p11_4.1 x11_4.1.f3.length p11_4.2, .bool x11_4.1.f4], 24⟩] [mkRow kd71 71 (.slice p1_1.1 x1_1.1.f3.length p1_1.2) x1_1.1.f3, mkRow kd71 71 (.slice p1_0.1 x1_0.f3.length p1_0.2) x1_0.f3] [] [Rd kd71 q_.1.1 q_.1.2 x12_4.1.f3, Rd kd71 p11_4.1 p11_4.2 x11_4.1.f3, Rd kd37 p8_1.2.1 p8_1.2.2 x8_1.2, Rd kd71 p8_1.1.1 p8_1.1.2 x8_1.1.f3, Rd kd71 p7_4.1 p7_4.2 x7_4.1.f3, Rd kd71 p6_4.1 p6_4.2 x6_4.1.f3, Rd kd71 p6_0.1 p6_0.2 x6_0.f3, Rd kd37 p3_1.2.1 p3_1.2.2 x3_1.2, Rd kd71 p3_1.1.1 p3_1.1.2 x3_1.1.f3, Rd kd71 p2_1.1 p2_1.2 x2_1.1.f3]) (fun q_ => ?_) (fun hk_ => ?_)
          · obtain ⟨p12_4, p12_9⟩ := q_
            refine J.seq (by kernel_rfl) ?_
            rcases condE H with ⟨hc4, H⟩ | ⟨hc4, H⟩
            · rcases condE H with ⟨hc5, H⟩ | ⟨hc5, H⟩
              · rcases condE H with ⟨hc6, H⟩ | ⟨hc6, H⟩
                · rcases condE H with ⟨hc7, H⟩ | ⟨hc7, H⟩
                  · obtain ⟨x13_14, hx13_14, H⟩ := bindE H
                    obtain ⟨hx13_14a, hx13_14⟩ := idxE hx13_14
                    rcases condE H with ⟨hc8, H⟩ | ⟨hc8, H⟩
                    · rcases condE H with ⟨hc9, H⟩ | ⟨hc9, H⟩
                      · rcases condE H with ⟨hc10, H⟩ | ⟨hc10, H⟩
                        · obtain ⟨x13_31, hx13_31, H⟩ := bindE H
                          refine J.region (by kernel_rfl) ?_
                          refine O.pure 1 [] [1, 7, 8, 9, 10, 13, 80] [] (fr' := [(1, .pointer (some ⟨p1_5, 0, none⟩)), (7, .bool x6_4.2.2), (8, .string x7_4.2.1), (9, .bool x7_4.2.2), (10, .slice p8_1.2.1 x8_1.2.length p8_1.2.2), (13, .bool x12_4.2.2), (80, .string x6_4.2.1)]) (bx' := [⟨p12_9, [.int .i64 x12_4.1.f0, .int .i64 x12_4.1.f1, .int .i64 x12_4.1.f2, .slice p12_4.1 x12_4.1.f3.length p12_4.2, .bool x12_4.1.f4], 24⟩, ⟨p6_9, [.int .i64 x8_1.1.f0, .int .i64 x8_1.1.f1, .int .i64 x8_1.1.f2, .slice p8_1.1.1 x8_1.1.f3.length p8_1.1.2, .bool x8_1.1.f4], 24⟩, ⟨p1_5, [.int .i64 x11_4.1.f0, .int .i64 x11_4.1.f1, .int .i64 x11_4.1.f2, .slice p11_4.1 x11_4.1.f3.length p11_4.2, .bool x11_4.1.f4], 24⟩]) (by kernel_rfl) ?_
                          refine O.q (v := .bool true) (some 81) (Qu.eqv (u := .bool (x6_4.2.1.toList == (⟨#[97]⟩ : ByteArray).toList)) (v := .bool true) (0, 0) [] (by kernel_rfl) (congrArg Value.bool hc4)) (by kernel_rfl) ?_
                          refine O.pure 1 [] [1, 7, 8, 9, 10, 13, 82] [] (fr' := [(1, .pointer (some ⟨p1_5, 0, none⟩)), (7, .bool x6_4.2.2), (8, .string x7_4.2.1), (9, .bool x7_4.2.2), (10, .slice p8_1.2.1 x8_1.2.length p8_1.2.2), (13, .bool x12_4.2.2), (82, .bool true)]) (bx' := [⟨p12_9, [.int .i64 x12_4.1.f0, .int .i64 x12_4.1.f1, .int .i64 x12_4.1.f2, .slice p12_4.1 x12_4.1.f3.length p12_4.2, .bool x12_4.1.f4], 24⟩, ⟨p6_9, [.int .i64 x8_1.1.f0, .int .i64 x8_1.1.f1, .int .i64 x8_1.1.f2, .slice p8_1.1.1 x8_1.1.f3.length p8_1.1.2, .bool x8_1.1.f4], 24⟩, ⟨p1_5, [.int .i64 x11_4.1.f0, .int .i64 x11_4.1.f1, .int .i64 x11_4.1.f2, .slice p11_4.1 x11_4.1.f3.length p11_4.2, .bool x11_4.1.f4], 24⟩]) (by kernel_rfl) ?_
                          refine O.q (v := .bool true) (some 83) (Qu.eqv (u := .bool x6_4.2.2) (v := .bool true) (0, 0) [] (by kernel_rfl) (congrArg Value.bool hc5)) (by kernel_rfl) ?_
                          refine O.pure 3 [] [1, 9, 10, 13, 85, 86] [] (fr' := [(1, .pointer (some ⟨p1_5, 0, none⟩)), (9, .bool x7_4.2.2), (10, .slice p8_1.2.1 x8_1.2.length p8_1.2.2), (13, .bool x12_4.2.2), (85, .bool true), (86, .string x7_4.2.1)]) (bx' := [⟨p12_9, [.int .i64 x12_4.1.f0, .int .i64 x12_4.1.f1, .int .i64 x12_4.1.f2, .slice p12_4.1 x12_4.1.f3.length p12_4.2, .bool x12_4.1.f4], 24⟩, ⟨p6_9, [.int .i64 x8_1.1.f0, .int .i64 x8_1.1.f1, .int .i64 x8_1.1.f2, .slice p8_1.1.1 x8_1.1.f3.length p8_1.1.2, .bool x8_1.1.f4], 24⟩, ⟨p1_5, [.int .i64 x11_4.1.f0, .int .i64 x11_4.1.f1, .int .i64 x11_4.1.f2, .slice p11_4.1 x11_4.1.f3.length p11_4.2, .bool x11_4.1.f4], 24⟩]) (by kernel_rfl) ?_
                          refine O.q (v := .bool true) (some 87) (Qu.eqv (u := .bool (x7_4.2.1.toList == (⟨#[98]⟩ : ByteArray).toList)) (v := .bool true) (0, 0) [] (by kernel_rfl) (congrArg Value.bool hc6)) (by kernel_rfl) ?_
                          refine O.pure 2 [] [1, 9, 10, 13, 89] [] (fr' := [(1, .pointer (some ⟨p1_5, 0, none⟩)), (9, .bool x7_4.2.2), (10, .slice p8_1.2.1 x8_1.2.length p8_1.2.2), (13, .bool x12_4.2.2), (89, .bool true)]) (bx' := [⟨p12_9, [.int .i64 x12_4.1.f0, .int .i64 x12_4.1.f1, .int .i64 x12_4.1.f2, .slice p12_4.1 x12_4.1.f3.length p12_4.2, .bool x12_4.1.f4], 24⟩, ⟨p6_9, [.int .i64 x8_1.1.f0, .int .i64 x8_1.1.f1, .int .i64 x8_1.1.f2, .slice p8_1.1.1 x8_1.1.f3.length p8_1.1.2, .bool x8_1.1.f4], 24⟩, ⟨p1_5, [.int .i64 x11_4.1.f0, .int .i64 x11_4.1.f1, .int .i64 x11_4.1.f2, .slice p11_4.1 x11_4.1.f3.length p11_4.2, .bool x11_4.1.f4], 24⟩]) (by kernel_rfl) ?_
                          refine O.q (v := .bool true) (some 90) (Qu.eqv (u := .bool x7_4.2.2) (v := .bool true) (0, 0) [] (by kernel_rfl) (congrArg Value.bool hc7)) (by kernel_rfl) ?_
                          refine O.pure 3 [] [1, 13, 92, 93] [] (fr' := [(1, .pointer (some ⟨p1_5, 0, none⟩)), (13, .bool x12_4.2.2), (92, .bool true), (93, .slice p8_1.2.1 x8_1.2.length p8_1.2.2)]) (bx' := [⟨p12_9, [.int .i64 x12_4.1.f0, .int .i64 x12_4.1.f1, .int .i64 x12_4.1.f2, .slice p12_4.1 x12_4.1.f3.length p12_4.2, .bool x12_4.1.f4], 24⟩, ⟨p6_9, [.int .i64 x8_1.1.f0, .int .i64 x8_1.1.f1, .int .i64 x8_1.1.f2, .slice p8_1.1.1 x8_1.1.f3.length p8_1.1.2, .bool x8_1.1.f4], 24⟩, ⟨p1_5, [.int .i64 x11_4.1.f0, .int .i64 x11_4.1.f1, .int .i64 x11_4.1.f2, .slice p11_4.1 x11_4.1.f3.length p11_4.2, .bool x11_4.1.f4], 24⟩]) (by kernel_rfl) ?_
                          refine O.open (d := kd37) (h := p8_1.2) (i := 0) 2 rfl hx13_14 (op37 _) (fun p13_14 hp13_14A => ?_)
                          refine O.q (v := .pointer (some ⟨p13_14.1, p13_14.2.1 + (0 : Int).toNat * 3, none⟩)) (some 94) (Qu.idx (t := 45) (x := .tmp 93) (y := .const (.int .i64 0)) (c := p8_1.2.2) (kk := .i64) (sz := 3) (by kernel_rfl) (by kernel_rfl) (by kernel_rfl) (by kernel_rfl) hx13_14a (idx_lt hx13_14) hp13_14A) (by kernel_rfl) ?_
                          refine O.pure 2 [(3, 0)] [1, 13, 92, 95, 96] [p13_14.1, p13_14.2.1 + (0 : Int).toNat * 3] (fr' := [(1, .pointer (some ⟨p1_5, 0, none⟩)), (13, .bool x12_4.2.2), (92, .bool true), (95, .agg #[.int .i64 x13_14.f0, .int .i64 x13_14.f1, .string x13_14.f2]), (96, .agg #[.int .i64 0, .int .i64 2, .string (⟨#[]⟩ : ByteArray)])]) (bx' := [⟨p12_9, [.int .i64 x12_4.1.f0, .int .i64 x12_4.1.f1, .int .i64 x12_4.1.f2, .slice p12_4.1 x12_4.1.f3.length p12_4.2, .bool x12_4.1.f4], 24⟩, ⟨p6_9, [.int .i64 x8_1.1.f0, .int .i64 x8_1.1.f1, .int .i64 x8_1.1.f2, .slice p8_1.1.1 x8_1.1.f3.length p8_1.1.2, .bool x8_1.1.f4], 24⟩, ⟨p1_5, [.int .i64 x11_4.1.f0, .int .i64 x11_4.1.f1, .int .i64 x11_4.1.f2, .slice p11_4.1 x11_4.1.f3.length p11_4.2, .bool x11_4.1.f4], 24⟩]) (by kernel_rfl) ?_
                          refine O.q (v := .bool true) (some 97) (Qu.as (congrArg Value.bool hc8) (Qu.binT (op := .eql) (t := 37) (t' := 37) (x := .tmp 95) (y := .tmp 96) (u := .agg #[.int .i64 x13_14.f0, .int .i64 x13_14.f1, .string x13_14.f2]) (v := .agg #[.int .i64 0, .int .i64 2, .string (⟨#[]⟩ : ByteArray)]) (by kernel_rfl) (by kernel_rfl) (by kernel_rfl) (by kernel_rfl))) (by kernel_rfl) ?_
                          refine O.pure 5 [(2, 3)] [1, 13, 99, 102] [p1_5, 3] (fr' := [(1, .pointer (some ⟨p1_5, 0, none⟩)), (13, .bool x12_4.2.2), (99, .bool true), (102, .int .i64 (x11_4.1.f3.length : Int))]) (bx' := [⟨p12_9, [.int .i64 x12_4.1.f0, .int .i64 x12_4.1.f1, .int .i64 x12_4.1.f2, .slice p12_4.1 x12_4.1.f3.length p12_4.2, .bool x12_4.1.f4], 24⟩, ⟨p6_9, [.int .i64 x8_1.1.f0, .int .i64 x8_1.1.f1, .int .i64 x8_1.1.f2, .slice p8_1.1.1 x8_1.1.f3.length p8_1.1.2, .bool x8_1.1.f4], 24⟩, ⟨p1_5, [.int .i64 x11_4.1.f0, .int .i64 x11_4.1.f1, .int .i64 x11_4.1.f2, .slice p11_4.1 x11_4.1.f3.length p11_4.2, .bool x11_4.1.f4], 24⟩]) (by kernel_rfl) ?_
                          refine O.q (v := .bool true) (some 103) (Qu.eqv (u := .bool ((x11_4.1.f3.length : Int) == 0)) (v := .bool true) (0, 0) [] (by kernel_rfl) (congrArg Value.bool hc9)) (by kernel_rfl) ?_
                          refine O.pure 3 [] [1, 105, 106] [] (fr' := [(1, .pointer (some ⟨p1_5, 0, none⟩)), (105, .bool true), (106, .bool x12_4.2.2)]) (bx' := [⟨p12_9, [.int .i64 x12_4.1.f0, .int .i64 x12_4.1.f1, .int .i64 x12_4.1.f2, .slice p12_4.1 x12_4.1.f3.length p12_4.2, .bool x12_4.1.f4], 24⟩, ⟨p6_9, [.int .i64 x8_1.1.f0, .int .i64 x8_1.1.f1, .int .i64 x8_1.1.f2, .slice p8_1.1.1 x8_1.1.f3.length p8_1.1.2, .bool x8_1.1.f4], 24⟩, ⟨p1_5, [.int .i64 x11_4.1.f0, .int .i64 x11_4.1.f1, .int .i64 x11_4.1.f2, .slice p11_4.1 x11_4.1.f3.length p11_4.2, .bool x11_4.1.f4], 24⟩]) (by kernel_rfl) ?_
                          refine O.q (v := .bool true) (some 107) (Qu.eqv (u := .bool (!x12_4.2.2)) (v := .bool true) (0, 0) [] (by kernel_rfl) (congrArg Value.bool hc10)) (by kernel_rfl) ?_
                          refine O.pure 3 [(2, 0)] [109, 110] [p1_5, 0] (fr' := [(109, .bool true), (110, .agg #[.int .i64 x11_4.1.f0, .int .i64 x11_4.1.f1, .int .i64 x11_4.1.f2, .slice p11_4.1 x11_4.1.f3.length p11_4.2, .bool x11_4.1.f4])]) (bx' := [⟨p12_9, [.int .i64 x12_4.1.f0, .int .i64 x12_4.1.f1, .int .i64 x12_4.1.f2, .slice p12_4.1 x12_4.1.f3.length p12_4.2, .bool x12_4.1.f4], 24⟩, ⟨p6_9, [.int .i64 x8_1.1.f0, .int .i64 x8_1.1.f1, .int .i64 x8_1.1.f2, .slice p8_1.1.1 x8_1.1.f3.length p8_1.1.2, .bool x8_1.1.f4], 24⟩, ⟨p1_5, [.int .i64 x11_4.1.f0, .int .i64 x11_4.1.f1, .int .i64 x11_4.1.f2, .slice p11_4.1 x11_4.1.f3.length p11_4.2, .bool x11_4.1.f4], 24⟩]) (by kernel_rfl) ?_
                          refine O.e (some 111) (Ev.call0 (xs := [.tmp 110]) [1] (by kernel_rfl) (by kernel_rfl) (fun w hS => link_Right.con K x11_4.1 p11_4  _ _ w hS hx13_31)) (by kernel_rfl) (fun _ => ?_)
                          refine O.pure 2 [] [0] [] (fr' := [(0, .bool x13_31)]) (bx' := [⟨p12_9, [.int .i64 x12_4.1.f0, .int .i64 x12_4.1.f1, .int .i64 x12_4.1.f2, .slice p12_4.1 x12_4.1.f3.length p12_4.2, .bool x12_4.1.f4], 24⟩, ⟨p6_9, [.int .i64 x8_1.1.f0, .int .i64 x8_1.1.f1, .int .i64 x8_1.1.f2, .slice p8_1.1.1 x8_1.1.f3.length p8_1.1.2, .bool x8_1.1.f4], 24⟩, ⟨p1_5, [.int .i64 x11_4.1.f0, .int .i64 x11_4.1.f1, .int .i64 x11_4.1.f2, .slice p11_4.1 x11_4.1.f3.length p11_4.2, .bool x11_4.1.f4], 24⟩]) (by kernel_rfl) ?_
                          refine O.nil (by kernel_rfl) ?_
                          obtain rfl := Option.some.inj H
                          exact J.doneS [] [] [] [] [] () (vs := [.bool x13_31]) (by kernel_rfl) (by kernel_rfl) (by kernel_rfl) (by kernel_rfl) (by kernel_rfl) (by decide)
                        · refine J.region (by kernel_rfl) ?_
                          refine O.pure 1 [] [1, 7, 8, 9, 10, 13, 80] [] (fr' := [(1, .pointer (some ⟨p1_5, 0, none⟩)), (7, .bool x6_4.2.2), (8, .string x7_4.2.1), (9, .bool x7_4.2.2), (10, .slice p8_1.2.1 x8_1.2.length p8_1.2.2), (13, .bool x12_4.2.2), (80, .string x6_4.2.1)]) (bx' := [⟨p12_9, [.int .i64 x12_4.1.f0, .int .i64 x12_4.1.f1, .int .i64 x12_4.1.f2, .slice p12_4.1 x12_4.1.f3.length p12_4.2, .bool x12_4.1.f4], 24⟩, ⟨p6_9, [.int .i64 x8_1.1.f0, .int .i64 x8_1.1.f1, .int .i64 x8_1.1.f2, .slice p8_1.1.1 x8_1.1.f3.length p8_1.1.2, .bool x8_1.1.f4], 24⟩, ⟨p1_5, [.int .i64 x11_4.1.f0, .int .i64 x11_4.1.f1, .int .i64 x11_4.1.f2, .slice p11_4.1 x11_4.1.f3.length p11_4.2, .bool x11_4.1.f4], 24⟩]) (by kernel_rfl) ?_
                          refine O.q (v := .bool true) (some 81) (Qu.eqv (u := .bool (x6_4.2.1.toList == (⟨#[97]⟩ : ByteArray).toList)) (v := .bool true) (0, 0) [] (by kernel_rfl) (congrArg Value.bool hc4)) (by kernel_rfl) ?_
                          refine O.pure 1 [] [1, 7, 8, 9, 10, 13, 82] [] (fr' := [(1, .pointer (some ⟨p1_5, 0, none⟩)), (7, .bool x6_4.2.2), (8, .string x7_4.2.1), (9, .bool x7_4.2.2), (10, .slice p8_1.2.1 x8_1.2.length p8_1.2.2), (13, .bool x12_4.2.2), (82, .bool true)]) (bx' := [⟨p12_9, [.int .i64 x12_4.1.f0, .int .i64 x12_4.1.f1, .int .i64 x12_4.1.f2, .slice p12_4.1 x12_4.1.f3.length p12_4.2, .bool x12_4.1.f4], 24⟩, ⟨p6_9, [.int .i64 x8_1.1.f0, .int .i64 x8_1.1.f1, .int .i64 x8_1.1.f2, .slice p8_1.1.1 x8_1.1.f3.length p8_1.1.2, .bool x8_1.1.f4], 24⟩, ⟨p1_5, [.int .i64 x11_4.1.f0, .int .i64 x11_4.1.f1, .int .i64 x11_4.1.f2, .slice p11_4.1 x11_4.1.f3.length p11_4.2, .bool x11_4.1.f4], 24⟩]) (by kernel_rfl) ?_
                          refine O.q (v := .bool true) (some 83) (Qu.eqv (u := .bool x6_4.2.2) (v := .bool true) (0, 0) [] (by kernel_rfl) (congrArg Value.bool hc5)) (by kernel_rfl) ?_
                          refine O.pure 3 [] [1, 9, 10, 13, 85, 86] [] (fr' := [(1, .pointer (some ⟨p1_5, 0, none⟩)), (9, .bool x7_4.2.2), (10, .slice p8_1.2.1 x8_1.2.length p8_1.2.2), (13, .bool x12_4.2.2), (85, .bool true), (86, .string x7_4.2.1)]) (bx' := [⟨p12_9, [.int .i64 x12_4.1.f0, .int .i64 x12_4.1.f1, .int .i64 x12_4.1.f2, .slice p12_4.1 x12_4.1.f3.length p12_4.2, .bool x12_4.1.f4], 24⟩, ⟨p6_9, [.int .i64 x8_1.1.f0, .int .i64 x8_1.1.f1, .int .i64 x8_1.1.f2, .slice p8_1.1.1 x8_1.1.f3.length p8_1.1.2, .bool x8_1.1.f4], 24⟩, ⟨p1_5, [.int .i64 x11_4.1.f0, .int .i64 x11_4.1.f1, .int .i64 x11_4.1.f2, .slice p11_4.1 x11_4.1.f3.length p11_4.2, .bool x11_4.1.f4], 24⟩]) (by kernel_rfl) ?_
                          refine O.q (v := .bool true) (some 87) (Qu.eqv (u := .bool (x7_4.2.1.toList == (⟨#[98]⟩ : ByteArray).toList)) (v := .bool true) (0, 0) [] (by kernel_rfl) (congrArg Value.bool hc6)) (by kernel_rfl) ?_
                          refine O.pure 2 [] [1, 9, 10, 13, 89] [] (fr' := [(1, .pointer (some ⟨p1_5, 0, none⟩)), (9, .bool x7_4.2.2), (10, .slice p8_1.2.1 x8_1.2.length p8_1.2.2), (13, .bool x12_4.2.2), (89, .bool true)]) (bx' := [⟨p12_9, [.int .i64 x12_4.1.f0, .int .i64 x12_4.1.f1, .int .i64 x12_4.1.f2, .slice p12_4.1 x12_4.1.f3.length p12_4.2, .bool x12_4.1.f4], 24⟩, ⟨p6_9, [.int .i64 x8_1.1.f0, .int .i64 x8_1.1.f1, .int .i64 x8_1.1.f2, .slice p8_1.1.1 x8_1.1.f3.length p8_1.1.2, .bool x8_1.1.f4], 24⟩, ⟨p1_5, [.int .i64 x11_4.1.f0, .int .i64 x11_4.1.f1, .int .i64 x11_4.1.f2, .slice p11_4.1 x11_4.1.f3.length p11_4.2, .bool x11_4.1.f4], 24⟩]) (by kernel_rfl) ?_
                          refine O.q (v := .bool true) (some 90) (Qu.eqv (u := .bool x7_4.2.2) (v := .bool true) (0, 0) [] (by kernel_rfl) (congrArg Value.bool hc7)) (by kernel_rfl) ?_
                          refine O.pure 3 [] [1, 13, 92, 93] [] (fr' := [(1, .pointer (some ⟨p1_5, 0, none⟩)), (13, .bool x12_4.2.2), (92, .bool true), (93, .slice p8_1.2.1 x8_1.2.length p8_1.2.2)]) (bx' := [⟨p12_9, [.int .i64 x12_4.1.f0, .int .i64 x12_4.1.f1, .int .i64 x12_4.1.f2, .slice p12_4.1 x12_4.1.f3.length p12_4.2, .bool x12_4.1.f4], 24⟩, ⟨p6_9, [.int .i64 x8_1.1.f0, .int .i64 x8_1.1.f1, .int .i64 x8_1.1.f2, .slice p8_1.1.1 x8_1.1.f3.length p8_1.1.2, .bool x8_1.1.f4], 24⟩, ⟨p1_5, [.int .i64 x11_4.1.f0, .int .i64 x11_4.1.f1, .int .i64 x11_4.1.f2, .slice p11_4.1 x11_4.1.f3.length p11_4.2, .bool x11_4.1.f4], 24⟩]) (by kernel_rfl) ?_
                          refine O.open (d := kd37) (h := p8_1.2) (i := 0) 2 rfl hx13_14 (op37 _) (fun p13_14 hp13_14A => ?_)
                          refine O.q (v := .pointer (some ⟨p13_14.1, p13_14.2.1 + (0 : Int).toNat * 3, none⟩)) (some 94) (Qu.idx (t := 45) (x := .tmp 93) (y := .const (.int .i64 0)) (c := p8_1.2.2) (kk := .i64) (sz := 3) (by kernel_rfl) (by kernel_rfl) (by kernel_rfl) (by kernel_rfl) hx13_14a (idx_lt hx13_14) hp13_14A) (by kernel_rfl) ?_
                          refine O.pure 2 [(3, 0)] [1, 13, 92, 95, 96] [p13_14.1, p13_14.2.1 + (0 : Int).toNat * 3] (fr' := [(1, .pointer (some ⟨p1_5, 0, none⟩)), (13, .bool x12_4.2.2), (92, .bool true), (95, .agg #[.int .i64 x13_14.f0, .int .i64 x13_14.f1, .string x13_14.f2]), (96, .agg #[.int .i64 0, .int .i64 2, .string (⟨#[]⟩ : ByteArray)])]) (bx' := [⟨p12_9, [.int .i64 x12_4.1.f0, .int .i64 x12_4.1.f1, .int .i64 x12_4.1.f2, .slice p12_4.1 x12_4.1.f3.length p12_4.2, .bool x12_4.1.f4], 24⟩, ⟨p6_9, [.int .i64 x8_1.1.f0, .int .i64 x8_1.1.f1, .int .i64 x8_1.1.f2, .slice p8_1.1.1 x8_1.1.f3.length p8_1.1.2, .bool x8_1.1.f4], 24⟩, ⟨p1_5, [.int .i64 x11_4.1.f0, .int .i64 x11_4.1.f1, .int .i64 x11_4.1.f2, .slice p11_4.1 x11_4.1.f3.length p11_4.2, .bool x11_4.1.f4], 24⟩]) (by kernel_rfl) ?_
                          refine O.q (v := .bool true) (some 97) (Qu.as (congrArg Value.bool hc8) (Qu.binT (op := .eql) (t := 37) (t' := 37) (x := .tmp 95) (y := .tmp 96) (u := .agg #[.int .i64 x13_14.f0, .int .i64 x13_14.f1, .string x13_14.f2]) (v := .agg #[.int .i64 0, .int .i64 2, .string (⟨#[]⟩ : ByteArray)]) (by kernel_rfl) (by kernel_rfl) (by kernel_rfl) (by kernel_rfl))) (by kernel_rfl) ?_
                          refine O.pure 5 [(2, 3)] [1, 13, 99, 102] [p1_5, 3] (fr' := [(1, .pointer (some ⟨p1_5, 0, none⟩)), (13, .bool x12_4.2.2), (99, .bool true), (102, .int .i64 (x11_4.1.f3.length : Int))]) (bx' := [⟨p12_9, [.int .i64 x12_4.1.f0, .int .i64 x12_4.1.f1, .int .i64 x12_4.1.f2, .slice p12_4.1 x12_4.1.f3.length p12_4.2, .bool x12_4.1.f4], 24⟩, ⟨p6_9, [.int .i64 x8_1.1.f0, .int .i64 x8_1.1.f1, .int .i64 x8_1.1.f2, .slice p8_1.1.1 x8_1.1.f3.length p8_1.1.2, .bool x8_1.1.f4], 24⟩, ⟨p1_5, [.int .i64 x11_4.1.f0, .int .i64 x11_4.1.f1, .int .i64 x11_4.1.f2, .slice p11_4.1 x11_4.1.f3.length p11_4.2, .bool x11_4.1.f4], 24⟩]) (by kernel_rfl) ?_
                          refine O.q (v := .bool true) (some 103) (Qu.eqv (u := .bool ((x11_4.1.f3.length : Int) == 0)) (v := .bool true) (0, 0) [] (by kernel_rfl) (congrArg Value.bool hc9)) (by kernel_rfl) ?_
                          refine O.pure 3 [] [1, 105, 106] [] (fr' := [(1, .pointer (some ⟨p1_5, 0, none⟩)), (105, .bool true), (106, .bool x12_4.2.2)]) (bx' := [⟨p12_9, [.int .i64 x12_4.1.f0, .int .i64 x12_4.1.f1, .int .i64 x12_4.1.f2, .slice p12_4.1 x12_4.1.f3.length p12_4.2, .bool x12_4.1.f4], 24⟩, ⟨p6_9, [.int .i64 x8_1.1.f0, .int .i64 x8_1.1.f1, .int .i64 x8_1.1.f2, .slice p8_1.1.1 x8_1.1.f3.length p8_1.1.2, .bool x8_1.1.f4], 24⟩, ⟨p1_5, [.int .i64 x11_4.1.f0, .int .i64 x11_4.1.f1, .int .i64 x11_4.1.f2, .slice p11_4.1 x11_4.1.f3.length p11_4.2, .bool x11_4.1.f4], 24⟩]) (by kernel_rfl) ?_
                          refine O.q (v := .bool false) (some 107) (Qu.eqv (u := .bool (!x12_4.2.2)) (v := .bool false) (0, 0) [] (by kernel_rfl) (congrArg Value.bool hc10)) (by kernel_rfl) ?_
                          refine O.pure 6 [] [0] [] (fr' := [(0, .bool false)]) (bx' := [⟨p12_9, [.int .i64 x12_4.1.f0, .int .i64 x12_4.1.f1, .int .i64 x12_4.1.f2, .slice p12_4.1 x12_4.1.f3.length p12_4.2, .bool x12_4.1.f4], 24⟩, ⟨p6_9, [.int .i64 x8_1.1.f0, .int .i64 x8_1.1.f1, .int .i64 x8_1.1.f2, .slice p8_1.1.1 x8_1.1.f3.length p8_1.1.2, .bool x8_1.1.f4], 24⟩, ⟨p1_5, [.int .i64 x11_4.1.f0, .int .i64 x11_4.1.f1, .int .i64 x11_4.1.f2, .slice p11_4.1 x11_4.1.f3.length p11_4.2, .bool x11_4.1.f4], 24⟩]) (by kernel_rfl) ?_
                          refine O.nil (by kernel_rfl) ?_
                          obtain rfl := Option.some.inj H
                          exact J.doneS [] [] [] [] [] () (vs := [.bool false]) (by kernel_rfl) (by kernel_rfl) (by kernel_rfl) (by kernel_rfl) (by kernel_rfl) (by decide)
                      · refine J.region (by kernel_rfl) ?_
                        refine O.pure 1 [] [1, 7, 8, 9, 10, 13, 80] [] (fr' := [(1, .pointer (some ⟨p1_5, 0, none⟩)), (7, .bool x6_4.2.2), (8, .string x7_4.2.1), (9, .bool x7_4.2.2), (10, .slice p8_1.2.1 x8_1.2.length p8_1.2.2), (13, .bool x12_4.2.2), (80, .string x6_4.2.1)]) (bx' := [⟨p12_9, [.int .i64 x12_4.1.f0, .int .i64 x12_4.1.f1, .int .i64 x12_4.1.f2, .slice p12_4.1 x12_4.1.f3.length p12_4.2, .bool x12_4.1.f4], 24⟩, ⟨p6_9, [.int .i64 x8_1.1.f0, .int .i64 x8_1.1.f1, .int .i64 x8_1.1.f2, .slice p8_1.1.1 x8_1.1.f3.length p8_1.1.2, .bool x8_1.1.f4], 24⟩, ⟨p1_5, [.int .i64 x11_4.1.f0, .int .i64 x11_4.1.f1, .int .i64 x11_4.1.f2, .slice p11_4.1 x11_4.1.f3.length p11_4.2, .bool x11_4.1.f4], 24⟩]) (by kernel_rfl) ?_
                        refine O.q (v := .bool true) (some 81) (Qu.eqv (u := .bool (x6_4.2.1.toList == (⟨#[97]⟩ : ByteArray).toList)) (v := .bool true) (0, 0) [] (by kernel_rfl) (congrArg Value.bool hc4)) (by kernel_rfl) ?_
                        refine O.pure 1 [] [1, 7, 8, 9, 10, 13, 82] [] (fr' := [(1, .pointer (some ⟨p1_5, 0, none⟩)), (7, .bool x6_4.2.2), (8, .string x7_4.2.1), (9, .bool x7_4.2.2), (10, .slice p8_1.2.1 x8_1.2.length p8_1.2.2), (13, .bool x12_4.2.2), (82, .bool true)]) (bx' := [⟨p12_9, [.int .i64 x12_4.1.f0, .int .i64 x12_4.1.f1, .int .i64 x12_4.1.f2, .slice p12_4.1 x12_4.1.f3.length p12_4.2, .bool x12_4.1.f4], 24⟩, ⟨p6_9, [.int .i64 x8_1.1.f0, .int .i64 x8_1.1.f1, .int .i64 x8_1.1.f2, .slice p8_1.1.1 x8_1.1.f3.length p8_1.1.2, .bool x8_1.1.f4], 24⟩, ⟨p1_5, [.int .i64 x11_4.1.f0, .int .i64 x11_4.1.f1, .int .i64 x11_4.1.f2, .slice p11_4.1 x11_4.1.f3.length p11_4.2, .bool x11_4.1.f4], 24⟩]) (by kernel_rfl) ?_
                        refine O.q (v := .bool true) (some 83) (Qu.eqv (u := .bool x6_4.2.2) (v := .bool true) (0, 0) [] (by kernel_rfl) (congrArg Value.bool hc5)) (by kernel_rfl) ?_
                        refine O.pure 3 [] [1, 9, 10, 13, 85, 86] [] (fr' := [(1, .pointer (some ⟨p1_5, 0, none⟩)), (9, .bool x7_4.2.2), (10, .slice p8_1.2.1 x8_1.2.length p8_1.2.2), (13, .bool x12_4.2.2), (85, .bool true), (86, .string x7_4.2.1)]) (bx' := [⟨p12_9, [.int .i64 x12_4.1.f0, .int .i64 x12_4.1.f1, .int .i64 x12_4.1.f2, .slice p12_4.1 x12_4.1.f3.length p12_4.2, .bool x12_4.1.f4], 24⟩, ⟨p6_9, [.int .i64 x8_1.1.f0, .int .i64 x8_1.1.f1, .int .i64 x8_1.1.f2, .slice p8_1.1.1 x8_1.1.f3.length p8_1.1.2, .bool x8_1.1.f4], 24⟩, ⟨p1_5, [.int .i64 x11_4.1.f0, .int .i64 x11_4.1.f1, .int .i64 x11_4.1.f2, .slice p11_4.1 x11_4.1.f3.length p11_4.2, .bool x11_4.1.f4], 24⟩]) (by kernel_rfl) ?_
                        refine O.q (v := .bool true) (some 87) (Qu.eqv (u := .bool (x7_4.2.1.toList == (⟨#[98]⟩ : ByteArray).toList)) (v := .bool true) (0, 0) [] (by kernel_rfl) (congrArg Value.bool hc6)) (by kernel_rfl) ?_
                        refine O.pure 2 [] [1, 9, 10, 13, 89] [] (fr' := [(1, .pointer (some ⟨p1_5, 0, none⟩)), (9, .bool x7_4.2.2), (10, .slice p8_1.2.1 x8_1.2.length p8_1.2.2), (13, .bool x12_4.2.2), (89, .bool true)]) (bx' := [⟨p12_9, [.int .i64 x12_4.1.f0, .int .i64 x12_4.1.f1, .int .i64 x12_4.1.f2, .slice p12_4.1 x12_4.1.f3.length p12_4.2, .bool x12_4.1.f4], 24⟩, ⟨p6_9, [.int .i64 x8_1.1.f0, .int .i64 x8_1.1.f1, .int .i64 x8_1.1.f2, .slice p8_1.1.1 x8_1.1.f3.length p8_1.1.2, .bool x8_1.1.f4], 24⟩, ⟨p1_5, [.int .i64 x11_4.1.f0, .int .i64 x11_4.1.f1, .int .i64 x11_4.1.f2, .slice p11_4.1 x11_4.1.f3.length p11_4.2, .bool x11_4.1.f4], 24⟩]) (by kernel_rfl) ?_
                        refine O.q (v := .bool true) (some 90) (Qu.eqv (u := .bool x7_4.2.2) (v := .bool true) (0, 0) [] (by kernel_rfl) (congrArg Value.bool hc7)) (by kernel_rfl) ?_
                        refine O.pure 3 [] [1, 13, 92, 93] [] (fr' := [(1, .pointer (some ⟨p1_5, 0, none⟩)), (13, .bool x12_4.2.2), (92, .bool true), (93, .slice p8_1.2.1 x8_1.2.length p8_1.2.2)]) (bx' := [⟨p12_9, [.int .i64 x12_4.1.f0, .int .i64 x12_4.1.f1, .int .i64 x12_4.1.f2, .slice p12_4.1 x12_4.1.f3.length p12_4.2, .bool x12_4.1.f4], 24⟩, ⟨p6_9, [.int .i64 x8_1.1.f0, .int .i64 x8_1.1.f1, .int .i64 x8_1.1.f2, .slice p8_1.1.1 x8_1.1.f3.length p8_1.1.2, .bool x8_1.1.f4], 24⟩, ⟨p1_5, [.int .i64 x11_4.1.f0, .int .i64 x11_4.1.f1, .int .i64 x11_4.1.f2, .slice p11_4.1 x11_4.1.f3.length p11_4.2, .bool x11_4.1.f4], 24⟩]) (by kernel_rfl) ?_
                        refine O.open (d := kd37) (h := p8_1.2) (i := 0) 2 rfl hx13_14 (op37 _) (fun p13_14 hp13_14A => ?_)
                        refine O.q (v := .pointer (some ⟨p13_14.1, p13_14.2.1 + (0 : Int).toNat * 3, none⟩)) (some 94) (Qu.idx (t := 45) (x := .tmp 93) (y := .const (.int .i64 0)) (c := p8_1.2.2) (kk := .i64) (sz := 3) (by kernel_rfl) (by kernel_rfl) (by kernel_rfl) (by kernel_rfl) hx13_14a (idx_lt hx13_14) hp13_14A) (by kernel_rfl) ?_
                        refine O.pure 2 [(3, 0)] [1, 13, 92, 95, 96] [p13_14.1, p13_14.2.1 + (0 : Int).toNat * 3] (fr' := [(1, .pointer (some ⟨p1_5, 0, none⟩)), (13, .bool x12_4.2.2), (92, .bool true), (95, .agg #[.int .i64 x13_14.f0, .int .i64 x13_14.f1, .string x13_14.f2]), (96, .agg #[.int .i64 0, .int .i64 2, .string (⟨#[]⟩ : ByteArray)])]) (bx' := [⟨p12_9, [.int .i64 x12_4.1.f0, .int .i64 x12_4.1.f1, .int .i64 x12_4.1.f2, .slice p12_4.1 x12_4.1.f3.length p12_4.2, .bool x12_4.1.f4], 24⟩, ⟨p6_9, [.int .i64 x8_1.1.f0, .int .i64 x8_1.1.f1, .int .i64 x8_1.1.f2, .slice p8_1.1.1 x8_1.1.f3.length p8_1.1.2, .bool x8_1.1.f4], 24⟩, ⟨p1_5, [.int .i64 x11_4.1.f0, .int .i64 x11_4.1.f1, .int .i64 x11_4.1.f2, .slice p11_4.1 x11_4.1.f3.length p11_4.2, .bool x11_4.1.f4], 24⟩]) (by kernel_rfl) ?_
                        refine O.q (v := .bool true) (some 97) (Qu.as (congrArg Value.bool hc8) (Qu.binT (op := .eql) (t := 37) (t' := 37) (x := .tmp 95) (y := .tmp 96) (u := .agg #[.int .i64 x13_14.f0, .int .i64 x13_14.f1, .string x13_14.f2]) (v := .agg #[.int .i64 0, .int .i64 2, .string (⟨#[]⟩ : ByteArray)]) (by kernel_rfl) (by kernel_rfl) (by kernel_rfl) (by kernel_rfl))) (by kernel_rfl) ?_
                        refine O.pure 5 [(2, 3)] [1, 13, 99, 102] [p1_5, 3] (fr' := [(1, .pointer (some ⟨p1_5, 0, none⟩)), (13, .bool x12_4.2.2), (99, .bool true), (102, .int .i64 (x11_4.1.f3.length : Int))]) (bx' := [⟨p12_9, [.int .i64 x12_4.1.f0, .int .i64 x12_4.1.f1, .int .i64 x12_4.1.f2, .slice p12_4.1 x12_4.1.f3.length p12_4.2, .bool x12_4.1.f4], 24⟩, ⟨p6_9, [.int .i64 x8_1.1.f0, .int .i64 x8_1.1.f1, .int .i64 x8_1.1.f2, .slice p8_1.1.1 x8_1.1.f3.length p8_1.1.2, .bool x8_1.1.f4], 24⟩, ⟨p1_5, [.int .i64 x11_4.1.f0, .int .i64 x11_4.1.f1, .int .i64 x11_4.1.f2, .slice p11_4.1 x11_4.1.f3.length p11_4.2, .bool x11_4.1.f4], 24⟩]) (by kernel_rfl) ?_
                        refine O.q (v := .bool false) (some 103) (Qu.eqv (u := .bool ((x11_4.1.f3.length : Int) == 0)) (v := .bool false) (0, 0) [] (by kernel_rfl) (congrArg Value.bool hc9)) (by kernel_rfl) ?_
                        refine O.pure 10 [] [0] [] (fr' := [(0, .bool false)]) (bx' := [⟨p12_9, [.int .i64 x12_4.1.f0, .int .i64 x12_4.1.f1, .int .i64 x12_4.1.f2, .slice p12_4.1 x12_4.1.f3.length p12_4.2, .bool x12_4.1.f4], 24⟩, ⟨p6_9, [.int .i64 x8_1.1.f0, .int .i64 x8_1.1.f1, .int .i64 x8_1.1.f2, .slice p8_1.1.1 x8_1.1.f3.length p8_1.1.2, .bool x8_1.1.f4], 24⟩, ⟨p1_5, [.int .i64 x11_4.1.f0, .int .i64 x11_4.1.f1, .int .i64 x11_4.1.f2, .slice p11_4.1 x11_4.1.f3.length p11_4.2, .bool x11_4.1.f4], 24⟩]) (by kernel_rfl) ?_
                        refine O.nil (by kernel_rfl) ?_
                        obtain rfl := Option.some.inj H
                        exact J.doneS [] [] [] [] [] () (vs := [.bool false]) (by kernel_rfl) (by kernel_rfl) (by kernel_rfl) (by kernel_rfl) (by kernel_rfl) (by decide)
                    · refine J.region (by kernel_rfl) ?_
                      refine O.pure 1 [] [1, 7, 8, 9, 10, 13, 80] [] (fr' := [(1, .pointer (some ⟨p1_5, 0, none⟩)), (7, .bool x6_4.2.2), (8, .string x7_4.2.1), (9, .bool x7_4.2.2), (10, .slice p8_1.2.1 x8_1.2.length p8_1.2.2), (13, .bool x12_4.2.2), (80, .string x6_4.2.1)]) (bx' := [⟨p12_9, [.int .i64 x12_4.1.f0, .int .i64 x12_4.1.f1, .int .i64 x12_4.1.f2, .slice p12_4.1 x12_4.1.f3.length p12_4.2, .bool x12_4.1.f4], 24⟩, ⟨p6_9, [.int .i64 x8_1.1.f0, .int .i64 x8_1.1.f1, .int .i64 x8_1.1.f2, .slice p8_1.1.1 x8_1.1.f3.length p8_1.1.2, .bool x8_1.1.f4], 24⟩, ⟨p1_5, [.int .i64 x11_4.1.f0, .int .i64 x11_4.1.f1, .int .i64 x11_4.1.f2, .slice p11_4.1 x11_4.1.f3.length p11_4.2, .bool x11_4.1.f4], 24⟩]) (by kernel_rfl) ?_
                      refine O.q (v := .bool true) (some 81) (Qu.eqv (u := .bool (x6_4.2.1.toList == (⟨#[97]⟩ : ByteArray).toList)) (v := .bool true) (0, 0) [] (by kernel_rfl) (congrArg Value.bool hc4)) (by kernel_rfl) ?_
                      refine O.pure 1 [] [1, 7, 8, 9, 10, 13, 82] [] (fr' := [(1, .pointer (some ⟨p1_5, 0, none⟩)), (7, .bool x6_4.2.2), (8, .string x7_4.2.1), (9, .bool x7_4.2.2), (10, .slice p8_1.2.1 x8_1.2.length p8_1.2.2), (13, .bool x12_4.2.2), (82, .bool true)]) (bx' := [⟨p12_9, [.int .i64 x12_4.1.f0, .int .i64 x12_4.1.f1, .int .i64 x12_4.1.f2, .slice p12_4.1 x12_4.1.f3.length p12_4.2, .bool x12_4.1.f4], 24⟩, ⟨p6_9, [.int .i64 x8_1.1.f0, .int .i64 x8_1.1.f1, .int .i64 x8_1.1.f2, .slice p8_1.1.1 x8_1.1.f3.length p8_1.1.2, .bool x8_1.1.f4], 24⟩, ⟨p1_5, [.int .i64 x11_4.1.f0, .int .i64 x11_4.1.f1, .int .i64 x11_4.1.f2, .slice p11_4.1 x11_4.1.f3.length p11_4.2, .bool x11_4.1.f4], 24⟩]) (by kernel_rfl) ?_
                      refine O.q (v := .bool true) (some 83) (Qu.eqv (u := .bool x6_4.2.2) (v := .bool true) (0, 0) [] (by kernel_rfl) (congrArg Value.bool hc5)) (by kernel_rfl) ?_
                      refine O.pure 3 [] [1, 9, 10, 13, 85, 86] [] (fr' := [(1, .pointer (some ⟨p1_5, 0, none⟩)), (9, .bool x7_4.2.2), (10, .slice p8_1.2.1 x8_1.2.length p8_1.2.2), (13, .bool x12_4.2.2), (85, .bool true), (86, .string x7_4.2.1)]) (bx' := [⟨p12_9, [.int .i64 x12_4.1.f0, .int .i64 x12_4.1.f1, .int .i64 x12_4.1.f2, .slice p12_4.1 x12_4.1.f3.length p12_4.2, .bool x12_4.1.f4], 24⟩, ⟨p6_9, [.int .i64 x8_1.1.f0, .int .i64 x8_1.1.f1, .int .i64 x8_1.1.f2, .slice p8_1.1.1 x8_1.1.f3.length p8_1.1.2, .bool x8_1.1.f4], 24⟩, ⟨p1_5, [.int .i64 x11_4.1.f0, .int .i64 x11_4.1.f1, .int .i64 x11_4.1.f2, .slice p11_4.1 x11_4.1.f3.length p11_4.2, .bool x11_4.1.f4], 24⟩]) (by kernel_rfl) ?_
                      refine O.q (v := .bool true) (some 87) (Qu.eqv (u := .bool (x7_4.2.1.toList == (⟨#[98]⟩ : ByteArray).toList)) (v := .bool true) (0, 0) [] (by kernel_rfl) (congrArg Value.bool hc6)) (by kernel_rfl) ?_
                      refine O.pure 2 [] [1, 9, 10, 13, 89] [] (fr' := [(1, .pointer (some ⟨p1_5, 0, none⟩)), (9, .bool x7_4.2.2), (10, .slice p8_1.2.1 x8_1.2.length p8_1.2.2), (13, .bool x12_4.2.2), (89, .bool true)]) (bx' := [⟨p12_9, [.int .i64 x12_4.1.f0, .int .i64 x12_4.1.f1, .int .i64 x12_4.1.f2, .slice p12_4.1 x12_4.1.f3.length p12_4.2, .bool x12_4.1.f4], 24⟩, ⟨p6_9, [.int .i64 x8_1.1.f0, .int .i64 x8_1.1.f1, .int .i64 x8_1.1.f2, .slice p8_1.1.1 x8_1.1.f3.length p8_1.1.2, .bool x8_1.1.f4], 24⟩, ⟨p1_5, [.int .i64 x11_4.1.f0, .int .i64 x11_4.1.f1, .int .i64 x11_4.1.f2, .slice p11_4.1 x11_4.1.f3.length p11_4.2, .bool x11_4.1.f4], 24⟩]) (by kernel_rfl) ?_
                      refine O.q (v := .bool true) (some 90) (Qu.eqv (u := .bool x7_4.2.2) (v := .bool true) (0, 0) [] (by kernel_rfl) (congrArg Value.bool hc7)) (by kernel_rfl) ?_
                      refine O.pure 3 [] [1, 13, 92, 93] [] (fr' := [(1, .pointer (some ⟨p1_5, 0, none⟩)), (13, .bool x12_4.2.2), (92, .bool true), (93, .slice p8_1.2.1 x8_1.2.length p8_1.2.2)]) (bx' := [⟨p12_9, [.int .i64 x12_4.1.f0, .int .i64 x12_4.1.f1, .int .i64 x12_4.1.f2, .slice p12_4.1 x12_4.1.f3.length p12_4.2, .bool x12_4.1.f4], 24⟩, ⟨p6_9, [.int .i64 x8_1.1.f0, .int .i64 x8_1.1.f1, .int .i64 x8_1.1.f2, .slice p8_1.1.1 x8_1.1.f3.length p8_1.1.2, .bool x8_1.1.f4], 24⟩, ⟨p1_5, [.int .i64 x11_4.1.f0, .int .i64 x11_4.1.f1, .int .i64 x11_4.1.f2, .slice p11_4.1 x11_4.1.f3.length p11_4.2, .bool x11_4.1.f4], 24⟩]) (by kernel_rfl) ?_
                      refine O.open (d := kd37) (h := p8_1.2) (i := 0) 2 rfl hx13_14 (op37 _) (fun p13_14 hp13_14A => ?_)
                      refine O.q (v := .pointer (some ⟨p13_14.1, p13_14.2.1 + (0 : Int).toNat * 3, none⟩)) (some 94) (Qu.idx (t := 45) (x := .tmp 93) (y := .const (.int .i64 0)) (c := p8_1.2.2) (kk := .i64) (sz := 3) (by kernel_rfl) (by kernel_rfl) (by kernel_rfl) (by kernel_rfl) hx13_14a (idx_lt hx13_14) hp13_14A) (by kernel_rfl) ?_
                      refine O.pure 2 [(3, 0)] [1, 13, 92, 95, 96] [p13_14.1, p13_14.2.1 + (0 : Int).toNat * 3] (fr' := [(1, .pointer (some ⟨p1_5, 0, none⟩)), (13, .bool x12_4.2.2), (92, .bool true), (95, .agg #[.int .i64 x13_14.f0, .int .i64 x13_14.f1, .string x13_14.f2]), (96, .agg #[.int .i64 0, .int .i64 2, .string (⟨#[]⟩ : ByteArray)])]) (bx' := [⟨p12_9, [.int .i64 x12_4.1.f0, .int .i64 x12_4.1.f1, .int .i64 x12_4.1.f2, .slice p12_4.1 x12_4.1.f3.length p12_4.2, .bool x12_4.1.f4], 24⟩, ⟨p6_9, [.int .i64 x8_1.1.f0, .int .i64 x8_1.1.f1, .int .i64 x8_1.1.f2, .slice p8_1.1.1 x8_1.1.f3.length p8_1.1.2, .bool x8_1.1.f4], 24⟩, ⟨p1_5, [.int .i64 x11_4.1.f0, .int .i64 x11_4.1.f1, .int .i64 x11_4.1.f2, .slice p11_4.1 x11_4.1.f3.length p11_4.2, .bool x11_4.1.f4], 24⟩]) (by kernel_rfl) ?_
                      refine O.q (v := .bool false) (some 97) (Qu.as (congrArg Value.bool hc8) (Qu.binT (op := .eql) (t := 37) (t' := 37) (x := .tmp 95) (y := .tmp 96) (u := .agg #[.int .i64 x13_14.f0, .int .i64 x13_14.f1, .string x13_14.f2]) (v := .agg #[.int .i64 0, .int .i64 2, .string (⟨#[]⟩ : ByteArray)]) (by kernel_rfl) (by kernel_rfl) (by kernel_rfl) (by kernel_rfl))) (by kernel_rfl) ?_
                      refine O.pure 16 [] [0] [] (fr' := [(0, .bool false)]) (bx' := [⟨p12_9, [.int .i64 x12_4.1.f0, .int .i64 x12_4.1.f1, .int .i64 x12_4.1.f2, .slice p12_4.1 x12_4.1.f3.length p12_4.2, .bool x12_4.1.f4], 24⟩, ⟨p6_9, [.int .i64 x8_1.1.f0, .int .i64 x8_1.1.f1, .int .i64 x8_1.1.f2, .slice p8_1.1.1 x8_1.1.f3.length p8_1.1.2, .bool x8_1.1.f4], 24⟩, ⟨p1_5, [.int .i64 x11_4.1.f0, .int .i64 x11_4.1.f1, .int .i64 x11_4.1.f2, .slice p11_4.1 x11_4.1.f3.length p11_4.2, .bool x11_4.1.f4], 24⟩]) (by kernel_rfl) ?_
                      refine O.nil (by kernel_rfl) ?_
                      obtain rfl := Option.some.inj H
                      exact J.doneS [] [] [] [] [] () (vs := [.bool false]) (by kernel_rfl) (by kernel_rfl) (by kernel_rfl) (by kernel_rfl) (by kernel_rfl) (by decide)
                  · refine J.region (by kernel_rfl) ?_
                    refine O.pure 1 [] [1, 7, 8, 9, 10, 13, 80] [] (fr' := [(1, .pointer (some ⟨p1_5, 0, none⟩)), (7, .bool x6_4.2.2), (8, .string x7_4.2.1), (9, .bool x7_4.2.2), (10, .slice p8_1.2.1 x8_1.2.length p8_1.2.2), (13, .bool x12_4.2.2), (80, .string x6_4.2.1)]) (bx' := [⟨p12_9, [.int .i64 x12_4.1.f0, .int .i64 x12_4.1.f1, .int .i64 x12_4.1.f2, .slice p12_4.1 x12_4.1.f3.length p12_4.2, .bool x12_4.1.f4], 24⟩, ⟨p6_9, [.int .i64 x8_1.1.f0, .int .i64 x8_1.1.f1, .int .i64 x8_1.1.f2, .slice p8_1.1.1 x8_1.1.f3.length p8_1.1.2, .bool x8_1.1.f4], 24⟩, ⟨p1_5, [.int .i64 x11_4.1.f0, .int .i64 x11_4.1.f1, .int .i64 x11_4.1.f2, .slice p11_4.1 x11_4.1.f3.length p11_4.2, .bool x11_4.1.f4], 24⟩]) (by kernel_rfl) ?_
                    refine O.q (v := .bool true) (some 81) (Qu.eqv (u := .bool (x6_4.2.1.toList == (⟨#[97]⟩ : ByteArray).toList)) (v := .bool true) (0, 0) [] (by kernel_rfl) (congrArg Value.bool hc4)) (by kernel_rfl) ?_
                    refine O.pure 1 [] [1, 7, 8, 9, 10, 13, 82] [] (fr' := [(1, .pointer (some ⟨p1_5, 0, none⟩)), (7, .bool x6_4.2.2), (8, .string x7_4.2.1), (9, .bool x7_4.2.2), (10, .slice p8_1.2.1 x8_1.2.length p8_1.2.2), (13, .bool x12_4.2.2), (82, .bool true)]) (bx' := [⟨p12_9, [.int .i64 x12_4.1.f0, .int .i64 x12_4.1.f1, .int .i64 x12_4.1.f2, .slice p12_4.1 x12_4.1.f3.length p12_4.2, .bool x12_4.1.f4], 24⟩, ⟨p6_9, [.int .i64 x8_1.1.f0, .int .i64 x8_1.1.f1, .int .i64 x8_1.1.f2, .slice p8_1.1.1 x8_1.1.f3.length p8_1.1.2, .bool x8_1.1.f4], 24⟩, ⟨p1_5, [.int .i64 x11_4.1.f0, .int .i64 x11_4.1.f1, .int .i64 x11_4.1.f2, .slice p11_4.1 x11_4.1.f3.length p11_4.2, .bool x11_4.1.f4], 24⟩]) (by kernel_rfl) ?_
                    refine O.q (v := .bool true) (some 83) (Qu.eqv (u := .bool x6_4.2.2) (v := .bool true) (0, 0) [] (by kernel_rfl) (congrArg Value.bool hc5)) (by kernel_rfl) ?_
                    refine O.pure 3 [] [1, 9, 10, 13, 85, 86] [] (fr' := [(1, .pointer (some ⟨p1_5, 0, none⟩)), (9, .bool x7_4.2.2), (10, .slice p8_1.2.1 x8_1.2.length p8_1.2.2), (13, .bool x12_4.2.2), (85, .bool true), (86, .string x7_4.2.1)]) (bx' := [⟨p12_9, [.int .i64 x12_4.1.f0, .int .i64 x12_4.1.f1, .int .i64 x12_4.1.f2, .slice p12_4.1 x12_4.1.f3.length p12_4.2, .bool x12_4.1.f4], 24⟩, ⟨p6_9, [.int .i64 x8_1.1.f0, .int .i64 x8_1.1.f1, .int .i64 x8_1.1.f2, .slice p8_1.1.1 x8_1.1.f3.length p8_1.1.2, .bool x8_1.1.f4], 24⟩, ⟨p1_5, [.int .i64 x11_4.1.f0, .int .i64 x11_4.1.f1, .int .i64 x11_4.1.f2, .slice p11_4.1 x11_4.1.f3.length p11_4.2, .bool x11_4.1.f4], 24⟩]) (by kernel_rfl) ?_
                    refine O.q (v := .bool true) (some 87) (Qu.eqv (u := .bool (x7_4.2.1.toList == (⟨#[98]⟩ : ByteArray).toList)) (v := .bool true) (0, 0) [] (by kernel_rfl) (congrArg Value.bool hc6)) (by kernel_rfl) ?_
                    refine O.pure 2 [] [1, 9, 10, 13, 89] [] (fr' := [(1, .pointer (some ⟨p1_5, 0, none⟩)), (9, .bool x7_4.2.2), (10, .slice p8_1.2.1 x8_1.2.length p8_1.2.2), (13, .bool x12_4.2.2), (89, .bool true)]) (bx' := [⟨p12_9, [.int .i64 x12_4.1.f0, .int .i64 x12_4.1.f1, .int .i64 x12_4.1.f2, .slice p12_4.1 x12_4.1.f3.length p12_4.2, .bool x12_4.1.f4], 24⟩, ⟨p6_9, [.int .i64 x8_1.1.f0, .int .i64 x8_1.1.f1, .int .i64 x8_1.1.f2, .slice p8_1.1.1 x8_1.1.f3.length p8_1.1.2, .bool x8_1.1.f4], 24⟩, ⟨p1_5, [.int .i64 x11_4.1.f0, .int .i64 x11_4.1.f1, .int .i64 x11_4.1.f2, .slice p11_4.1 x11_4.1.f3.length p11_4.2, .bool x11_4.1.f4], 24⟩]) (by kernel_rfl) ?_
                    refine O.q (v := .bool false) (some 90) (Qu.eqv (u := .bool x7_4.2.2) (v := .bool false) (0, 0) [] (by kernel_rfl) (congrArg Value.bool hc7)) (by kernel_rfl) ?_
                    refine O.pure 23 [] [0] [] (fr' := [(0, .bool false)]) (bx' := [⟨p12_9, [.int .i64 x12_4.1.f0, .int .i64 x12_4.1.f1, .int .i64 x12_4.1.f2, .slice p12_4.1 x12_4.1.f3.length p12_4.2, .bool x12_4.1.f4], 24⟩, ⟨p6_9, [.int .i64 x8_1.1.f0, .int .i64 x8_1.1.f1, .int .i64 x8_1.1.f2, .slice p8_1.1.1 x8_1.1.f3.length p8_1.1.2, .bool x8_1.1.f4], 24⟩, ⟨p1_5, [.int .i64 x11_4.1.f0, .int .i64 x11_4.1.f1, .int .i64 x11_4.1.f2, .slice p11_4.1 x11_4.1.f3.length p11_4.2, .bool x11_4.1.f4], 24⟩]) (by kernel_rfl) ?_
                    refine O.nil (by kernel_rfl) ?_
                    obtain rfl := Option.some.inj H
                    exact J.doneS [] [] [] [] [] () (vs := [.bool false]) (by kernel_rfl) (by kernel_rfl) (by kernel_rfl) (by kernel_rfl) (by kernel_rfl) (by decide)
                · refine J.region (by kernel_rfl) ?_
                  refine O.pure 1 [] [1, 7, 8, 9, 10, 13, 80] [] (fr' := [(1, .pointer (some ⟨p1_5, 0, none⟩)), (7, .bool x6_4.2.2), (8, .string x7_4.2.1), (9, .bool x7_4.2.2), (10, .slice p8_1.2.1 x8_1.2.length p8_1.2.2), (13, .bool x12_4.2.2), (80, .string x6_4.2.1)]) (bx' := [⟨p12_9, [.int .i64 x12_4.1.f0, .int .i64 x12_4.1.f1, .int .i64 x12_4.1.f2, .slice p12_4.1 x12_4.1.f3.length p12_4.2, .bool x12_4.1.f4], 24⟩, ⟨p6_9, [.int .i64 x8_1.1.f0, .int .i64 x8_1.1.f1, .int .i64 x8_1.1.f2, .slice p8_1.1.1 x8_1.1.f3.length p8_1.1.2, .bool x8_1.1.f4], 24⟩, ⟨p1_5, [.int .i64 x11_4.1.f0, .int .i64 x11_4.1.f1, .int .i64 x11_4.1.f2, .slice p11_4.1 x11_4.1.f3.length p11_4.2, .bool x11_4.1.f4], 24⟩]) (by kernel_rfl) ?_
                  refine O.q (v := .bool true) (some 81) (Qu.eqv (u := .bool (x6_4.2.1.toList == (⟨#[97]⟩ : ByteArray).toList)) (v := .bool true) (0, 0) [] (by kernel_rfl) (congrArg Value.bool hc4)) (by kernel_rfl) ?_
                  refine O.pure 1 [] [1, 7, 8, 9, 10, 13, 82] [] (fr' := [(1, .pointer (some ⟨p1_5, 0, none⟩)), (7, .bool x6_4.2.2), (8, .string x7_4.2.1), (9, .bool x7_4.2.2), (10, .slice p8_1.2.1 x8_1.2.length p8_1.2.2), (13, .bool x12_4.2.2), (82, .bool true)]) (bx' := [⟨p12_9, [.int .i64 x12_4.1.f0, .int .i64 x12_4.1.f1, .int .i64 x12_4.1.f2, .slice p12_4.1 x12_4.1.f3.length p12_4.2, .bool x12_4.1.f4], 24⟩, ⟨p6_9, [.int .i64 x8_1.1.f0, .int .i64 x8_1.1.f1, .int .i64 x8_1.1.f2, .slice p8_1.1.1 x8_1.1.f3.length p8_1.1.2, .bool x8_1.1.f4], 24⟩, ⟨p1_5, [.int .i64 x11_4.1.f0, .int .i64 x11_4.1.f1, .int .i64 x11_4.1.f2, .slice p11_4.1 x11_4.1.f3.length p11_4.2, .bool x11_4.1.f4], 24⟩]) (by kernel_rfl) ?_
                  refine O.q (v := .bool true) (some 83) (Qu.eqv (u := .bool x6_4.2.2) (v := .bool true) (0, 0) [] (by kernel_rfl) (congrArg Value.bool hc5)) (by kernel_rfl) ?_
                  refine O.pure 3 [] [1, 9, 10, 13, 85, 86] [] (fr' := [(1, .pointer (some ⟨p1_5, 0, none⟩)), (9, .bool x7_4.2.2), (10, .slice p8_1.2.1 x8_1.2.length p8_1.2.2), (13, .bool x12_4.2.2), (85, .bool true), (86, .string x7_4.2.1)]) (bx' := [⟨p12_9, [.int .i64 x12_4.1.f0, .int .i64 x12_4.1.f1, .int .i64 x12_4.1.f2, .slice p12_4.1 x12_4.1.f3.length p12_4.2, .bool x12_4.1.f4], 24⟩, ⟨p6_9, [.int .i64 x8_1.1.f0, .int .i64 x8_1.1.f1, .int .i64 x8_1.1.f2, .slice p8_1.1.1 x8_1.1.f3.length p8_1.1.2, .bool x8_1.1.f4], 24⟩, ⟨p1_5, [.int .i64 x11_4.1.f0, .int .i64 x11_4.1.f1, .int .i64 x11_4.1.f2, .slice p11_4.1 x11_4.1.f3.length p11_4.2, .bool x11_4.1.f4], 24⟩]) (by kernel_rfl) ?_
                  refine O.q (v := .bool false) (some 87) (Qu.eqv (u := .bool (x7_4.2.1.toList == (⟨#[98]⟩ : ByteArray).toList)) (v := .bool false) (0, 0) [] (by kernel_rfl) (congrArg Value.bool hc6)) (by kernel_rfl) ?_
                  refine O.pure 26 [] [0] [] (fr' := [(0, .bool false)]) (bx' := [⟨p12_9, [.int .i64 x12_4.1.f0, .int .i64 x12_4.1.f1, .int .i64 x12_4.1.f2, .slice p12_4.1 x12_4.1.f3.length p12_4.2, .bool x12_4.1.f4], 24⟩, ⟨p6_9, [.int .i64 x8_1.1.f0, .int .i64 x8_1.1.f1, .int .i64 x8_1.1.f2, .slice p8_1.1.1 x8_1.1.f3.length p8_1.1.2, .bool x8_1.1.f4], 24⟩, ⟨p1_5, [.int .i64 x11_4.1.f0, .int .i64 x11_4.1.f1, .int .i64 x11_4.1.f2, .slice p11_4.1 x11_4.1.f3.length p11_4.2, .bool x11_4.1.f4], 24⟩]) (by kernel_rfl) ?_
                  refine O.nil (by kernel_rfl) ?_
                  obtain rfl := Option.some.inj H
                  exact J.doneS [] [] [] [] [] () (vs := [.bool false]) (by kernel_rfl) (by kernel_rfl) (by kernel_rfl) (by kernel_rfl) (by kernel_rfl) (by decide)
              · refine J.region (by kernel_rfl) ?_
                refine O.pure 1 [] [1, 7, 8, 9, 10, 13, 80] [] (fr' := [(1, .pointer (some ⟨p1_5, 0, none⟩)), (7, .bool x6_4.2.2), (8, .string x7_4.2.1), (9, .bool x7_4.2.2), (10, .slice p8_1.2.1 x8_1.2.length p8_1.2.2), (13, .bool x12_4.2.2), (80, .string x6_4.2.1)]) (bx' := [⟨p12_9, [.int .i64 x12_4.1.f0, .int .i64 x12_4.1.f1, .int .i64 x12_4.1.f2, .slice p12_4.1 x12_4.1.f3.length p12_4.2, .bool x12_4.1.f4], 24⟩, ⟨p6_9, [.int .i64 x8_1.1.f0, .int .i64 x8_1.1.f1, .int .i64 x8_1.1.f2, .slice p8_1.1.1 x8_1.1.f3.length p8_1.1.2, .bool x8_1.1.f4], 24⟩, ⟨p1_5, [.int .i64 x11_4.1.f0, .int .i64 x11_4.1.f1, .int .i64 x11_4.1.f2, .slice p11_4.1 x11_4.1.f3.length p11_4.2, .bool x11_4.1.f4], 24⟩]) (by kernel_rfl) ?_
                refine O.q (v := .bool true) (some 81) (Qu.eqv (u := .bool (x6_4.2.1.toList == (⟨#[97]⟩ : ByteArray).toList)) (v := .bool true) (0, 0) [] (by kernel_rfl) (congrArg Value.bool hc4)) (by kernel_rfl) ?_
                refine O.pure 1 [] [1, 7, 8, 9, 10, 13, 82] [] (fr' := [(1, .pointer (some ⟨p1_5, 0, none⟩)), (7, .bool x6_4.2.2), (8, .string x7_4.2.1), (9, .bool x7_4.2.2), (10, .slice p8_1.2.1 x8_1.2.length p8_1.2.2), (13, .bool x12_4.2.2), (82, .bool true)]) (bx' := [⟨p12_9, [.int .i64 x12_4.1.f0, .int .i64 x12_4.1.f1, .int .i64 x12_4.1.f2, .slice p12_4.1 x12_4.1.f3.length p12_4.2, .bool x12_4.1.f4], 24⟩, ⟨p6_9, [.int .i64 x8_1.1.f0, .int .i64 x8_1.1.f1, .int .i64 x8_1.1.f2, .slice p8_1.1.1 x8_1.1.f3.length p8_1.1.2, .bool x8_1.1.f4], 24⟩, ⟨p1_5, [.int .i64 x11_4.1.f0, .int .i64 x11_4.1.f1, .int .i64 x11_4.1.f2, .slice p11_4.1 x11_4.1.f3.length p11_4.2, .bool x11_4.1.f4], 24⟩]) (by kernel_rfl) ?_
                refine O.q (v := .bool false) (some 83) (Qu.eqv (u := .bool x6_4.2.2) (v := .bool false) (0, 0) [] (by kernel_rfl) (congrArg Value.bool hc5)) (by kernel_rfl) ?_
                refine O.pure 30 [] [0] [] (fr' := [(0, .bool false)]) (bx' := [⟨p12_9, [.int .i64 x12_4.1.f0, .int .i64 x12_4.1.f1, .int .i64 x12_4.1.f2, .slice p12_4.1 x12_4.1.f3.length p12_4.2, .bool x12_4.1.f4], 24⟩, ⟨p6_9, [.int .i64 x8_1.1.f0, .int .i64 x8_1.1.f1, .int .i64 x8_1.1.f2, .slice p8_1.1.1 x8_1.1.f3.length p8_1.1.2, .bool x8_1.1.f4], 24⟩, ⟨p1_5, [.int .i64 x11_4.1.f0, .int .i64 x11_4.1.f1, .int .i64 x11_4.1.f2, .slice p11_4.1 x11_4.1.f3.length p11_4.2, .bool x11_4.1.f4], 24⟩]) (by kernel_rfl) ?_
                refine O.nil (by kernel_rfl) ?_
                obtain rfl := Option.some.inj H
                exact J.doneS [] [] [] [] [] () (vs := [.bool false]) (by kernel_rfl) (by kernel_rfl) (by kernel_rfl) (by kernel_rfl) (by kernel_rfl) (by decide)
            · refine J.region (by kernel_rfl) ?_
              refine O.pure 1 [] [1, 7, 8, 9, 10, 13, 80] [] (fr' := [(1, .pointer (some ⟨p1_5, 0, none⟩)), (7, .bool x6_4.2.2), (8, .string x7_4.2.1), (9, .bool x7_4.2.2), (10, .slice p8_1.2.1 x8_1.2.length p8_1.2.2), (13, .bool x12_4.2.2), (80, .string x6_4.2.1)]) (bx' := [⟨p12_9, [.int .i64 x12_4.1.f0, .int .i64 x12_4.1.f1, .int .i64 x12_4.1.f2, .slice p12_4.1 x12_4.1.f3.length p12_4.2, .bool x12_4.1.f4], 24⟩, ⟨p6_9, [.int .i64 x8_1.1.f0, .int .i64 x8_1.1.f1, .int .i64 x8_1.1.f2, .slice p8_1.1.1 x8_1.1.f3.length p8_1.1.2, .bool x8_1.1.f4], 24⟩, ⟨p1_5, [.int .i64 x11_4.1.f0, .int .i64 x11_4.1.f1, .int .i64 x11_4.1.f2, .slice p11_4.1 x11_4.1.f3.length p11_4.2, .bool x11_4.1.f4], 24⟩]) (by kernel_rfl) ?_
              refine O.q (v := .bool false) (some 81) (Qu.eqv (u := .bool (x6_4.2.1.toList == (⟨#[97]⟩ : ByteArray).toList)) (v := .bool false) (0, 0) [] (by kernel_rfl) (congrArg Value.bool hc4)) (by kernel_rfl) ?_
              refine O.pure 32 [] [0] [] (fr' := [(0, .bool false)]) (bx' := [⟨p12_9, [.int .i64 x12_4.1.f0, .int .i64 x12_4.1.f1, .int .i64 x12_4.1.f2, .slice p12_4.1 x12_4.1.f3.length p12_4.2, .bool x12_4.1.f4], 24⟩, ⟨p6_9, [.int .i64 x8_1.1.f0, .int .i64 x8_1.1.f1, .int .i64 x8_1.1.f2, .slice p8_1.1.1 x8_1.1.f3.length p8_1.1.2, .bool x8_1.1.f4], 24⟩, ⟨p1_5, [.int .i64 x11_4.1.f0, .int .i64 x11_4.1.f1, .int .i64 x11_4.1.f2, .slice p11_4.1 x11_4.1.f3.length p11_4.2, .bool x11_4.1.f4], 24⟩]) (by kernel_rfl) ?_
              refine O.nil (by kernel_rfl) ?_
              obtain rfl := Option.some.inj H
              exact J.doneS [] [] [] [] [] () (vs := [.bool false]) (by kernel_rfl) (by kernel_rfl) (by kernel_rfl) (by kernel_rfl) (by kernel_rfl) (by decide)
          · refine J.drawS (by kernel_rfl) [(0, some 72, .agg #[.int .i64 x8_1.1.f0, .int .i64 x8_1.1.f1, .int .i64 x8_1.1.f2, .slice p8_1.1.1 x8_1.1.f3.length p8_1.1.2, .bool x8_1.1.f4]), (1, some 73, .slice p3_1.2.1 x3_1.2.length p3_1.2.2), (3, some 75, .agg #[.int .i64 x12_2.f0, .int .i64 x12_2.f1, .string x12_2.f2]), (2, some 74, .pointer (some ⟨p12_2.1, p12_2.2.1 + (1 : Int).toNat * 3, none⟩))] ([0, 1, 3] ++ [2]) (by kernel_rfl) ?_
            refine D.mid (cs := [4, 9]) [0, 1, 3] [2] [(0, 0), (2, 0)] [p6_9, 0, p12_2.1, p12_2.2.1 + (1 : Int).toNat * 3] (by kernel_rfl) (by kernel_rfl) (⟨QuAt.mk (v := .pointer (some ⟨p12_2.1, p12_2.2.1 + (1 : Int).toNat * 3, none⟩)) (some 74) (by kernel_rfl) (by kernel_rfl) (Qu.idx (t := 45) (x := .tmp 73) (y := .const (.int .i64 1)) (c := p3_1.2.2) (kk := .i64) (sz := 3) (by kernel_rfl) (by kernel_rfl) (by kernel_rfl) (by kernel_rfl) hx12_2a (idx_lt hx12_2) hp12_2A), trivial⟩) (by kernel_rfl) ⟨?_, ?_, trivial⟩
            · refine EvStep.mk (some 76) (new := fun p12_4 => [(5, some 71, .tuple #[.agg #[.int .i64 x12_4.1.f0, .int .i64 x12_4.1.f1, .int .i64 x12_4.1.f2, .slice p12_4.1 x12_4.1.f3.length p12_4.2, .bool x12_4.1.f4], .string x12_4.2.1, .bool x12_4.2.2]), (6, some 77, .agg #[.int .i64 x12_4.1.f0, .int .i64 x12_4.1.f1, .int .i64 x12_4.1.f2, .slice p12_4.1 x12_4.1.f3.length p12_4.2, .bool x12_4.1.f4]), (7, some 78, .string x12_4.2.1), (8, some 79, .bool x12_4.2.2)]) ([1, 5, 6, 7, 8] ++ [2]) (by kernel_rfl) (Ev.call0 (xs := [.tmp 72, .tmp 75]) [2] (by kernel_rfl) (by kernel_rfl) (fun w hS => link_Take.con K x8_1.1 x12_2 p8_1.1  _ _ w hS hx12_4)) (fun p12_4 => by kernel_rfl) (fun p12_4 => ?_)
              refine D.mid (cs := [9]) [1, 5, 6, 7, 8] [2] [] [] (by kernel_rfl) (by kernel_rfl) (⟨QuAt.mk (v := .pointer (some ⟨p12_2.1, p12_2.2.1 + (1 : Int).toNat * 3, none⟩)) (some 74) (by kernel_rfl) (by kernel_rfl) (Qu.idx (t := 45) (x := .tmp 73) (y := .const (.int .i64 1)) (c := p3_1.2.2) (kk := .i64) (sz := 3) (by kernel_rfl) (by kernel_rfl) (by kernel_rfl) (by kernel_rfl) hx12_2a (idx_lt hx12_2) hp12_2A), trivial⟩) (by kernel_rfl) ⟨?_, trivial⟩
              refine EvStep.mk (some 11) (new := fun p12_9 => []) ([1, 5, 6, 7, 8] ++ [2]) (by kernel_rfl) (Ev.alloc (t := 24) (z := .agg #[.int .i64 0, .int .i64 0, .int .i64 0, .slice none 0 0, .bool false]) (by kernel_rfl) (by kernel_rfl)) (fun p12_9 => by kernel_rfl) (fun p12_9 => ?_)
              refine D.mid (cs := [10]) [1, 5, 6, 7, 8] [2] [] [] (by kernel_rfl) (by kernel_rfl) (⟨QuAt.mk (v := .pointer (some ⟨p12_2.1, p12_2.2.1 + (1 : Int).toNat * 3, none⟩)) (some 74) (by kernel_rfl) (by kernel_rfl) (Qu.idx (t := 45) (x := .tmp 73) (y := .const (.int .i64 1)) (c := p3_1.2.2) (kk := .i64) (sz := 3) (by kernel_rfl) (by kernel_rfl) (by kernel_rfl) (by kernel_rfl) hx12_2a (idx_lt hx12_2) hp12_2A), trivial⟩) (by kernel_rfl) ⟨?_, trivial⟩
              refine EvStep.mk none (new := fun _ => [(11, some 12, .string x12_4.2.1), (12, some 13, .bool x12_4.2.2)]) ([7, 8, 11, 12] ++ []) (by kernel_rfl) (Ev.store (kk := 0) (cs := [.int .i64 x12_4.1.f0, .int .i64 x12_4.1.f1, .int .i64 x12_4.1.f2, .slice p12_4.1 x12_4.1.f3.length p12_4.2, .bool x12_4.1.f4]) (0, 0) [p12_9, 0] (by kernel_rfl)) (fun _ => by kernel_rfl) (fun _ => ?_)
              refine D.fin (fr' := [(1, .pointer (some ⟨p1_5, 0, none⟩)), (6, .string x6_4.2.1), (7, .bool x6_4.2.2), (8, .string x7_4.2.1), (9, .bool x7_4.2.2), (10, .slice p8_1.2.1 x8_1.2.length p8_1.2.2), (13, .bool x12_4.2.2)]) [7, 8, 11, 12] [] [] [] [1, 6, 7, 8, 9, 10, 13] (by kernel_rfl) (by kernel_rfl) trivial (by kernel_rfl) ?_
              exact J.conv2 [1, 6, 7, 8, 9, 10, 13] [0, 1, 2, 3, 4, 5, 6, 7, 8, 9] [0, 1, 2] [0, 1] (by kernel_rfl) (by kernel_rfl) (by kernel_rfl) (by kernel_rfl) (by decide) (hk_ (p12_4, p12_9))
            · refine EvStep.mk (some 11) (new := fun p12_9 => []) ([0, 1, 3] ++ [2]) (by kernel_rfl) (Ev.alloc (t := 24) (z := .agg #[.int .i64 0, .int .i64 0, .int .i64 0, .slice none 0 0, .bool false]) (by kernel_rfl) (by kernel_rfl)) (fun p12_9 => by kernel_rfl) (fun p12_9 => ?_)
              refine D.mid (cs := [4]) [0, 1, 3] [2] [(1, 0), (3, 0)] [p6_9, 0, p12_2.1, p12_2.2.1 + (1 : Int).toNat * 3] (by kernel_rfl) (by kernel_rfl) (⟨QuAt.mk (v := .pointer (some ⟨p12_2.1, p12_2.2.1 + (1 : Int).toNat * 3, none⟩)) (some 74) (by kernel_rfl) (by kernel_rfl) (Qu.idx (t := 45) (x := .tmp 73) (y := .const (.int .i64 1)) (c := p3_1.2.2) (kk := .i64) (sz := 3) (by kernel_rfl) (by kernel_rfl) (by kernel_rfl) (by kernel_rfl) hx12_2a (idx_lt hx12_2) hp12_2A), trivial⟩) (by kernel_rfl) ⟨?_, trivial⟩
              refine EvStep.mk (some 76) (new := fun p12_4 => [(5, some 71, .tuple #[.agg #[.int .i64 x12_4.1.f0, .int .i64 x12_4.1.f1, .int .i64 x12_4.1.f2, .slice p12_4.1 x12_4.1.f3.length p12_4.2, .bool x12_4.1.f4], .string x12_4.2.1, .bool x12_4.2.2]), (6, some 77, .agg #[.int .i64 x12_4.1.f0, .int .i64 x12_4.1.f1, .int .i64 x12_4.1.f2, .slice p12_4.1 x12_4.1.f3.length p12_4.2, .bool x12_4.1.f4]), (7, some 78, .string x12_4.2.1), (8, some 79, .bool x12_4.2.2)]) ([1, 5, 6, 7, 8] ++ [2]) (by kernel_rfl) (Ev.call0 (xs := [.tmp 72, .tmp 75]) [2] (by kernel_rfl) (by kernel_rfl) (fun w hS => link_Take.con K x8_1.1 x12_2 p8_1.1  _ _ w hS hx12_4)) (fun p12_4 => by kernel_rfl) (fun p12_4 => ?_)
              refine D.mid (cs := [10]) [1, 5, 6, 7, 8] [2] [] [] (by kernel_rfl) (by kernel_rfl) (⟨QuAt.mk (v := .pointer (some ⟨p12_2.1, p12_2.2.1 + (1 : Int).toNat * 3, none⟩)) (some 74) (by kernel_rfl) (by kernel_rfl) (Qu.idx (t := 45) (x := .tmp 73) (y := .const (.int .i64 1)) (c := p3_1.2.2) (kk := .i64) (sz := 3) (by kernel_rfl) (by kernel_rfl) (by kernel_rfl) (by kernel_rfl) hx12_2a (idx_lt hx12_2) hp12_2A), trivial⟩) (by kernel_rfl) ⟨?_, trivial⟩
              refine EvStep.mk none (new := fun _ => [(11, some 12, .string x12_4.2.1), (12, some 13, .bool x12_4.2.2)]) ([7, 8, 11, 12] ++ []) (by kernel_rfl) (Ev.store (kk := 0) (cs := [.int .i64 x12_4.1.f0, .int .i64 x12_4.1.f1, .int .i64 x12_4.1.f2, .slice p12_4.1 x12_4.1.f3.length p12_4.2, .bool x12_4.1.f4]) (0, 0) [p12_9, 0] (by kernel_rfl)) (fun _ => by kernel_rfl) (fun _ => ?_)
              refine D.fin (fr' := [(1, .pointer (some ⟨p1_5, 0, none⟩)), (6, .string x6_4.2.1), (7, .bool x6_4.2.2), (8, .string x7_4.2.1), (9, .bool x7_4.2.2), (10, .slice p8_1.2.1 x8_1.2.length p8_1.2.2), (13, .bool x12_4.2.2)]) [7, 8, 11, 12] [] [] [] [1, 6, 7, 8, 9, 10, 13] (by kernel_rfl) (by kernel_rfl) trivial (by kernel_rfl) ?_
              exact J.conv2 [1, 6, 7, 8, 9, 10, 13] [0, 1, 2, 3, 4, 5, 6, 7, 8, 9] [0, 1, 2] [0, 1] (by kernel_rfl) (by kernel_rfl) (by kernel_rfl) (by kernel_rfl) (by decide) (hk_ (p12_4, p12_9))
      · refine J.drawS (by kernel_rfl) [(1, some 38, .slice p3_1.2.1 x3_1.2.length p3_1.2.2), (3, some 40, .agg #[.int .i64 x6_2.f0, .int .i64 x6_2.f1, .string x6_2.f2]), (2, some 39, .pointer (some ⟨p6_2.1, p6_2.2.1 + (0 : Int).toNat * 3, none⟩))] ([1, 3] ++ [2]) (by kernel_rfl) ?_
        refine D.mid (cs := [0, 9]) [1, 3] [2] [(1, 0)] [p6_2.1, p6_2.2.1 + (0 : Int).toNat * 3] (by kernel_rfl) (by kernel_rfl) (⟨QuAt.mk (v := .pointer (some ⟨p6_2.1, p6_2.2.1 + (0 : Int).toNat * 3, none⟩)) (some 39) (by kernel_rfl) (by kernel_rfl) (Qu.idx (t := 45) (x := .tmp 38) (y := .const (.int .i64 0)) (c := p3_1.2.2) (kk := .i64) (sz := 3) (by kernel_rfl) (by kernel_rfl) (by kernel_rfl) (by kernel_rfl) hx6_2a (idx_lt hx6_2) hp6_2A), trivial⟩) (by kernel_rfl) ⟨?_, ?_, trivial⟩
        · refine EvStep.mk (some 37) (new := fun p6_0 => []) ([1, 3] ++ [2]) (by kernel_rfl) (Ev.call0 (xs := []) [] (by kernel_rfl) (by kernel_rfl) (fun w hS => link_New.con K  _ _ w hS hx6_0)) (fun p6_0 => by kernel_rfl) (fun p6_0 => ?_)
          refine D.mid (cs := [4, 9]) [1, 3] [2] [(1, 0)] [p6_2.1, p6_2.2.1 + (0 : Int).toNat * 3] (by kernel_rfl) (by kernel_rfl) (⟨QuAt.mk (v := .pointer (some ⟨p6_2.1, p6_2.2.1 + (0 : Int).toNat * 3, none⟩)) (some 39) (by kernel_rfl) (by kernel_rfl) (Qu.idx (t := 45) (x := .tmp 38) (y := .const (.int .i64 0)) (c := p3_1.2.2) (kk := .i64) (sz := 3) (by kernel_rfl) (by kernel_rfl) (by kernel_rfl) (by kernel_rfl) hx6_2a (idx_lt hx6_2) hp6_2A), trivial⟩) (by kernel_rfl) ⟨?_, ?_, trivial⟩
          · refine EvStep.mk (some 41) (new := fun p6_4 => [(5, some 36, .tuple #[.agg #[.int .i64 x6_4.1.f0, .int .i64 x6_4.1.f1, .int .i64 x6_4.1.f2, .slice p6_4.1 x6_4.1.f3.length p6_4.2, .bool x6_4.1.f4], .string x6_4.2.1, .bool x6_4.2.2]), (6, some 42, .agg #[.int .i64 x6_4.1.f0, .int .i64 x6_4.1.f1, .int .i64 x6_4.1.f2, .slice p6_4.1 x6_4.1.f3.length p6_4.2, .bool x6_4.1.f4]), (7, some 43, .string x6_4.2.1), (8, some 44, .bool x6_4.2.2)]) ([1, 5, 6, 7, 8] ++ [2]) (by kernel_rfl) (Ev.mono (fun w hS => hS.freezeH (h := p6_0) (xs := x6_0.f3)) (Ev.call0 (xs := [.tmp 37, .tmp 40]) [0] (by kernel_rfl) (by kernel_rfl) (fun w hS => link_Take.con K x6_0 x6_2 p6_0  _ _ w hS hx6_4))) (fun p6_4 => by kernel_rfl) (fun p6_4 => ?_)
            refine D.mid (cs := [9]) [1, 5, 6, 7, 8] [2] [] [] (by kernel_rfl) (by kernel_rfl) (⟨QuAt.mk (v := .pointer (some ⟨p6_2.1, p6_2.2.1 + (0 : Int).toNat * 3, none⟩)) (some 39) (by kernel_rfl) (by kernel_rfl) (Qu.idx (t := 45) (x := .tmp 38) (y := .const (.int .i64 0)) (c := p3_1.2.2) (kk := .i64) (sz := 3) (by kernel_rfl) (by kernel_rfl) (by kernel_rfl) (by kernel_rfl) hx6_2a (idx_lt hx6_2) hp6_2A), trivial⟩) (by kernel_rfl) ⟨?_, trivial⟩
            refine EvStep.mk (some 5) (new := fun p6_9 => []) ([1, 5, 6, 7, 8] ++ [2]) (by kernel_rfl) (Ev.alloc (t := 24) (z := .agg #[.int .i64 0, .int .i64 0, .int .i64 0, .slice none 0 0, .bool false]) (by kernel_rfl) (by kernel_rfl)) (fun p6_9 => by kernel_rfl) (fun p6_9 => ?_)
            refine D.mid (cs := [10]) [1, 5, 6, 7, 8] [2] [] [] (by kernel_rfl) (by kernel_rfl) (⟨QuAt.mk (v := .pointer (some ⟨p6_2.1, p6_2.2.1 + (0 : Int).toNat * 3, none⟩)) (some 39) (by kernel_rfl) (by kernel_rfl) (Qu.idx (t := 45) (x := .tmp 38) (y := .const (.int .i64 0)) (c := p3_1.2.2) (kk := .i64) (sz := 3) (by kernel_rfl) (by kernel_rfl) (by kernel_rfl) (by kernel_rfl) hx6_2a (idx_lt hx6_2) hp6_2A), trivial⟩) (by kernel_rfl) ⟨?_, trivial⟩
            refine EvStep.mk none (new := fun _ => [(11, some 6, .string x6_4.2.1), (12, some 7, .bool x6_4.2.2)]) ([7, 8, 11, 12] ++ []) (by kernel_rfl) (Ev.store (kk := 0) (cs := [.int .i64 x6_4.1.f0, .int .i64 x6_4.1.f1, .int .i64 x6_4.1.f2, .slice p6_4.1 x6_4.1.f3.length p6_4.2, .bool x6_4.1.f4]) (0, 0) [p6_9, 0] (by kernel_rfl)) (fun _ => by kernel_rfl) (fun _ => ?_)
            refine D.fin (fr' := [(1, .pointer (some ⟨p1_5, 0, none⟩)), (4, .slice p3_1.2.1 x3_1.2.length p3_1.2.2), (5, .pointer (some ⟨p6_9, 0, none⟩)), (6, .string x6_4.2.1), (7, .bool x6_4.2.2)]) [7, 8, 11, 12] [] [] [] [1, 4, 5, 6, 7] (by kernel_rfl) (by kernel_rfl) trivial (by kernel_rfl) ?_
            exact J.conv2 [1, 4, 5, 6, 7] [0, 1, 2, 3, 4] [0, 1] [0, 1] (by kernel_rfl) (by kernel_rfl) (by kernel_rfl) (by kernel_rfl) (by decide) (hk_ (p6_0, p6_4, p6_9))
          · refine EvStep.mk (some 5) (new := fun p6_9 => []) ([1, 3] ++ [2]) (by kernel_rfl) (Ev.alloc (t := 24) (z := .agg #[.int .i64 0, .int .i64 0, .int .i64 0, .slice none 0 0, .bool false]) (by kernel_rfl) (by kernel_rfl)) (fun p6_9 => by kernel_rfl) (fun p6_9 => ?_)
            refine D.mid (cs := [4]) [1, 3] [2] [(2, 0)] [p6_2.1, p6_2.2.1 + (0 : Int).toNat * 3] (by kernel_rfl) (by kernel_rfl) (⟨QuAt.mk (v := .pointer (some ⟨p6_2.1, p6_2.2.1 + (0 : Int).toNat * 3, none⟩)) (some 39) (by kernel_rfl) (by kernel_rfl) (Qu.idx (t := 45) (x := .tmp 38) (y := .const (.int .i64 0)) (c := p3_1.2.2) (kk := .i64) (sz := 3) (by kernel_rfl) (by kernel_rfl) (by kernel_rfl) (by kernel_rfl) hx6_2a (idx_lt hx6_2) hp6_2A), trivial⟩) (by kernel_rfl) ⟨?_, trivial⟩
            refine EvStep.mk (some 41) (new := fun p6_4 => [(5, some 36, .tuple #[.agg #[.int .i64 x6_4.1.f0, .int .i64 x6_4.1.f1, .int .i64 x6_4.1.f2, .slice p6_4.1 x6_4.1.f3.length p6_4.2, .bool x6_4.1.f4], .string x6_4.2.1, .bool x6_4.2.2]), (6, some 42, .agg #[.int .i64 x6_4.1.f0, .int .i64 x6_4.1.f1, .int .i64 x6_4.1.f2, .slice p6_4.1 x6_4.1.f3.length p6_4.2, .bool x6_4.1.f4]), (7, some 43, .string x6_4.2.1), (8, some 44, .bool x6_4.2.2)]) ([1, 5, 6, 7, 8] ++ [2]) (by kernel_rfl) (Ev.mono (fun w hS => hS.freezeH (h := p6_0) (xs := x6_0.f3)) (Ev.call0 (xs := [.tmp 37, .tmp 40]) [0] (by kernel_rfl) (by kernel_rfl) (fun w hS => link_Take.con K x6_0 x6_2 p6_0  _ _ w hS hx6_4))) (fun p6_4 => by kernel_rfl) (fun p6_4 => ?_)
            refine D.mid (cs := [10]) [1, 5, 6, 7, 8] [2] [] [] (by kernel_rfl) (by kernel_rfl) (⟨QuAt.mk (v := .pointer (some ⟨p6_2.1, p6_2.2.1 + (0 : Int).toNat * 3, none⟩)) (some 39) (by kernel_rfl) (by kernel_rfl) (Qu.idx (t := 45) (x := .tmp 38) (y := .const (.int .i64 0)) (c := p3_1.2.2) (kk := .i64) (sz := 3) (by kernel_rfl) (by kernel_rfl) (by kernel_rfl) (by kernel_rfl) hx6_2a (idx_lt hx6_2) hp6_2A), trivial⟩) (by kernel_rfl) ⟨?_, trivial⟩
            refine EvStep.mk none (new := fun _ => [(11, some 6, .string x6_4.2.1), (12, some 7, .bool x6_4.2.2)]) ([7, 8, 11, 12] ++ []) (by kernel_rfl) (Ev.store (kk := 0) (cs := [.int .i64 x6_4.1.f0, .int .i64 x6_4.1.f1, .int .i64 x6_4.1.f2, .slice p6_4.1 x6_4.1.f3.length p6_4.2, .bool x6_4.1.f4]) (0, 0) [p6_9, 0] (by kernel_rfl)) (fun _ => by kernel_rfl) (fun _ => ?_)
            refine D.fin (fr' := [(1, .pointer (some ⟨p1_5, 0, none⟩)), (4, .slice p3_1.2.1 x3_1.2.length p3_1.2.2), (5, .pointer (some ⟨p6_9, 0, none⟩)), (6, .string x6_4.2.1), (7, .bool x6_4.2.2)]) [7, 8, 11, 12] [] [] [] [1, 4, 5, 6, 7] (by kernel_rfl) (by kernel_rfl) trivial (by kernel_rfl) ?_
            exact J.conv2 [1, 4, 5, 6, 7] [0, 1, 2, 3, 4] [0, 1] [0, 1] (by kernel_rfl) (by kernel_rfl) (by kernel_rfl) (by kernel_rfl) (by decide) (hk_ (p6_0, p6_4, p6_9))
        · refine EvStep.mk (some 5) (new := fun p6_9 => []) ([1, 3] ++ [2]) (by kernel_rfl) (Ev.alloc (t := 24) (z := .agg #[.int .i64 0, .int .i64 0, .int .i64 0, .slice none 0 0, .bool false]) (by kernel_rfl) (by kernel_rfl)) (fun p6_9 => by kernel_rfl) (fun p6_9 => ?_)
          refine D.mid (cs := [0]) [1, 3] [2] [(2, 0)] [p6_2.1, p6_2.2.1 + (0 : Int).toNat * 3] (by kernel_rfl) (by kernel_rfl) (⟨QuAt.mk (v := .pointer (some ⟨p6_2.1, p6_2.2.1 + (0 : Int).toNat * 3, none⟩)) (some 39) (by kernel_rfl) (by kernel_rfl) (Qu.idx (t := 45) (x := .tmp 38) (y := .const (.int .i64 0)) (c := p3_1.2.2) (kk := .i64) (sz := 3) (by kernel_rfl) (by kernel_rfl) (by kernel_rfl) (by kernel_rfl) hx6_2a (idx_lt hx6_2) hp6_2A), trivial⟩) (by kernel_rfl) ⟨?_, trivial⟩
          refine EvStep.mk (some 37) (new := fun p6_0 => []) ([1, 3] ++ [2]) (by kernel_rfl) (Ev.call0 (xs := []) [] (by kernel_rfl) (by kernel_rfl) (fun w hS => link_New.con K  _ _ w hS hx6_0)) (fun p6_0 => by kernel_rfl) (fun p6_0 => ?_)
          refine D.mid (cs := [4]) [1, 3] [2] [(2, 0)] [p6_2.1, p6_2.2.1 + (0 : Int).toNat * 3] (by kernel_rfl) (by kernel_rfl) (⟨QuAt.mk (v := .pointer (some ⟨p6_2.1, p6_2.2.1 + (0 : Int).toNat * 3, none⟩)) (some 39) (by kernel_rfl) (by kernel_rfl) (Qu.idx (t := 45) (x := .tmp 38) (y := .const (.int .i64 0)) (c := p3_1.2.2) (kk := .i64) (sz := 3) (by kernel_rfl) (by kernel_rfl) (by kernel_rfl) (by kernel_rfl) hx6_2a (idx_lt hx6_2) hp6_2A), trivial⟩) (by kernel_rfl) ⟨?_, trivial⟩
          refine EvStep.mk (some 41) (new := fun p6_4 => [(5, some 36, .tuple #[.agg #[.int .i64 x6_4.1.f0, .int .i64 x6_4.1.f1, .int .i64 x6_4.1.f2, .slice p6_4.1 x6_4.1.f3.length p6_4.2, .bool x6_4.1.f4], .string x6_4.2.1, .bool x6_4.2.2]), (6, some 42, .agg #[.int .i64 x6_4.1.f0, .int .i64 x6_4.1.f1, .int .i64 x6_4.1.f2, .slice p6_4.1 x6_4.1.f3.length p6_4.2, .bool x6_4.1.f4]), (7, some 43, .string x6_4.2.1), (8, some 44, .bool x6_4.2.2)]) ([1, 5, 6, 7, 8] ++ [2]) (by kernel_rfl) (Ev.mono (fun w hS => hS.freezeH (h := p6_0) (xs := x6_0.f3)) (Ev.call0 (xs := [.tmp 37, .tmp 40]) [0] (by kernel_rfl) (by kernel_rfl) (fun w hS => link_Take.con K x6_0 x6_2 p6_0  _ _ w hS hx6_4))) (fun p6_4 => by kernel_rfl) (fun p6_4 => ?_)
          refine D.mid (cs := [10]) [1, 5, 6, 7, 8] [2] [] [] (by kernel_rfl) (by kernel_rfl) (⟨QuAt.mk (v := .pointer (some ⟨p6_2.1, p6_2.2.1 + (0 : Int).toNat * 3, none⟩)) (some 39) (by kernel_rfl) (by kernel_rfl) (Qu.idx (t := 45) (x := .tmp 38) (y := .const (.int .i64 0)) (c := p3_1.2.2) (kk := .i64) (sz := 3) (by kernel_rfl) (by kernel_rfl) (by kernel_rfl) (by kernel_rfl) hx6_2a (idx_lt hx6_2) hp6_2A), trivial⟩) (by kernel_rfl) ⟨?_, trivial⟩
          refine EvStep.mk none (new := fun _ => [(11, some 6, .string x6_4.2.1), (12, some 7, .bool x6_4.2.2)]) ([7, 8, 11, 12] ++ []) (by kernel_rfl) (Ev.store (kk := 0) (cs := [.int .i64 x6_4.1.f0, .int .i64 x6_4.1.f1, .int .i64 x6_4.1.f2, .slice p6_4.1 x6_4.1.f3.length p6_4.2, .bool x6_4.1.f4]) (0, 0) [p6_9, 0] (by kernel_rfl)) (fun _ => by kernel_rfl) (fun _ => ?_)
          refine D.fin (fr' := [(1, .pointer (some ⟨p1_5, 0, none⟩)), (4, .slice p3_1.2.1 x3_1.2.length p3_1.2.2), (5, .pointer (some ⟨p6_9, 0, none⟩)), (6, .string x6_4.2.1), (7, .bool x6_4.2.2)]) [7, 8, 11, 12] [] [] [] [1, 4, 5, 6, 7] (by kernel_rfl) (by kernel_rfl) trivial (by kernel_rfl) ?_
          exact J.conv2 [1, 4, 5, 6, 7] [0, 1, 2, 3, 4] [0, 1] [0, 1] (by kernel_rfl) (by kernel_rfl) (by kernel_rfl) (by kernel_rfl) (by decide) (hk_ (p6_0, p6_4, p6_9))
/-! ### haywain/haywainlaw16.as: function 10 -/
def haywainlaw16_as.l1 (K : Nat) (a0 : S24) : Nat → (Int × (List S74)) → Option S29
  | 0, _ => none
  | k + 1, s1 => cond (decide (s1.1 < (a0.f3.length : Int))) ((idxO a0.f3 s1.1).bind fun x5_5 => (idxO a0.f3 s1.1).bind fun x5_11 => (appO 24 s1.2 ([(⟨x5_5.f0, x5_11.f1⟩ : S74)] : List S74)).bind fun y5_16 => haywainlaw16_as.l1 K a0 k ((IntKind.wrap .i64 (s1.1 + 1)), (s1.2 ++ ([(⟨x5_5.f0, x5_11.f1⟩ : S74)] : List S74)))) (some ((⟨a0.f0, a0.f1, a0.f2, s1.2, a0.f4⟩ : S29)))
def haywainlaw16_as.f (K : Nat) (a0 : S24) : Option S29 := haywainlaw16_as.l1 K a0 K (0, ([] : List S74))
set_option maxRecDepth 100000 in
set_option maxHeartbeats 1000000 in
theorem haywainlaw16_as.con (K : Nat) (a0 : S24) (h0 : Hd) (r : S29) (X : Nat → Nat → Prop) (w : World) (hS : St X w [] [] [] [] [Rd kd71 h0.1 h0.2 a0.f3] w) (H : haywainlaw16_as.f K a0 = some r) :
    Cn Try.prog 10 [.agg #[.int .i64 a0.f0, .int .i64 a0.f1, .int .i64 a0.f2, .slice h0.1 a0.f3.length h0.2, .bool a0.f4]] X w [] (fun i : Hd => .agg #[.int .i64 r.f0, .int .i64 r.f1, .int .i64 r.f2, .slice i.1 r.f3.length i.2, .bool r.f4]) (fun i => []) (fun i => [mkRow kd74 74 (.slice i.1 r.f3.length i.2) r.f3]) (fun i => []) := by
  refine Cn.of Try.func10 (by kernel_rfl) hS ?_
  unfold haywainlaw16_as.f at H
  refine J.seq (by kernel_rfl) ?_
  refine J.region (by kernel_rfl) ?_
  refine O.e (some 1) (Ev.box (t := 24) (x := .tmp 0) (v := .agg #[.int .i64 a0.f0, .int .i64 a0.f1, .int .i64 a0.f2, .slice h0.1 a0.f3.length h0.2, .bool a0.f4]) (by kernel_rfl) (by kernel_rfl)) (by kernel_rfl) (fun p0_0 => ?_)
  refine O.e (some 2) (Ev.alloc (t := 29) (z := .agg #[.int .i64 0, .int .i64 0, .int .i64 0, .slice none 0 0, .bool false]) (by kernel_rfl) (by kernel_rfl)) (by kernel_rfl) (fun p0_1 => ?_)
  refine O.nil (by kernel_rfl) ?_
  refine J.seq (by kernel_rfl) ?_
  refine J.region (by kernel_rfl) ?_
  refine O.pure 9 [(1, 0), (1, 1), (1, 2), (1, 4)] [1, 2, 13] [p0_0, 0, p0_0, 1, p0_0, 2, p0_0, 4] (fr' := [(1, .pointer (some ⟨p0_0, 0, none⟩)), (2, .pointer (some ⟨p0_1, 0, none⟩)), (13, .agg #[.int .i64 a0.f0, .int .i64 a0.f1, .int .i64 a0.f2, .slice none 0 0, .bool a0.f4])]) (bx' := [⟨p0_1, [.int .i64 0, .int .i64 0, .int .i64 0, .slice none 0 0, .bool false], 29⟩, ⟨p0_0, [.int .i64 a0.f0, .int .i64 a0.f1, .int .i64 a0.f2, .slice h0.1 a0.f3.length h0.2, .bool a0.f4], 24⟩]) (by kernel_rfl) ?_
  refine O.e (some 3) (Ev.alloc (t := 29) (z := .agg #[.int .i64 0, .int .i64 0, .int .i64 0, .slice none 0 0, .bool false]) (by kernel_rfl) (by kernel_rfl)) (by kernel_rfl) (fun p1_9 => ?_)
  refine O.pure 1 [(0, 0)] [1, 2, 3] [p1_9, 0] (fr' := [(1, .pointer (some ⟨p0_0, 0, none⟩)), (2, .pointer (some ⟨p0_1, 0, none⟩)), (3, .pointer (some ⟨p1_9, 0, none⟩))]) (bx' := [⟨p1_9, [.int .i64 a0.f0, .int .i64 a0.f1, .int .i64 a0.f2, .slice none 0 0, .bool a0.f4], 29⟩, ⟨p0_1, [.int .i64 0, .int .i64 0, .int .i64 0, .slice none 0 0, .bool false], 29⟩, ⟨p0_0, [.int .i64 a0.f0, .int .i64 a0.f1, .int .i64 a0.f2, .slice h0.1 a0.f3.length h0.2, .bool a0.f4], 24⟩]) (by kernel_rfl) ?_
  refine O.nil (by kernel_rfl) ?_
  refine J.seq (by kernel_rfl) ?_
  refine J.seq (by kernel_rfl) ?_
  refine J.region (by kernel_rfl) ?_
  refine O.pure 1 [] [1, 2, 3, 4] [] (fr' := [(1, .pointer (some ⟨p0_0, 0, none⟩)), (2, .pointer (some ⟨p0_1, 0, none⟩)), (3, .pointer (some ⟨p1_9, 0, none⟩)), (4, .int .i64 0)]) (bx' := [⟨p1_9, [.int .i64 a0.f0, .int .i64 a0.f1, .int .i64 a0.f2, .slice none 0 0, .bool a0.f4], 29⟩, ⟨p0_1, [.int .i64 0, .int .i64 0, .int .i64 0, .slice none 0 0, .bool false], 29⟩, ⟨p0_0, [.int .i64 a0.f0, .int .i64 a0.f1, .int .i64 a0.f2, .slice h0.1 a0.f3.length h0.2, .bool a0.f4], 24⟩]) (by kernel_rfl) ?_
  refine O.nil (by kernel_rfl) ?_
  refine J.block (id := 0) (by kernel_rfl) ?_
  refine J.loopI (σ := Int × (List S74)) (γ := Hd) (f := fun m_ s_ => haywainlaw16_as.l1 K a0 m_ s_) (fun s1 g1 => [(1, .pointer (some ⟨p0_0, 0, none⟩)), (2, .pointer (some ⟨p0_1, 0, none⟩)), (3, .pointer (some ⟨p1_9, 0, none⟩)), (4, .int .i64 s1.1)]) (fun s1 g1 => St X w [] [⟨p1_9, [.int .i64 a0.f0, .int .i64 a0.f1, .int .i64 a0.f2, .slice g1.1 s1.2.length g1.2, .bool a0.f4], 29⟩, ⟨p0_1, [.int .i64 0, .int .i64 0, .int .i64 0, .slice none 0 0, .bool false], 29⟩, ⟨p0_0, [.int .i64 a0.f0, .int .i64 a0.f1, .int .i64 a0.f2, .slice h0.1 a0.f3.length h0.2, .bool a0.f4], 24⟩] [mkRow kd74 74 (.slice g1.1 s1.2.length g1.2) s1.2] [] [Rd kd71 h0.1 h0.2 a0.f3]) K (0, ([] : List S74)) (none, 0) (by kernel_rfl) H (fun _ => rfl) (fun m_ s1 H ih1 g1 => ?_) (fun h_ => ?_)
  · unfold haywainlaw16_as.l1 at H
    refine J.seq (by kernel_rfl) ?_
    refine J.seq (by kernel_rfl) ?_
    refine J.region (by kernel_rfl) ?_
    refine O.pure 5 [(2, 3)] [1, 2, 3, 4, 18] [p0_0, 3] (fr' := [(1, .pointer (some ⟨p0_0, 0, none⟩)), (2, .pointer (some ⟨p0_1, 0, none⟩)), (3, .pointer (some ⟨p1_9, 0, none⟩)), (4, .int .i64 s1.1), (18, .bool (decide (s1.1 < (a0.f3.length : Int))))]) (bx' := [⟨p1_9, [.int .i64 a0.f0, .int .i64 a0.f1, .int .i64 a0.f2, .slice g1.1 s1.2.length g1.2, .bool a0.f4], 29⟩, ⟨p0_1, [.int .i64 0, .int .i64 0, .int .i64 0, .slice none 0 0, .bool false], 29⟩, ⟨p0_0, [.int .i64 a0.f0, .int .i64 a0.f1, .int .i64 a0.f2, .slice h0.1 a0.f3.length h0.2, .bool a0.f4], 24⟩]) (by kernel_rfl) ?_
    refine O.nil (by kernel_rfl) ?_
    rcases condE H with ⟨hc4, H⟩ | ⟨hc4, H⟩
    · refine J.condT (x := .tmp 18) (t := (decide (s1.1 < (a0.f3.length : Int)))) (by kernel_rfl) (by kernel_rfl) hc4 ?_
      refine J.skip (by kernel_rfl) ?_
      refine J.seq (by kernel_rfl) ?_
      refine J.block (id := 1) (by kernel_rfl) ?_
      obtain ⟨x5_5, hx5_5, H⟩ := bindE H
      obtain ⟨hx5_5a, hx5_5⟩ := idxE hx5_5
      obtain ⟨x5_11, hx5_11, H⟩ := bindE H
      obtain ⟨hx5_11a, hx5_11⟩ := idxE hx5_11
      obtain ⟨y5_16, hy5_16, H⟩ := bindE H
      have hy5_16a := (appE hy5_16).1
      refine J.open (d := kd71) (h := h0) (i := s1.1) 0 rfl hx5_5 (op71 _) (fun p5_5 hp5_5A => ?_)
      refine J.open (d := kd71) (h := h0) (i := s1.1) 0 rfl hx5_11 (op71 _) (fun p5_11 hp5_11A => ?_)
      refine J.drawS (by kernel_rfl) [(0, some 21, .pointer (some ⟨p1_9, 3, none⟩)), (1, some 22, .slice g1.1 s1.2.length g1.2), (2, some 23, .pointer (some ⟨p0_0, 3, none⟩)), (3, some 24, .slice h0.1 a0.f3.length h0.2), (4, some 25, .int .i64 s1.1), (6, some 27, .pointer (some ⟨p5_5.1, p5_5.2.1 + s1.1.toNat * 2, none⟩)), (7, some 28, .int .i64 x5_5.f0), (8, some 29, .pointer (some ⟨p0_0, 3, none⟩)), (9, some 30, .slice h0.1 a0.f3.length h0.2), (10, some 31, .int .i64 s1.1), (12, some 33, .pointer (some ⟨p5_11.1, p5_11.2.1 + s1.1.toNat * 2 + 1, none⟩)), (13, some 34, .string x5_11.f1), (14, some 35, .agg #[.int .i64 x5_5.f0, .string x5_11.f1]), (5, some 26, .pointer (some ⟨p5_5.1, p5_5.2.1 + s1.1.toNat * 2, none⟩)), (11, some 32, .pointer (some ⟨p5_11.1, p5_11.2.1 + s1.1.toNat * 2, none⟩))] ([0, 1, 2, 3, 4, 6, 7, 8, 9, 10, 12, 13, 14] ++ [5, 11]) (by kernel_rfl) ?_
      refine D.mid (cs := [15]) [0, 1, 2, 3, 4, 6, 7, 8, 9, 10, 12, 13, 14] [5, 11] [(0, 3), (2, 3), (4, 0), (2, 3), (3, 1)] [p1_9, 3, p0_0, 3, p5_5.1, p5_5.2.1 + s1.1.toNat * 2, p0_0, 3, p5_11.1, p5_11.2.1 + s1.1.toNat * 2 + 1] (by kernel_rfl) (by kernel_rfl) (⟨QuAt.mk (v := .pointer (some ⟨p5_5.1, p5_5.2.1 + s1.1.toNat * 2, none⟩)) (some 26) (by kernel_rfl) (by kernel_rfl) (Qu.idx (t := 22) (x := .tmp 24) (y := .tmp 25) (c := h0.2) (kk := .i64) (sz := 2) (by kernel_rfl) (by kernel_rfl) (by kernel_rfl) (by kernel_rfl) hx5_5a (idx_lt hx5_5) hp5_5A), QuAt.mk (v := .pointer (some ⟨p5_11.1, p5_11.2.1 + s1.1.toNat * 2, none⟩)) (some 32) (by kernel_rfl) (by kernel_rfl) (Qu.idx (t := 22) (x := .tmp 30) (y := .tmp 31) (c := h0.2) (kk := .i64) (sz := 2) (by kernel_rfl) (by kernel_rfl) (by kernel_rfl) (by kernel_rfl) hx5_11a (idx_lt hx5_11) hp5_11A), trivial⟩) (by kernel_rfl) ⟨?_, trivial⟩
      refine EvStep.mk (some 36) (new := fun p5_15 => []) ([0, 1, 2, 3, 4, 6, 7, 8, 9, 10, 12, 13] ++ [5, 11]) (by kernel_rfl) (Ev.lit (t := 27) (len := 1) (parts := #[(0, .tmp 35)]) (ps := [(0, .agg #[.int .i64 x5_5.f0, .string x5_11.f1])]) (cs := [.int .i64 x5_5.f0, .string x5_11.f1]) (e := 74) kd74 ([(⟨x5_5.f0, x5_11.f1⟩ : S74)] : List S74) (by kernel_rfl) (by kernel_rfl) (by kernel_rfl) (by kernel_rfl) (by kernel_rfl) (by decide) (fun w' hφ => (Els.cons (c := [.int .i64 x5_5.f0, .string x5_11.f1]) (rfl) (Els.nil _ _ _)))) (fun p5_15 => by kernel_rfl) (fun p5_15 => ?_)
      refine D.mid (cs := [16]) [0, 1, 2, 3, 4, 6, 7, 8, 9, 10, 12, 13] [5, 11] [(0, 3), (2, 3), (4, 0), (2, 3), (3, 1)] [p1_9, 3, p0_0, 3, p5_5.1, p5_5.2.1 + s1.1.toNat * 2, p0_0, 3, p5_11.1, p5_11.2.1 + s1.1.toNat * 2 + 1] (by kernel_rfl) (by kernel_rfl) (⟨QuAt.mk (v := .pointer (some ⟨p5_5.1, p5_5.2.1 + s1.1.toNat * 2, none⟩)) (some 26) (by kernel_rfl) (by kernel_rfl) (Qu.idx (t := 22) (x := .tmp 24) (y := .tmp 25) (c := h0.2) (kk := .i64) (sz := 2) (by kernel_rfl) (by kernel_rfl) (by kernel_rfl) (by kernel_rfl) hx5_5a (idx_lt hx5_5) hp5_5A), QuAt.mk (v := .pointer (some ⟨p5_11.1, p5_11.2.1 + s1.1.toNat * 2, none⟩)) (some 32) (by kernel_rfl) (by kernel_rfl) (Qu.idx (t := 22) (x := .tmp 30) (y := .tmp 31) (c := h0.2) (kk := .i64) (sz := 2) (by kernel_rfl) (by kernel_rfl) (by kernel_rfl) (by kernel_rfl) hx5_11a (idx_lt hx5_11) hp5_11A), trivial⟩) (by kernel_rfl) ⟨?_, trivial⟩
      refine EvStep.mk (some 37) (new := fun p5_16 => [(17, some 38, .pointer (some ⟨p1_9, 3, none⟩))]) ([0, 2, 3, 4, 6, 7, 8, 9, 10, 12, 13, 17] ++ [5, 11]) (by kernel_rfl) (Ev.appLit (x := .tmp 22) (y := .tmp 36) (t := 27) (bytes := 24) (by kernel_rfl) (by kernel_rfl) (by kernel_rfl) (by kernel_rfl) (by kernel_rfl) (by decide) hy5_16a) (fun p5_16 => by kernel_rfl) (fun p5_16 => ?_)
      refine D.mid (cs := [18]) [0, 2, 3, 4, 6, 7, 8, 9, 10, 12, 13, 17] [5, 11] [(2, 3), (4, 0), (2, 3), (3, 1)] [p0_0, 3, p5_5.1, p5_5.2.1 + s1.1.toNat * 2, p0_0, 3, p5_11.1, p5_11.2.1 + s1.1.toNat * 2 + 1] (by kernel_rfl) (by kernel_rfl) (⟨QuAt.mk (v := .pointer (some ⟨p5_5.1, p5_5.2.1 + s1.1.toNat * 2, none⟩)) (some 26) (by kernel_rfl) (by kernel_rfl) (Qu.idx (t := 22) (x := .tmp 24) (y := .tmp 25) (c := h0.2) (kk := .i64) (sz := 2) (by kernel_rfl) (by kernel_rfl) (by kernel_rfl) (by kernel_rfl) hx5_5a (idx_lt hx5_5) hp5_5A), QuAt.mk (v := .pointer (some ⟨p5_11.1, p5_11.2.1 + s1.1.toNat * 2, none⟩)) (some 32) (by kernel_rfl) (by kernel_rfl) (Qu.idx (t := 22) (x := .tmp 30) (y := .tmp 31) (c := h0.2) (kk := .i64) (sz := 2) (by kernel_rfl) (by kernel_rfl) (by kernel_rfl) (by kernel_rfl) hx5_11a (idx_lt hx5_11) hp5_11A), trivial⟩) (by kernel_rfl) ⟨?_, trivial⟩
      refine EvStep.mk none (new := fun _ => []) ([] ++ []) (by kernel_rfl) (Ev.store (kk := 0) (cs := [.int .i64 a0.f0, .int .i64 a0.f1, .int .i64 a0.f2, .slice p5_16.1 (s1.2 ++ ([(⟨x5_5.f0, x5_11.f1⟩ : S74)] : List S74)).length p5_16.2, .bool a0.f4]) (0, 3) [p1_9, 3] (by kernel_rfl)) (fun _ => by kernel_rfl) (fun _ => ?_)
      refine D.fin (fr' := [(1, .pointer (some ⟨p0_0, 0, none⟩)), (2, .pointer (some ⟨p0_1, 0, none⟩)), (3, .pointer (some ⟨p1_9, 0, none⟩)), (4, .int .i64 s1.1)]) [] [] [] [] [1, 2, 3, 4] (by kernel_rfl) (by kernel_rfl) trivial (by kernel_rfl) ?_
      refine J.out ?_
      refine J.region (by kernel_rfl) ?_
      refine O.pure 3 [] [1, 2, 3, 4] [] (fr' := [(1, .pointer (some ⟨p0_0, 0, none⟩)), (2, .pointer (some ⟨p0_1, 0, none⟩)), (3, .pointer (some ⟨p1_9, 0, none⟩)), (4, .int .i64 (IntKind.wrap .i64 (s1.1 + 1)))]) (bx' := [⟨p1_9, [.int .i64 a0.f0, .int .i64 a0.f1, .int .i64 a0.f2, .slice p5_16.1 (s1.2 ++ ([(⟨x5_5.f0, x5_11.f1⟩ : S74)] : List S74)).length p5_16.2, .bool a0.f4], 29⟩, ⟨p0_1, [.int .i64 0, .int .i64 0, .int .i64 0, .slice none 0 0, .bool false], 29⟩, ⟨p0_0, [.int .i64 a0.f0, .int .i64 a0.f1, .int .i64 a0.f2, .slice h0.1 a0.f3.length h0.2, .bool a0.f4], 24⟩]) (by kernel_rfl) ?_
      refine O.nil (by kernel_rfl) ?_
      exact J.conv2 [1, 2, 3, 4] [0] [0, 1, 2] [0] (by kernel_rfl) (by kernel_rfl) (by kernel_rfl) (by kernel_rfl) (by decide) (ih1 ((IntKind.wrap .i64 (s1.1 + 1)), (s1.2 ++ ([(⟨x5_5.f0, x5_11.f1⟩ : S74)] : List S74))) p5_16 H)
    · refine J.condF (x := .tmp 18) (t := (decide (s1.1 < (a0.f3.length : Int)))) (by kernel_rfl) (by kernel_rfl) hc4 ?_
      refine J.exit (id := 0) (by kernel_rfl) rfl ?_
      refine J.seq (by kernel_rfl) ?_
      refine J.region (by kernel_rfl) ?_
      refine O.pure 2 [(0, 0), (1, 0)] [2] [p1_9, 0, p0_1, 0] (fr' := [(2, .pointer (some ⟨p0_1, 0, none⟩))]) (bx' := [⟨p1_9, [.int .i64 a0.f0, .int .i64 a0.f1, .int .i64 a0.f2, .slice g1.1 s1.2.length g1.2, .bool a0.f4], 29⟩, ⟨p0_1, [.int .i64 a0.f0, .int .i64 a0.f1, .int .i64 a0.f2, .slice g1.1 s1.2.length g1.2, .bool a0.f4], 29⟩, ⟨p0_0, [.int .i64 a0.f0, .int .i64 a0.f1, .int .i64 a0.f2, .slice h0.1 a0.f3.length h0.2, .bool a0.f4], 24⟩]) (by kernel_rfl) ?_
      refine O.nil (by kernel_rfl) ?_
      obtain rfl := Option.some.inj H
      exact J.doneS [(1, 0)] [p0_1, 0] [] [] [0] g1 (vs := [.agg #[.int .i64 a0.f0, .int .i64 a0.f1, .int .i64 a0.f2, .slice g1.1 s1.2.length g1.2, .bool a0.f4]]) (by kernel_rfl) (by kernel_rfl) (by kernel_rfl) (by kernel_rfl) (by kernel_rfl) (by decide)
  · refine J.nilrow kd74 74 ?_
    exact J.conv2 [1, 2, 3, 4] [0] [0, 1, 2] [0] (by kernel_rfl) (by kernel_rfl) (by kernel_rfl) (by kernel_rfl) (by decide) h_
end Go.Proofs.Ytndccmilcffedaa.G
