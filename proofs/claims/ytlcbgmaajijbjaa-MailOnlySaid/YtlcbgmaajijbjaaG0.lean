/- Functions of the program as plain Lean, with their contracts (part 0); printed by a program of this session. -/
import Derived.Test.YtlcbgmaajijbjaaHw
import Derived.Test.YtlcbgmaajijbjaaProg
set_option linter.unusedVariables false
set_option linter.unusedSimpArgs false
namespace Go.Proofs.Ytlcbgmaajijbjaa.G
open Go Go.RowKit Go.Hw
structure S77 where
  f0 : Int
  f1 : Int
def kd77 : Kd S77 where
  sz := 2
  K := fun w x cs => cs = [.int .i64 x.f0, .int .i64 x.f1]
  len := by rintro w x cs rfl; rfl
  one := by rintro w x cs rfl u hu; simp at hu; rcases hu with rfl | rfl <;> rfl
  mono := by rintro w w' x cs hw rfl; exact rfl
theorem op77 (x : S77) : Lay kd77 x (fun i : Unit => [.int .i64 x.f0, .int .i64 x.f1]) (fun i => []) := by
  intro X w cs h
  exact ⟨(), h w (Away.refl _ _), by simp⟩
def wf77 (x : S77) : Prop := ((Lit.int .i64 x.f0).wf = true) ∧ ((Lit.int .i64 x.f1).wf = true)
structure S27 where
  f0 : Int
  f1 : Int
  f2 : List Int
  f3 : List Bool
  f4 : List S77
def kd27 : Kd S27 where
  sz := 5
  K := fun w x cs => ∃ h2 h3 h4 : Hd, cs = [.int .i64 x.f0, .int .i64 x.f1, .slice h2.1 x.f2.length h2.2, .slice h3.1 x.f3.length h3.2, .slice h4.1 x.f4.length h4.2] ∧ Rd (Kd.int .i64) h2.1 h2.2 x.f2 w ∧ Rd Kd.bool h3.1 h3.2 x.f3 w ∧ Rd kd77 h4.1 h4.2 x.f4 w
  len := by rintro w x cs ⟨h2, h3, h4, rfl, g2, g3, g4⟩; rfl
  one := by rintro w x cs ⟨h2, h3, h4, rfl, g2, g3, g4⟩ u hu; simp at hu; rcases hu with rfl | rfl | rfl | rfl | rfl <;> rfl
  mono := by rintro w w' x cs hw ⟨h2, h3, h4, rfl, g2, g3, g4⟩; exact ⟨h2, h3, h4, rfl, g2.mono hw, g3.mono hw, g4.mono hw⟩
theorem op27 (x : S27) : Lay kd27 x (fun i : Hd × Hd × Hd => [.int .i64 x.f0, .int .i64 x.f1, .slice i.1.1 x.f2.length i.1.2, .slice i.2.1.1 x.f3.length i.2.1.2, .slice i.2.2.1 x.f4.length i.2.2.2]) (fun i => [Rd (Kd.int .i64) i.1.1 i.1.2 x.f2, Rd Kd.bool i.2.1.1 i.2.1.2 x.f3, Rd kd77 i.2.2.1 i.2.2.2 x.f4]) := by
  intro X w cs h
  obtain ⟨h2, h3, h4, rfl, _, _, _⟩ := h w (Away.refl _ _)
  refine ⟨(h2, h3, h4), rfl, fun f hf w' hw => ?_⟩
  obtain ⟨k2, k3, k4, e, g2, g3, g4⟩ := h w' hw
  simp only [List.cons.injEq, Value.slice.injEq, and_true, true_and] at e
  obtain ⟨⟨e2, e2'⟩, ⟨e3, e3'⟩, e4, e4'⟩ := e
  obtain rfl : k2 = h2 := Prod.ext e2.symm e2'.symm
  obtain rfl : k3 = h3 := Prod.ext e3.symm e3'.symm
  obtain rfl : k4 = h4 := Prod.ext e4.symm e4'.symm
  simp only [List.mem_cons, List.not_mem_nil, or_false] at hf
  rcases hf with rfl | rfl | rfl
  · exact g2
  · exact g3
  · exact g4
def wf27 (x : S27) : Prop := ((Lit.int .i64 x.f0).wf = true) ∧ ((Lit.int .i64 x.f1).wf = true) ∧ (x.f2.length * 8 ≤ 140737488351232 ∧ ∀ x_ ∈ x.f2, (Lit.int .i64 x_).wf = true) ∧ (x.f3.length * 1 ≤ 140737488351232 ∧ ∀ x_ ∈ x.f3, True) ∧ (x.f4.length * 16 ≤ 140737488351232 ∧ ∀ x_ ∈ x.f4, wf77 x_)
structure S29 where
  f0 : Int
  f1 : Int
  f2 : Int
  f3 : Int
  f4 : Int
  f5 : Int
  f6 : Int
  f7 : Int
  f8 : List Int
  f9 : List Int
  f10 : List Int
  f11 : S27
  f12 : List S77
def kd29 : Kd S29 where
  sz := 17
  K := fun w x cs => ∃ h8 h9 h10 h13 h14 h15 h16 : Hd, cs = [.int .i64 x.f0, .int .i64 x.f1, .int .i64 x.f2, .int .i64 x.f3, .int .i64 x.f4, .int .i64 x.f5, .int .i64 x.f6, .int .i64 x.f7, .slice h8.1 x.f8.length h8.2, .slice h9.1 x.f9.length h9.2, .slice h10.1 x.f10.length h10.2, .int .i64 x.f11.f0, .int .i64 x.f11.f1, .slice h13.1 x.f11.f2.length h13.2, .slice h14.1 x.f11.f3.length h14.2, .slice h15.1 x.f11.f4.length h15.2, .slice h16.1 x.f12.length h16.2] ∧ Rd (Kd.int .i64) h8.1 h8.2 x.f8 w ∧ Rd (Kd.int .i64) h9.1 h9.2 x.f9 w ∧ Rd (Kd.int .i64) h10.1 h10.2 x.f10 w ∧ Rd (Kd.int .i64) h13.1 h13.2 x.f11.f2 w ∧ Rd Kd.bool h14.1 h14.2 x.f11.f3 w ∧ Rd kd77 h15.1 h15.2 x.f11.f4 w ∧ Rd kd77 h16.1 h16.2 x.f12 w
  len := by rintro w x cs ⟨h8, h9, h10, h13, h14, h15, h16, rfl, g8, g9, g10, g13, g14, g15, g16⟩; rfl
  one := by rintro w x cs ⟨h8, h9, h10, h13, h14, h15, h16, rfl, g8, g9, g10, g13, g14, g15, g16⟩ u hu; simp at hu; rcases hu with rfl | rfl | rfl | rfl | rfl | rfl | rfl | rfl | rfl | rfl | rfl | rfl | rfl | rfl | rfl | rfl | rfl <;> rfl
  mono := by rintro w w' x cs hw ⟨h8, h9, h10, h13, h14, h15, h16, rfl, g8, g9, g10, g13, g14, g15, g16⟩; exact ⟨h8, h9, h10, h13, h14, h15, h16, rfl, g8.mono hw, g9.mono hw, g10.mono hw, g13.mono hw, g14.mono hw, g15.mono hw, g16.mono hw⟩
theorem op29 (x : S29) : Lay kd29 x (fun i : Hd × Hd × Hd × Hd × Hd × Hd × Hd => [.int .i64 x.f0, .int .i64 x.f1, .int .i64 x.f2, .int .i64 x.f3, .int .i64 x.f4, .int .i64 x.f5, .int .i64 x.f6, .int .i64 x.f7, .slice i.1.1 x.f8.length i.1.2, .slice i.2.1.1 x.f9.length i.2.1.2, .slice i.2.2.1.1 x.f10.length i.2.2.1.2, .int .i64 x.f11.f0, .int .i64 x.f11.f1, .slice i.2.2.2.1.1 x.f11.f2.length i.2.2.2.1.2, .slice i.2.2.2.2.1.1 x.f11.f3.length i.2.2.2.2.1.2, .slice i.2.2.2.2.2.1.1 x.f11.f4.length i.2.2.2.2.2.1.2, .slice i.2.2.2.2.2.2.1 x.f12.length i.2.2.2.2.2.2.2]) (fun i => [Rd (Kd.int .i64) i.1.1 i.1.2 x.f8, Rd (Kd.int .i64) i.2.1.1 i.2.1.2 x.f9, Rd (Kd.int .i64) i.2.2.1.1 i.2.2.1.2 x.f10, Rd (Kd.int .i64) i.2.2.2.1.1 i.2.2.2.1.2 x.f11.f2, Rd Kd.bool i.2.2.2.2.1.1 i.2.2.2.2.1.2 x.f11.f3, Rd kd77 i.2.2.2.2.2.1.1 i.2.2.2.2.2.1.2 x.f11.f4, Rd kd77 i.2.2.2.2.2.2.1 i.2.2.2.2.2.2.2 x.f12]) := by
  intro X w cs h
  obtain ⟨h8, h9, h10, h13, h14, h15, h16, rfl, _, _, _, _, _, _, _⟩ := h w (Away.refl _ _)
  refine ⟨(h8, h9, h10, h13, h14, h15, h16), rfl, fun f hf w' hw => ?_⟩
  obtain ⟨k8, k9, k10, k13, k14, k15, k16, e, g8, g9, g10, g13, g14, g15, g16⟩ := h w' hw
  simp only [List.cons.injEq, Value.slice.injEq, and_true, true_and] at e
  obtain ⟨⟨e8, e8'⟩, ⟨e9, e9'⟩, ⟨e10, e10'⟩, ⟨e13, e13'⟩, ⟨e14, e14'⟩, ⟨e15, e15'⟩, e16, e16'⟩ := e
  obtain rfl : k8 = h8 := Prod.ext e8.symm e8'.symm
  obtain rfl : k9 = h9 := Prod.ext e9.symm e9'.symm
  obtain rfl : k10 = h10 := Prod.ext e10.symm e10'.symm
  obtain rfl : k13 = h13 := Prod.ext e13.symm e13'.symm
  obtain rfl : k14 = h14 := Prod.ext e14.symm e14'.symm
  obtain rfl : k15 = h15 := Prod.ext e15.symm e15'.symm
  obtain rfl : k16 = h16 := Prod.ext e16.symm e16'.symm
  simp only [List.mem_cons, List.not_mem_nil, or_false] at hf
  rcases hf with rfl | rfl | rfl | rfl | rfl | rfl | rfl
  · exact g8
  · exact g9
  · exact g10
  · exact g13
  · exact g14
  · exact g15
  · exact g16
def wf29 (x : S29) : Prop := ((Lit.int .i64 x.f0).wf = true) ∧ ((Lit.int .i64 x.f1).wf = true) ∧ ((Lit.int .i64 x.f2).wf = true) ∧ ((Lit.int .i64 x.f3).wf = true) ∧ ((Lit.int .i64 x.f4).wf = true) ∧ ((Lit.int .i64 x.f5).wf = true) ∧ ((Lit.int .i64 x.f6).wf = true) ∧ ((Lit.int .i64 x.f7).wf = true) ∧ (x.f8.length * 8 ≤ 140737488351232 ∧ ∀ x_ ∈ x.f8, (Lit.int .i64 x_).wf = true) ∧ (x.f9.length * 8 ≤ 140737488351232 ∧ ∀ x_ ∈ x.f9, (Lit.int .i64 x_).wf = true) ∧ (x.f10.length * 8 ≤ 140737488351232 ∧ ∀ x_ ∈ x.f10, (Lit.int .i64 x_).wf = true) ∧ (wf27 x.f11) ∧ (x.f12.length * 16 ≤ 140737488351232 ∧ ∀ x_ ∈ x.f12, wf77 x_)
structure S60 where
  f0 : List Int
  f1 : Bool
def kd60 : Kd S60 where
  sz := 2
  K := fun w x cs => ∃ h0 : Hd, cs = [.slice h0.1 x.f0.length h0.2, .bool x.f1] ∧ Rd (Kd.int .u8) h0.1 h0.2 x.f0 w
  len := by rintro w x cs ⟨h0, rfl, g0⟩; rfl
  one := by rintro w x cs ⟨h0, rfl, g0⟩ u hu; simp at hu; rcases hu with rfl | rfl <;> rfl
  mono := by rintro w w' x cs hw ⟨h0, rfl, g0⟩; exact ⟨h0, rfl, g0.mono hw⟩
theorem op60 (x : S60) : Lay kd60 x (fun i : Hd => [.slice i.1 x.f0.length i.2, .bool x.f1]) (fun i => [Rd (Kd.int .u8) i.1 i.2 x.f0]) := by
  intro X w cs h
  obtain ⟨h0, rfl, _⟩ := h w (Away.refl _ _)
  refine ⟨h0, rfl, fun f hf w' hw => ?_⟩
  obtain ⟨k0, e, g0⟩ := h w' hw
  simp only [List.cons.injEq, Value.slice.injEq, and_true, true_and] at e
  obtain ⟨e0, e0'⟩ := e
  obtain rfl : k0 = h0 := Prod.ext e0.symm e0'.symm
  simp only [List.mem_cons, List.not_mem_nil, or_false] at hf
  rcases hf with rfl
  · exact g0
def wf60 (x : S60) : Prop := (x.f0.length * 1 ≤ 140737488351232 ∧ ∀ x_ ∈ x.f0, (Lit.int .u8 x_).wf = true) ∧ (True)
structure S62 where
  f0 : S60
def kd62 : Kd S62 where
  sz := 2
  K := fun w x cs => ∃ h0 : Hd, cs = [.slice h0.1 x.f0.f0.length h0.2, .bool x.f0.f1] ∧ Rd (Kd.int .u8) h0.1 h0.2 x.f0.f0 w
  len := by rintro w x cs ⟨h0, rfl, g0⟩; rfl
  one := by rintro w x cs ⟨h0, rfl, g0⟩ u hu; simp at hu; rcases hu with rfl | rfl <;> rfl
  mono := by rintro w w' x cs hw ⟨h0, rfl, g0⟩; exact ⟨h0, rfl, g0.mono hw⟩
theorem op62 (x : S62) : Lay kd62 x (fun i : Hd => [.slice i.1 x.f0.f0.length i.2, .bool x.f0.f1]) (fun i => [Rd (Kd.int .u8) i.1 i.2 x.f0.f0]) := by
  intro X w cs h
  obtain ⟨h0, rfl, _⟩ := h w (Away.refl _ _)
  refine ⟨h0, rfl, fun f hf w' hw => ?_⟩
  obtain ⟨k0, e, g0⟩ := h w' hw
  simp only [List.cons.injEq, Value.slice.injEq, and_true, true_and] at e
  obtain ⟨e0, e0'⟩ := e
  obtain rfl : k0 = h0 := Prod.ext e0.symm e0'.symm
  simp only [List.mem_cons, List.not_mem_nil, or_false] at hf
  rcases hf with rfl
  · exact g0
def wf62 (x : S62) : Prop := (wf60 x.f0)
structure S34 where
  f0 : Int
  f1 : Int
  f2 : Int
  f3 : Int
  f4 : Int
  f5 : Int
  f6 : Int
  f7 : Int
  f8 : List Int
  f9 : List Int
  f10 : List Int
  f11 : S27
  f12 : List S77
def kd34 : Kd S34 where
  sz := 17
  K := fun w x cs => ∃ h8 h9 h10 h13 h14 h15 h16 : Hd, cs = [.int .i64 x.f0, .int .i64 x.f1, .int .i64 x.f2, .int .i64 x.f3, .int .i64 x.f4, .int .i64 x.f5, .int .i64 x.f6, .int .i64 x.f7, .slice h8.1 x.f8.length h8.2, .slice h9.1 x.f9.length h9.2, .slice h10.1 x.f10.length h10.2, .int .i64 x.f11.f0, .int .i64 x.f11.f1, .slice h13.1 x.f11.f2.length h13.2, .slice h14.1 x.f11.f3.length h14.2, .slice h15.1 x.f11.f4.length h15.2, .slice h16.1 x.f12.length h16.2] ∧ Rd (Kd.int .i64) h8.1 h8.2 x.f8 w ∧ Rd (Kd.int .i64) h9.1 h9.2 x.f9 w ∧ Rd (Kd.int .i64) h10.1 h10.2 x.f10 w ∧ Rd (Kd.int .i64) h13.1 h13.2 x.f11.f2 w ∧ Rd Kd.bool h14.1 h14.2 x.f11.f3 w ∧ Rd kd77 h15.1 h15.2 x.f11.f4 w ∧ Rd kd77 h16.1 h16.2 x.f12 w
  len := by rintro w x cs ⟨h8, h9, h10, h13, h14, h15, h16, rfl, g8, g9, g10, g13, g14, g15, g16⟩; rfl
  one := by rintro w x cs ⟨h8, h9, h10, h13, h14, h15, h16, rfl, g8, g9, g10, g13, g14, g15, g16⟩ u hu; simp at hu; rcases hu with rfl | rfl | rfl | rfl | rfl | rfl | rfl | rfl | rfl | rfl | rfl | rfl | rfl | rfl | rfl | rfl | rfl <;> rfl
  mono := by rintro w w' x cs hw ⟨h8, h9, h10, h13, h14, h15, h16, rfl, g8, g9, g10, g13, g14, g15, g16⟩; exact ⟨h8, h9, h10, h13, h14, h15, h16, rfl, g8.mono hw, g9.mono hw, g10.mono hw, g13.mono hw, g14.mono hw, g15.mono hw, g16.mono hw⟩
theorem op34 (x : S34) : Lay kd34 x (fun i : Hd × Hd × Hd × Hd × Hd × Hd × Hd => [.int .i64 x.f0, .int .i64 x.f1, .int .i64 x.f2, .int .i64 x.f3, .int .i64 x.f4, .int .i64 x.f5, .int .i64 x.f6, .int .i64 x.f7, .slice i.1.1 x.f8.length i.1.2, .slice i.2.1.1 x.f9.length i.2.1.2, .slice i.2.2.1.1 x.f10.length i.2.2.1.2, .int .i64 x.f11.f0, .int .i64 x.f11.f1, .slice i.2.2.2.1.1 x.f11.f2.length i.2.2.2.1.2, .slice i.2.2.2.2.1.1 x.f11.f3.length i.2.2.2.2.1.2, .slice i.2.2.2.2.2.1.1 x.f11.f4.length i.2.2.2.2.2.1.2, .slice i.2.2.2.2.2.2.1 x.f12.length i.2.2.2.2.2.2.2]) (fun i => [Rd (Kd.int .i64) i.1.1 i.1.2 x.f8, Rd (Kd.int .i64) i.2.1.1 i.2.1.2 x.f9, Rd (Kd.int .i64) i.2.2.1.1 i.2.2.1.2 x.f10, Rd (Kd.int .i64) i.2.2.2.1.1 i.2.2.2.1.2 x.f11.f2, Rd Kd.bool i.2.2.2.2.1.1 i.2.2.2.2.1.2 x.f11.f3, Rd kd77 i.2.2.2.2.2.1.1 i.2.2.2.2.2.1.2 x.f11.f4, Rd kd77 i.2.2.2.2.2.2.1 i.2.2.2.2.2.2.2 x.f12]) := by
  intro X w cs h
  obtain ⟨h8, h9, h10, h13, h14, h15, h16, rfl, _, _, _, _, _, _, _⟩ := h w (Away.refl _ _)
  refine ⟨(h8, h9, h10, h13, h14, h15, h16), rfl, fun f hf w' hw => ?_⟩
  obtain ⟨k8, k9, k10, k13, k14, k15, k16, e, g8, g9, g10, g13, g14, g15, g16⟩ := h w' hw
  simp only [List.cons.injEq, Value.slice.injEq, and_true, true_and] at e
  obtain ⟨⟨e8, e8'⟩, ⟨e9, e9'⟩, ⟨e10, e10'⟩, ⟨e13, e13'⟩, ⟨e14, e14'⟩, ⟨e15, e15'⟩, e16, e16'⟩ := e
  obtain rfl : k8 = h8 := Prod.ext e8.symm e8'.symm
  obtain rfl : k9 = h9 := Prod.ext e9.symm e9'.symm
  obtain rfl : k10 = h10 := Prod.ext e10.symm e10'.symm
  obtain rfl : k13 = h13 := Prod.ext e13.symm e13'.symm
  obtain rfl : k14 = h14 := Prod.ext e14.symm e14'.symm
  obtain rfl : k15 = h15 := Prod.ext e15.symm e15'.symm
  obtain rfl : k16 = h16 := Prod.ext e16.symm e16'.symm
  simp only [List.mem_cons, List.not_mem_nil, or_false] at hf
  rcases hf with rfl | rfl | rfl | rfl | rfl | rfl | rfl
  · exact g8
  · exact g9
  · exact g10
  · exact g13
  · exact g14
  · exact g15
  · exact g16
def wf34 (x : S34) : Prop := ((Lit.int .i64 x.f0).wf = true) ∧ ((Lit.int .i64 x.f1).wf = true) ∧ ((Lit.int .i64 x.f2).wf = true) ∧ ((Lit.int .i64 x.f3).wf = true) ∧ ((Lit.int .i64 x.f4).wf = true) ∧ ((Lit.int .i64 x.f5).wf = true) ∧ ((Lit.int .i64 x.f6).wf = true) ∧ ((Lit.int .i64 x.f7).wf = true) ∧ (x.f8.length * 8 ≤ 140737488351232 ∧ ∀ x_ ∈ x.f8, (Lit.int .i64 x_).wf = true) ∧ (x.f9.length * 8 ≤ 140737488351232 ∧ ∀ x_ ∈ x.f9, (Lit.int .i64 x_).wf = true) ∧ (x.f10.length * 8 ≤ 140737488351232 ∧ ∀ x_ ∈ x.f10, (Lit.int .i64 x_).wf = true) ∧ (wf27 x.f11) ∧ (x.f12.length * 16 ≤ 140737488351232 ∧ ∀ x_ ∈ x.f12, wf77 x_)
/-! ### haywain/haywainlaw15.Wide: function 9 -/
def haywainlaw15_Wide.l1 (K : Nat) (a0 : S29) : Nat → (Int × Int) → Option Int
  | 0, _ => none
  | k + 1, s1 => cond (decide (s1.2 < (([(a0.f9.length : Int), (a0.f10.length : Int), (a0.f11.f2.length : Int), (a0.f11.f3.length : Int), (a0.f11.f4.length : Int), (a0.f12.length : Int)] : List Int).length : Int))) ((idxO ([(a0.f9.length : Int), (a0.f10.length : Int), (a0.f11.f2.length : Int), (a0.f11.f3.length : Int), (a0.f11.f4.length : Int), (a0.f12.length : Int)] : List Int) s1.2).bind fun x6_2 => cond (decide (x6_2 > s1.1)) ((idxO ([(a0.f9.length : Int), (a0.f10.length : Int), (a0.f11.f2.length : Int), (a0.f11.f3.length : Int), (a0.f11.f4.length : Int), (a0.f12.length : Int)] : List Int) s1.2).bind fun x7_2 => haywainlaw15_Wide.l1 K a0 k (x7_2, (IntKind.wrap .i64 (s1.2 + 1)))) (haywainlaw15_Wide.l1 K a0 k (s1.1, (IntKind.wrap .i64 (s1.2 + 1))))) (some (s1.1))
def haywainlaw15_Wide.f (K : Nat) (a0 : S29) : Option Int := haywainlaw15_Wide.l1 K a0 K ((a0.f8.length : Int), 0)
set_option maxRecDepth 100000 in
set_option maxHeartbeats 1000000 in
theorem haywainlaw15_Wide.con (K : Nat) (a0 : S29) (h0 : Hd) (h1 : Hd) (h2 : Hd) (h3 : Hd) (h4 : Hd) (h5 : Hd) (h6 : Hd) (r : Int) (X : Nat → Nat → Prop) (w : World) (hS : St X w [] [] [] [] [Rd (Kd.int .i64) h0.1 h0.2 a0.f8, Rd (Kd.int .i64) h1.1 h1.2 a0.f9, Rd (Kd.int .i64) h2.1 h2.2 a0.f10, Rd (Kd.int .i64) h3.1 h3.2 a0.f11.f2, Rd Kd.bool h4.1 h4.2 a0.f11.f3, Rd kd77 h5.1 h5.2 a0.f11.f4, Rd kd77 h6.1 h6.2 a0.f12] w) (H : haywainlaw15_Wide.f K a0 = some r) :
    Cn Try.prog 9 [.agg #[.int .i64 a0.f0, .int .i64 a0.f1, .int .i64 a0.f2, .int .i64 a0.f3, .int .i64 a0.f4, .int .i64 a0.f5, .int .i64 a0.f6, .int .i64 a0.f7, .slice h0.1 a0.f8.length h0.2, .slice h1.1 a0.f9.length h1.2, .slice h2.1 a0.f10.length h2.2, .int .i64 a0.f11.f0, .int .i64 a0.f11.f1, .slice h3.1 a0.f11.f2.length h3.2, .slice h4.1 a0.f11.f3.length h4.2, .slice h5.1 a0.f11.f4.length h5.2, .slice h6.1 a0.f12.length h6.2]] X w [] (fun i : Unit => .int .i64 r) (fun i => []) (fun i => []) (fun i => []) := by
 refine Cn.of Try.func9 (by kernel_rfl) hS ?_
 unfold haywainlaw15_Wide.f at H
 refine J.seq (by kernel_rfl) ?_
 refine J.region (by kernel_rfl) ?_
 refine O.e (some 1) (Ev.box (t := 29) (x := .tmp 0) (v := .agg #[.int .i64 a0.f0, .int .i64 a0.f1, .int .i64 a0.f2, .int .i64 a0.f3, .int .i64 a0.f4, .int .i64 a0.f5, .int .i64 a0.f6, .int .i64 a0.f7, .slice h0.1 a0.f8.length h0.2, .slice h1.1 a0.f9.length h1.2, .slice h2.1 a0.f10.length h2.2, .int .i64 a0.f11.f0, .int .i64 a0.f11.f1, .slice h3.1 a0.f11.f2.length h3.2, .slice h4.1 a0.f11.f3.length h4.2, .slice h5.1 a0.f11.f4.length h5.2, .slice h6.1 a0.f12.length h6.2]) (by kernel_rfl) (by kernel_rfl)) (by kernel_rfl) (fun p0_0 => ?_)
 refine O.pure 1 [] [1] [] (fr' := [(1, .pointer (some ⟨p0_0, 0, none⟩))]) (bx' := [⟨p0_0, [.int .i64 a0.f0, .int .i64 a0.f1, .int .i64 a0.f2, .int .i64 a0.f3, .int .i64 a0.f4, .int .i64 a0.f5, .int .i64 a0.f6, .int .i64 a0.f7, .slice h0.1 a0.f8.length h0.2, .slice h1.1 a0.f9.length h1.2, .slice h2.1 a0.f10.length h2.2, .int .i64 a0.f11.f0, .int .i64 a0.f11.f1, .slice h3.1 a0.f11.f2.length h3.2, .slice h4.1 a0.f11.f3.length h4.2, .slice h5.1 a0.f11.f4.length h5.2, .slice h6.1 a0.f12.length h6.2], 29⟩]) (by kernel_rfl) ?_
 refine O.nil (by kernel_rfl) ?_
 refine J.seq (by kernel_rfl) ?_
 refine J.region (by kernel_rfl) ?_
 refine O.pure 4 [(0, 8)] [1, 3] [p0_0, 8] (fr' := [(1, .pointer (some ⟨p0_0, 0, none⟩)), (3, .int .i64 (a0.f8.length : Int))]) (bx' := [⟨p0_0, [.int .i64 a0.f0, .int .i64 a0.f1, .int .i64 a0.f2, .int .i64 a0.f3, .int .i64 a0.f4, .int .i64 a0.f5, .int .i64 a0.f6, .int .i64 a0.f7, .slice h0.1 a0.f8.length h0.2, .slice h1.1 a0.f9.length h1.2, .slice h2.1 a0.f10.length h2.2, .int .i64 a0.f11.f0, .int .i64 a0.f11.f1, .slice h3.1 a0.f11.f2.length h3.2, .slice h4.1 a0.f11.f3.length h4.2, .slice h5.1 a0.f11.f4.length h5.2, .slice h6.1 a0.f12.length h6.2], 29⟩]) (by kernel_rfl) ?_
 refine O.nil (by kernel_rfl) ?_
 refine J.seq (by kernel_rfl) ?_
 refine J.region (by kernel_rfl) ?_
 refine O.pure 21 [(0, 9), (0, 10), (0, 13), (0, 14), (0, 15), (0, 16)] [3, 11, 14, 18, 22, 26, 29] [p0_0, 9, p0_0, 10, p0_0, 13, p0_0, 14, p0_0, 15, p0_0, 16] (fr' := [(3, .int .i64 (a0.f8.length : Int)), (11, .int .i64 (a0.f9.length : Int)), (14, .int .i64 (a0.f10.length : Int)), (18, .int .i64 (a0.f11.f2.length : Int)), (22, .int .i64 (a0.f11.f3.length : Int)), (26, .int .i64 (a0.f11.f4.length : Int)), (29, .int .i64 (a0.f12.length : Int))]) (bx' := [⟨p0_0, [.int .i64 a0.f0, .int .i64 a0.f1, .int .i64 a0.f2, .int .i64 a0.f3, .int .i64 a0.f4, .int .i64 a0.f5, .int .i64 a0.f6, .int .i64 a0.f7, .slice h0.1 a0.f8.length h0.2, .slice h1.1 a0.f9.length h1.2, .slice h2.1 a0.f10.length h2.2, .int .i64 a0.f11.f0, .int .i64 a0.f11.f1, .slice h3.1 a0.f11.f2.length h3.2, .slice h4.1 a0.f11.f3.length h4.2, .slice h5.1 a0.f11.f4.length h5.2, .slice h6.1 a0.f12.length h6.2], 29⟩]) (by kernel_rfl) ?_
 refine O.e (some 30) (Ev.lit (t := 22) (len := 6) (parts := #[(0, .tmp 11), (1, .tmp 14), (2, .tmp 18), (3, .tmp 22), (4, .tmp 26), (5, .tmp 29)]) (ps := [(0, .int .i64 (a0.f9.length : Int)), (1, .int .i64 (a0.f10.length : Int)), (2, .int .i64 (a0.f11.f2.length : Int)), (3, .int .i64 (a0.f11.f3.length : Int)), (4, .int .i64 (a0.f11.f4.length : Int)), (5, .int .i64 (a0.f12.length : Int))]) (cs := [.int .i64 (a0.f9.length : Int), .int .i64 (a0.f10.length : Int), .int .i64 (a0.f11.f2.length : Int), .int .i64 (a0.f11.f3.length : Int), .int .i64 (a0.f11.f4.length : Int), .int .i64 (a0.f12.length : Int)]) (e := 3) (Kd.int .i64) ([(a0.f9.length : Int), (a0.f10.length : Int), (a0.f11.f2.length : Int), (a0.f11.f3.length : Int), (a0.f11.f4.length : Int), (a0.f12.length : Int)] : List Int) (by kernel_rfl) (by kernel_rfl) (by kernel_rfl) (by kernel_rfl) (by kernel_rfl) (by decide) (fun w' hφ => (Els.cons (c := [.int .i64 (a0.f9.length : Int)]) (rfl) (Els.cons (c := [.int .i64 (a0.f10.length : Int)]) (rfl) (Els.cons (c := [.int .i64 (a0.f11.f2.length : Int)]) (rfl) (Els.cons (c := [.int .i64 (a0.f11.f3.length : Int)]) (rfl) (Els.cons (c := [.int .i64 (a0.f11.f4.length : Int)]) (rfl) (Els.cons (c := [.int .i64 (a0.f12.length : Int)]) (rfl) (Els.nil _ _ _))))))))) (by kernel_rfl) (fun p2_21 => ?_)
 refine O.pure 1 [] [3, 4] [] (fr' := [(3, .int .i64 (a0.f8.length : Int)), (4, .slice ((some ⟨p2_21, 0, none⟩, 6) : Hd).1 ([(a0.f9.length : Int), (a0.f10.length : Int), (a0.f11.f2.length : Int), (a0.f11.f3.length : Int), (a0.f11.f4.length : Int), (a0.f12.length : Int)] : List Int).length ((some ⟨p2_21, 0, none⟩, 6) : Hd).2)]) (bx' := [⟨p0_0, [.int .i64 a0.f0, .int .i64 a0.f1, .int .i64 a0.f2, .int .i64 a0.f3, .int .i64 a0.f4, .int .i64 a0.f5, .int .i64 a0.f6, .int .i64 a0.f7, .slice h0.1 a0.f8.length h0.2, .slice h1.1 a0.f9.length h1.2, .slice h2.1 a0.f10.length h2.2, .int .i64 a0.f11.f0, .int .i64 a0.f11.f1, .slice h3.1 a0.f11.f2.length h3.2, .slice h4.1 a0.f11.f3.length h4.2, .slice h5.1 a0.f11.f4.length h5.2, .slice h6.1 a0.f12.length h6.2], 29⟩]) (by kernel_rfl) ?_
 refine O.nil (by kernel_rfl) ?_
 refine J.seq (by kernel_rfl) ?_
 refine J.seq (by kernel_rfl) ?_
 refine J.region (by kernel_rfl) ?_
 refine O.pure 1 [] [3, 4, 5] [] (fr' := [(3, .int .i64 (a0.f8.length : Int)), (4, .slice ((some ⟨p2_21, 0, none⟩, 6) : Hd).1 ([(a0.f9.length : Int), (a0.f10.length : Int), (a0.f11.f2.length : Int), (a0.f11.f3.length : Int), (a0.f11.f4.length : Int), (a0.f12.length : Int)] : List Int).length ((some ⟨p2_21, 0, none⟩, 6) : Hd).2), (5, .int .i64 0)]) (bx' := [⟨p0_0, [.int .i64 a0.f0, .int .i64 a0.f1, .int .i64 a0.f2, .int .i64 a0.f3, .int .i64 a0.f4, .int .i64 a0.f5, .int .i64 a0.f6, .int .i64 a0.f7, .slice h0.1 a0.f8.length h0.2, .slice h1.1 a0.f9.length h1.2, .slice h2.1 a0.f10.length h2.2, .int .i64 a0.f11.f0, .int .i64 a0.f11.f1, .slice h3.1 a0.f11.f2.length h3.2, .slice h4.1 a0.f11.f3.length h4.2, .slice h5.1 a0.f11.f4.length h5.2, .slice h6.1 a0.f12.length h6.2], 29⟩]) (by kernel_rfl) ?_
 refine O.nil (by kernel_rfl) ?_
 refine J.block (id := 0) (by kernel_rfl) ?_
 refine J.loopI (σ := Int × Int) (γ := Unit) (f := fun m_ s_ => haywainlaw15_Wide.l1 K a0 m_ s_) (fun s1 g1 => [(3, .int .i64 s1.1), (4, .slice ((some ⟨p2_21, 0, none⟩, 6) : Hd).1 ([(a0.f9.length : Int), (a0.f10.length : Int), (a0.f11.f2.length : Int), (a0.f11.f3.length : Int), (a0.f11.f4.length : Int), (a0.f12.length : Int)] : List Int).length ((some ⟨p2_21, 0, none⟩, 6) : Hd).2), (5, .int .i64 s1.2)]) (fun s1 g1 => St X w [] [] [] [] [Rd (Kd.int .i64) h0.1 h0.2 a0.f8, Rd (Kd.int .i64) h1.1 h1.2 a0.f9, Rd (Kd.int .i64) h2.1 h2.2 a0.f10, Rd (Kd.int .i64) h3.1 h3.2 a0.f11.f2, Rd Kd.bool h4.1 h4.2 a0.f11.f3, Rd kd77 h5.1 h5.2 a0.f11.f4, Rd kd77 h6.1 h6.2 a0.f12, Rd (Kd.int .i64) ((some ⟨p2_21, 0, none⟩, 6) : Hd).1 ((some ⟨p2_21, 0, none⟩, 6) : Hd).2 ([(a0.f9.length : Int), (a0.f10.length : Int), (a0.f11.f2.length : Int), (a0.f11.f3.length : Int), (a0.f11.f4.length : Int), (a0.f12.length : Int)] : List Int)]) K ((a0.f8.length : Int), 0) () (by kernel_rfl) H (fun _ => rfl) (fun m_ s1 H ih1 g1 => ?_) (fun h_ => ?_)
 ·unfold haywainlaw15_Wide.l1 at H
  refine J.seq (by kernel_rfl) ?_
  refine J.seq (by kernel_rfl) ?_
  refine J.region (by kernel_rfl) ?_
  refine O.pure 4 [] [3, 4, 5, 34] [] (fr' := [(3, .int .i64 s1.1), (4, .slice ((some ⟨p2_21, 0, none⟩, 6) : Hd).1 ([(a0.f9.length : Int), (a0.f10.length : Int), (a0.f11.f2.length : Int), (a0.f11.f3.length : Int), (a0.f11.f4.length : Int), (a0.f12.length : Int)] : List Int).length ((some ⟨p2_21, 0, none⟩, 6) : Hd).2), (5, .int .i64 s1.2), (34, .bool (decide (s1.2 < (([(a0.f9.length : Int), (a0.f10.length : Int), (a0.f11.f2.length : Int), (a0.f11.f3.length : Int), (a0.f11.f4.length : Int), (a0.f12.length : Int)] : List Int).length : Int))))]) (bx' := []) (by kernel_rfl) ?_
  refine O.nil (by kernel_rfl) ?_
  rcases condE H with ⟨hc6, H⟩ | ⟨hc6, H⟩
  ·refine J.condT (x := .tmp 34) (t := (decide (s1.2 < (([(a0.f9.length : Int), (a0.f10.length : Int), (a0.f11.f2.length : Int), (a0.f11.f3.length : Int), (a0.f11.f4.length : Int), (a0.f12.length : Int)] : List Int).length : Int)))) (by kernel_rfl) (by kernel_rfl) hc6 ?_
   refine J.skip (by kernel_rfl) ?_
   refine J.seq (by kernel_rfl) ?_
   refine J.block (id := 1) (by kernel_rfl) ?_
   refine J.seq (by kernel_rfl) ?_
   obtain ⟨x6_2, hx6_2, H⟩ := bindE H
   obtain ⟨hx6_2a, hx6_2⟩ := idxE hx6_2
   refine J.region (by kernel_rfl) ?_
   refine O.pure 2 [] [3, 4, 5, 37, 38] [] (fr' := [(3, .int .i64 s1.1), (4, .slice ((some ⟨p2_21, 0, none⟩, 6) : Hd).1 ([(a0.f9.length : Int), (a0.f10.length : Int), (a0.f11.f2.length : Int), (a0.f11.f3.length : Int), (a0.f11.f4.length : Int), (a0.f12.length : Int)] : List Int).length ((some ⟨p2_21, 0, none⟩, 6) : Hd).2), (5, .int .i64 s1.2), (37, .slice ((some ⟨p2_21, 0, none⟩, 6) : Hd).1 ([(a0.f9.length : Int), (a0.f10.length : Int), (a0.f11.f2.length : Int), (a0.f11.f3.length : Int), (a0.f11.f4.length : Int), (a0.f12.length : Int)] : List Int).length ((some ⟨p2_21, 0, none⟩, 6) : Hd).2), (38, .int .i64 s1.2)]) (bx' := []) (by kernel_rfl) ?_
   refine O.open (d := (Kd.int .i64)) (h := ((some ⟨p2_21, 0, none⟩, 6) : Hd)) (i := s1.2) 7 rfl hx6_2 (Lay.int _ _) (fun p6_2 hp6_2A => ?_)
   refine O.q (v := .pointer (some ⟨p6_2.1, p6_2.2.1 + s1.2.toNat * 1, none⟩)) (some 39) (Qu.idx (t := 22) (x := .tmp 37) (y := .tmp 38) (c := ((some ⟨p2_21, 0, none⟩, 6) : Hd).2) (kk := .i64) (sz := 1) (by kernel_rfl) (by kernel_rfl) (by kernel_rfl) (by kernel_rfl) hx6_2a (idx_lt hx6_2) hp6_2A) (by kernel_rfl) ?_
   refine O.pure 3 [(0, 0)] [3, 4, 5, 42] [p6_2.1, p6_2.2.1 + s1.2.toNat * 1] (fr' := [(3, .int .i64 s1.1), (4, .slice ((some ⟨p2_21, 0, none⟩, 6) : Hd).1 ([(a0.f9.length : Int), (a0.f10.length : Int), (a0.f11.f2.length : Int), (a0.f11.f3.length : Int), (a0.f11.f4.length : Int), (a0.f12.length : Int)] : List Int).length ((some ⟨p2_21, 0, none⟩, 6) : Hd).2), (5, .int .i64 s1.2), (42, .bool (decide (x6_2 > s1.1)))]) (bx' := []) (by kernel_rfl) ?_
   refine O.nil (by kernel_rfl) ?_
   rcases condE H with ⟨hc7, H⟩ | ⟨hc7, H⟩
   ·refine J.condT (x := .tmp 42) (t := (decide (x6_2 > s1.1))) (by kernel_rfl) (by kernel_rfl) hc7 ?_
    obtain ⟨x7_2, hx7_2, H⟩ := bindE H
    obtain ⟨hx7_2a, hx7_2⟩ := idxE hx7_2
    refine J.region (by kernel_rfl) ?_
    refine O.pure 2 [] [3, 4, 5, 43, 44] [] (fr' := [(3, .int .i64 s1.1), (4, .slice ((some ⟨p2_21, 0, none⟩, 6) : Hd).1 ([(a0.f9.length : Int), (a0.f10.length : Int), (a0.f11.f2.length : Int), (a0.f11.f3.length : Int), (a0.f11.f4.length : Int), (a0.f12.length : Int)] : List Int).length ((some ⟨p2_21, 0, none⟩, 6) : Hd).2), (5, .int .i64 s1.2), (43, .slice ((some ⟨p2_21, 0, none⟩, 6) : Hd).1 ([(a0.f9.length : Int), (a0.f10.length : Int), (a0.f11.f2.length : Int), (a0.f11.f3.length : Int), (a0.f11.f4.length : Int), (a0.f12.length : Int)] : List Int).length ((some ⟨p2_21, 0, none⟩, 6) : Hd).2), (44, .int .i64 s1.2)]) (bx' := []) (by kernel_rfl) ?_
    refine O.open (d := (Kd.int .i64)) (h := ((some ⟨p2_21, 0, none⟩, 6) : Hd)) (i := s1.2) 7 rfl hx7_2 (Lay.int _ _) (fun p7_2 hp7_2A => ?_)
    refine O.q (v := .pointer (some ⟨p7_2.1, p7_2.2.1 + s1.2.toNat * 1, none⟩)) (some 45) (Qu.idx (t := 22) (x := .tmp 43) (y := .tmp 44) (c := ((some ⟨p2_21, 0, none⟩, 6) : Hd).2) (kk := .i64) (sz := 1) (by kernel_rfl) (by kernel_rfl) (by kernel_rfl) (by kernel_rfl) hx7_2a (idx_lt hx7_2) hp7_2A) (by kernel_rfl) ?_
    refine O.pure 2 [(0, 0)] [3, 4, 5] [p7_2.1, p7_2.2.1 + s1.2.toNat * 1] (fr' := [(3, .int .i64 x7_2), (4, .slice ((some ⟨p2_21, 0, none⟩, 6) : Hd).1 ([(a0.f9.length : Int), (a0.f10.length : Int), (a0.f11.f2.length : Int), (a0.f11.f3.length : Int), (a0.f11.f4.length : Int), (a0.f12.length : Int)] : List Int).length ((some ⟨p2_21, 0, none⟩, 6) : Hd).2), (5, .int .i64 s1.2)]) (bx' := []) (by kernel_rfl) ?_
    refine O.nil (by kernel_rfl) ?_
    refine J.out ?_
    refine J.region (by kernel_rfl) ?_
    refine O.pure 3 [] [3, 4, 5] [] (fr' := [(3, .int .i64 x7_2), (4, .slice ((some ⟨p2_21, 0, none⟩, 6) : Hd).1 ([(a0.f9.length : Int), (a0.f10.length : Int), (a0.f11.f2.length : Int), (a0.f11.f3.length : Int), (a0.f11.f4.length : Int), (a0.f12.length : Int)] : List Int).length ((some ⟨p2_21, 0, none⟩, 6) : Hd).2), (5, .int .i64 (IntKind.wrap .i64 (s1.2 + 1)))]) (bx' := []) (by kernel_rfl) ?_
    refine O.nil (by kernel_rfl) ?_
    exact J.conv2 [3, 4, 5] [0, 1, 2, 3, 4, 5, 6, 7] [] [] (by kernel_rfl) (by kernel_rfl) (by kernel_rfl) (by kernel_rfl) (by decide) (ih1 (x7_2, (IntKind.wrap .i64 (s1.2 + 1))) () H)
   ·refine J.condF (x := .tmp 42) (t := (decide (x6_2 > s1.1))) (by kernel_rfl) (by kernel_rfl) hc7 ?_
    refine J.skip (by kernel_rfl) ?_
    refine J.out ?_
    refine J.region (by kernel_rfl) ?_
    refine O.pure 3 [] [3, 4, 5] [] (fr' := [(3, .int .i64 s1.1), (4, .slice ((some ⟨p2_21, 0, none⟩, 6) : Hd).1 ([(a0.f9.length : Int), (a0.f10.length : Int), (a0.f11.f2.length : Int), (a0.f11.f3.length : Int), (a0.f11.f4.length : Int), (a0.f12.length : Int)] : List Int).length ((some ⟨p2_21, 0, none⟩, 6) : Hd).2), (5, .int .i64 (IntKind.wrap .i64 (s1.2 + 1)))]) (bx' := []) (by kernel_rfl) ?_
    refine O.nil (by kernel_rfl) ?_
    exact J.conv2 [3, 4, 5] [0, 1, 2, 3, 4, 5, 6, 7] [] [] (by kernel_rfl) (by kernel_rfl) (by kernel_rfl) (by kernel_rfl) (by decide) (ih1 (s1.1, (IntKind.wrap .i64 (s1.2 + 1))) () H)
  ·refine J.condF (x := .tmp 34) (t := (decide (s1.2 < (([(a0.f9.length : Int), (a0.f10.length : Int), (a0.f11.f2.length : Int), (a0.f11.f3.length : Int), (a0.f11.f4.length : Int), (a0.f12.length : Int)] : List Int).length : Int)))) (by kernel_rfl) (by kernel_rfl) hc6 ?_
   refine J.exit (id := 0) (by kernel_rfl) rfl ?_
   refine J.seq (by kernel_rfl) ?_
   refine J.region (by kernel_rfl) ?_
   refine O.pure 2 [] [2] [] (fr' := [(2, .int .i64 s1.1)]) (bx' := []) (by kernel_rfl) ?_
   refine O.nil (by kernel_rfl) ?_
   obtain rfl := Option.some.inj H
   exact J.doneS [] [] [] [] [] () (vs := [.int .i64 s1.1]) (by kernel_rfl) (by kernel_rfl) (by kernel_rfl) (by kernel_rfl) (by kernel_rfl) (by decide)
 ·refine J.mono (fun w hS => hS.freezeH (h := ((some ⟨p2_21, 0, none⟩, 6) : Hd)) (xs := ([(a0.f9.length : Int), (a0.f10.length : Int), (a0.f11.f2.length : Int), (a0.f11.f3.length : Int), (a0.f11.f4.length : Int), (a0.f12.length : Int)] : List Int))) ?_
  exact J.conv2 [3, 4, 5] [1, 2, 3, 4, 5, 6, 7, 0] [] [] (by kernel_rfl) (by kernel_rfl) (by kernel_rfl) (by kernel_rfl) (by decide) h_
/-! ### haywain/mail.fair: function 19 -/
def mail_fair.l1 (K : Nat) (a0 : Int) (a1 : List Int) : Nat → Int → Option Bool
  | 0, _ => none
  | k + 1, s1 => cond (decide (s1 < (a1.length : Int))) ((idxO a1 s1).bind fun x3_0 => cond (decide (x3_0 < 0)) (some (false)) (cond (decide (x3_0 > 1099511627776)) (some (false)) (mail_fair.l1 K a0 a1 k (IntKind.wrap .i64 (s1 + 1))))) (some ((decide ((a1.length : Int) ≤ a0))))
def mail_fair.f (K : Nat) (a0 : Int) (a1 : List Int) : Option Bool := mail_fair.l1 K a0 a1 K 0
set_option maxRecDepth 100000 in
set_option maxHeartbeats 1000000 in
theorem mail_fair.con (K : Nat) (a0 : Int) (a1 : List Int) (h0 : Hd) (r : Bool) (X : Nat → Nat → Prop) (w : World) (hS : St X w [] [] [] [] [Rd (Kd.int .i64) h0.1 h0.2 a1] w) (H : mail_fair.f K a0 a1 = some r) :
    Cn Try.prog 19 [.int .i64 a0, .slice h0.1 a1.length h0.2] X w [] (fun i : Unit => .bool r) (fun i => []) (fun i => []) (fun i => []) := by
 refine Cn.of Try.func19 (by kernel_rfl) hS ?_
 unfold mail_fair.f at H
 refine J.seq (by kernel_rfl) ?_
 refine J.region (by kernel_rfl) ?_
 refine O.pure 1 [] [0, 1] [] (fr' := [(0, .int .i64 a0), (1, .slice h0.1 a1.length h0.2)]) (bx' := []) (by kernel_rfl) ?_
 refine O.nil (by kernel_rfl) ?_
 refine J.seq (by kernel_rfl) ?_
 refine J.seq (by kernel_rfl) ?_
 refine J.region (by kernel_rfl) ?_
 refine O.pure 3 [] [0, 1, 7, 8, 9] [] (fr' := [(0, .int .i64 a0), (1, .slice h0.1 a1.length h0.2), (7, .slice h0.1 a1.length h0.2), (8, .int .i64 (a1.length : Int)), (9, .int .i64 0)]) (bx' := []) (by kernel_rfl) ?_
 refine O.nil (by kernel_rfl) ?_
 refine J.block (id := 0) (by kernel_rfl) ?_
 refine J.loopI (σ := Int) (γ := Unit) (f := fun m_ s_ => mail_fair.l1 K a0 a1 m_ s_) (fun s1 g1 => [(0, .int .i64 a0), (1, .slice h0.1 a1.length h0.2), (7, .slice h0.1 a1.length h0.2), (8, .int .i64 (a1.length : Int)), (9, .int .i64 s1)]) (fun s1 g1 => St X w [] [] [] [] [Rd (Kd.int .i64) h0.1 h0.2 a1]) K 0 () (by kernel_rfl) H (fun _ => rfl) (fun m_ s1 H ih1 g1 => ?_) (fun h_ => ?_)
 ·unfold mail_fair.l1 at H
  refine J.seq (by kernel_rfl) ?_
  refine J.region (by kernel_rfl) ?_
  refine O.pure 1 [] [0, 1, 7, 8, 9, 10] [] (fr' := [(0, .int .i64 a0), (1, .slice h0.1 a1.length h0.2), (7, .slice h0.1 a1.length h0.2), (8, .int .i64 (a1.length : Int)), (9, .int .i64 s1), (10, .bool (decide (s1 < (a1.length : Int))))]) (bx' := []) (by kernel_rfl) ?_
  refine O.nil (by kernel_rfl) ?_
  refine J.seq (by kernel_rfl) ?_
  rcases condE H with ⟨hc8, H⟩ | ⟨hc8, H⟩
  ·refine J.condT (x := .tmp 10) (t := (decide (s1 < (a1.length : Int)))) (by kernel_rfl) (by kernel_rfl) hc8 ?_
   refine J.skip (by kernel_rfl) ?_
   refine J.seq (by kernel_rfl) ?_
   refine J.block (id := 1) (by kernel_rfl) ?_
   refine J.seq (by kernel_rfl) ?_
   obtain ⟨x3_0, hx3_0, H⟩ := bindE H
   obtain ⟨hx3_0a, hx3_0⟩ := idxE hx3_0
   refine J.region (by kernel_rfl) ?_
   refine O.open (d := (Kd.int .i64)) (h := h0) (i := s1) 0 rfl hx3_0 (Lay.int _ _) (fun p3_0 hp3_0A => ?_)
   refine O.q (v := .pointer (some ⟨p3_0.1, p3_0.2.1 + s1.toNat * 1, none⟩)) (some 11) (Qu.idx (t := 22) (x := .tmp 7) (y := .tmp 9) (c := h0.2) (kk := .i64) (sz := 1) (by kernel_rfl) (by kernel_rfl) (by kernel_rfl) (by kernel_rfl) hx3_0a (idx_lt hx3_0) hp3_0A) (by kernel_rfl) ?_
   refine O.pure 2 [(0, 0)] [0, 1, 6, 7, 8, 9] [p3_0.1, p3_0.2.1 + s1.toNat * 1] (fr' := [(0, .int .i64 a0), (1, .slice h0.1 a1.length h0.2), (6, .int .i64 x3_0), (7, .slice h0.1 a1.length h0.2), (8, .int .i64 (a1.length : Int)), (9, .int .i64 s1)]) (bx' := []) (by kernel_rfl) ?_
   refine O.nil (by kernel_rfl) ?_
   refine J.seq (by kernel_rfl) ?_
   rcases condE H with ⟨hc9, H⟩ | ⟨hc9, H⟩
   ·refine J.region (by kernel_rfl) ?_
    refine O.pure 1 [] [0, 1, 6, 7, 8, 9, 13] [] (fr' := [(0, .int .i64 a0), (1, .slice h0.1 a1.length h0.2), (6, .int .i64 x3_0), (7, .slice h0.1 a1.length h0.2), (8, .int .i64 (a1.length : Int)), (9, .int .i64 s1), (13, .int .i64 x3_0)]) (bx' := []) (by kernel_rfl) ?_
    refine O.q (v := .bool true) (some 14) (Qu.eqv (u := .bool (decide (x3_0 < 0))) (v := .bool true) (0, 0) [] (by kernel_rfl) (congrArg Value.bool hc9)) (by kernel_rfl) ?_
    refine O.pure 4 [] [0, 1, 7, 8, 9, 16, 17, 18] [] (fr' := [(0, .int .i64 a0), (1, .slice h0.1 a1.length h0.2), (7, .slice h0.1 a1.length h0.2), (8, .int .i64 (a1.length : Int)), (9, .int .i64 s1), (16, undef), (17, undef), (18, .bool true)]) (bx' := []) (by kernel_rfl) ?_
    refine O.nil (by kernel_rfl) ?_
    refine J.cond (o := .tmp 18) true (by kernel_rfl) (by kernel_rfl) ?_
    refine J.seq (by kernel_rfl) ?_
    refine J.region (by kernel_rfl) ?_
    refine O.pure 1 [] [4] [] (fr' := [(4, .bool false)]) (bx' := []) (by kernel_rfl) ?_
    refine O.nil (by kernel_rfl) ?_
    obtain rfl := Option.some.inj H
    exact J.doneS [] [] [] [] [] () (vs := [.bool false]) (by kernel_rfl) (by kernel_rfl) (by kernel_rfl) (by kernel_rfl) (by kernel_rfl) (by decide)
   ·refine J.region (by kernel_rfl) ?_
    refine O.pure 1 [] [0, 1, 6, 7, 8, 9, 13] [] (fr' := [(0, .int .i64 a0), (1, .slice h0.1 a1.length h0.2), (6, .int .i64 x3_0), (7, .slice h0.1 a1.length h0.2), (8, .int .i64 (a1.length : Int)), (9, .int .i64 s1), (13, .int .i64 x3_0)]) (bx' := []) (by kernel_rfl) ?_
    refine O.q (v := .bool false) (some 14) (Qu.eqv (u := .bool (decide (x3_0 < 0))) (v := .bool false) (0, 0) [] (by kernel_rfl) (congrArg Value.bool hc9)) (by kernel_rfl) ?_
    refine O.pure 4 [] [0, 1, 7, 8, 9, 16, 17, 18] [] (fr' := [(0, .int .i64 a0), (1, .slice h0.1 a1.length h0.2), (7, .slice h0.1 a1.length h0.2), (8, .int .i64 (a1.length : Int)), (9, .int .i64 s1), (16, .int .i64 x3_0), (17, .bool (decide (x3_0 > 1099511627776))), (18, .bool (decide (x3_0 > 1099511627776)))]) (bx' := []) (by kernel_rfl) ?_
    refine O.nil (by kernel_rfl) ?_
    rcases condE H with ⟨hc10, H⟩ | ⟨hc10, H⟩
    ·refine J.condT (x := .tmp 18) (t := (decide (x3_0 > 1099511627776))) (by kernel_rfl) (by kernel_rfl) hc10 ?_
     refine J.seq (by kernel_rfl) ?_
     refine J.region (by kernel_rfl) ?_
     refine O.pure 1 [] [4] [] (fr' := [(4, .bool false)]) (bx' := []) (by kernel_rfl) ?_
     refine O.nil (by kernel_rfl) ?_
     obtain rfl := Option.some.inj H
     exact J.doneS [] [] [] [] [] () (vs := [.bool false]) (by kernel_rfl) (by kernel_rfl) (by kernel_rfl) (by kernel_rfl) (by kernel_rfl) (by decide)
    ·refine J.condF (x := .tmp 18) (t := (decide (x3_0 > 1099511627776))) (by kernel_rfl) (by kernel_rfl) hc10 ?_
     refine J.skip (by kernel_rfl) ?_
     refine J.out ?_
     refine J.region (by kernel_rfl) ?_
     refine O.pure 2 [] [0, 1, 7, 8, 9, 16, 17] [] (fr' := [(0, .int .i64 a0), (1, .slice h0.1 a1.length h0.2), (7, .slice h0.1 a1.length h0.2), (8, .int .i64 (a1.length : Int)), (9, .int .i64 (IntKind.wrap .i64 (s1 + 1))), (16, .int .i64 x3_0), (17, .bool (decide (x3_0 > 1099511627776)))]) (bx' := []) (by kernel_rfl) ?_
     refine O.nil (by kernel_rfl) ?_
     exact J.conv2 [0, 1, 7, 8, 9] [0] [] [] (by kernel_rfl) (by kernel_rfl) (by kernel_rfl) (by kernel_rfl) (by decide) (ih1 (IntKind.wrap .i64 (s1 + 1)) () H)
  ·refine J.condF (x := .tmp 10) (t := (decide (s1 < (a1.length : Int)))) (by kernel_rfl) (by kernel_rfl) hc8 ?_
   refine J.exit (id := 0) (by kernel_rfl) rfl ?_
   refine J.seq (by kernel_rfl) ?_
   refine J.region (by kernel_rfl) ?_
   refine O.pure 5 [] [4] [] (fr' := [(4, .bool (decide ((a1.length : Int) ≤ a0)))]) (bx' := []) (by kernel_rfl) ?_
   refine O.nil (by kernel_rfl) ?_
   obtain rfl := Option.some.inj H
   exact J.doneS [] [] [] [] [] () (vs := [.bool (decide ((a1.length : Int) ≤ a0))]) (by kernel_rfl) (by kernel_rfl) (by kernel_rfl) (by kernel_rfl) (by kernel_rfl) (by decide)
 ·exact J.conv2 [0, 1, 7, 8, 9] [0] [] [] (by kernel_rfl) (by kernel_rfl) (by kernel_rfl) (by kernel_rfl) (by decide) h_
/-! ### haywain/mail.sent: function 20 -/
def mail_sent.l1 (K : Nat) (a0 : List S77) : Nat → Int → Option Bool
  | 0, _ => none
  | k + 1, s1 => cond (decide (s1 < (a0.length : Int))) ((idxO a0 s1).bind fun x3_0 => (mail_fair.f K 1 ([x3_0.f0] : List Int)).bind fun x4_3 => cond (!x4_3) (some (false)) (mail_sent.l1 K a0 k (IntKind.wrap .i64 (s1 + 1)))) (some ((decide ((a0.length : Int) ≤ 24))))
def mail_sent.f (K : Nat) (a0 : List S77) : Option Bool := mail_sent.l1 K a0 K 0
set_option maxRecDepth 100000 in
set_option maxHeartbeats 1000000 in
theorem mail_sent.con (K : Nat) (a0 : List S77) (h0 : Hd) (r : Bool) (X : Nat → Nat → Prop) (w : World) (hS : St X w [] [] [] [] [Rd kd77 h0.1 h0.2 a0] w) (H : mail_sent.f K a0 = some r) :
    Cn Try.prog 20 [.slice h0.1 a0.length h0.2] X w [] (fun i : Unit => .bool r) (fun i => []) (fun i => []) (fun i => []) := by
 refine Cn.of Try.func20 (by kernel_rfl) hS ?_
 unfold mail_sent.f at H
 refine J.seq (by kernel_rfl) ?_
 refine J.region (by kernel_rfl) ?_
 refine O.pure 1 [] [0] [] (fr' := [(0, .slice h0.1 a0.length h0.2)]) (bx' := []) (by kernel_rfl) ?_
 refine O.nil (by kernel_rfl) ?_
 refine J.seq (by kernel_rfl) ?_
 refine J.seq (by kernel_rfl) ?_
 refine J.region (by kernel_rfl) ?_
 refine O.pure 3 [] [0, 5, 6, 7] [] (fr' := [(0, .slice h0.1 a0.length h0.2), (5, .slice h0.1 a0.length h0.2), (6, .int .i64 (a0.length : Int)), (7, .int .i64 0)]) (bx' := []) (by kernel_rfl) ?_
 refine O.nil (by kernel_rfl) ?_
 refine J.block (id := 0) (by kernel_rfl) ?_
 refine J.loopI (σ := Int) (γ := Unit) (f := fun m_ s_ => mail_sent.l1 K a0 m_ s_) (fun s1 g1 => [(0, .slice h0.1 a0.length h0.2), (5, .slice h0.1 a0.length h0.2), (6, .int .i64 (a0.length : Int)), (7, .int .i64 s1)]) (fun s1 g1 => St X w [] [] [] [] [Rd kd77 h0.1 h0.2 a0]) K 0 () (by kernel_rfl) H (fun _ => rfl) (fun m_ s1 H ih1 g1 => ?_) (fun h_ => ?_)
 ·unfold mail_sent.l1 at H
  refine J.seq (by kernel_rfl) ?_
  refine J.region (by kernel_rfl) ?_
  refine O.pure 1 [] [0, 5, 6, 7, 8] [] (fr' := [(0, .slice h0.1 a0.length h0.2), (5, .slice h0.1 a0.length h0.2), (6, .int .i64 (a0.length : Int)), (7, .int .i64 s1), (8, .bool (decide (s1 < (a0.length : Int))))]) (bx' := []) (by kernel_rfl) ?_
  refine O.nil (by kernel_rfl) ?_
  refine J.seq (by kernel_rfl) ?_
  rcases condE H with ⟨hc6, H⟩ | ⟨hc6, H⟩
  ·refine J.condT (x := .tmp 8) (t := (decide (s1 < (a0.length : Int)))) (by kernel_rfl) (by kernel_rfl) hc6 ?_
   refine J.skip (by kernel_rfl) ?_
   refine J.seq (by kernel_rfl) ?_
   refine J.block (id := 1) (by kernel_rfl) ?_
   refine J.seq (by kernel_rfl) ?_
   obtain ⟨x3_0, hx3_0, H⟩ := bindE H
   obtain ⟨hx3_0a, hx3_0⟩ := idxE hx3_0
   refine J.region (by kernel_rfl) ?_
   refine O.open (d := kd77) (h := h0) (i := s1) 0 rfl hx3_0 (op77 _) (fun p3_0 hp3_0A => ?_)
   refine O.q (v := .pointer (some ⟨p3_0.1, p3_0.2.1 + s1.toNat * 2, none⟩)) (some 9) (Qu.idx (t := 25) (x := .tmp 5) (y := .tmp 7) (c := h0.2) (kk := .i64) (sz := 2) (by kernel_rfl) (by kernel_rfl) (by kernel_rfl) (by kernel_rfl) hx3_0a (idx_lt hx3_0) hp3_0A) (by kernel_rfl) ?_
   refine O.pure 1 [(0, 0)] [0, 5, 6, 7, 10] [p3_0.1, p3_0.2.1 + s1.toNat * 2] (fr' := [(0, .slice h0.1 a0.length h0.2), (5, .slice h0.1 a0.length h0.2), (6, .int .i64 (a0.length : Int)), (7, .int .i64 s1), (10, .agg #[.int .i64 x3_0.f0, .int .i64 x3_0.f1])]) (bx' := []) (by kernel_rfl) ?_
   refine O.e (some 4) (Ev.alloc (t := 77) (z := .agg #[.int .i64 0, .int .i64 0]) (by kernel_rfl) (by kernel_rfl)) (by kernel_rfl) (fun p3_2 => ?_)
   refine O.pure 1 [(0, 0)] [0, 4, 5, 6, 7] [p3_2, 0] (fr' := [(0, .slice h0.1 a0.length h0.2), (4, .pointer (some ⟨p3_2, 0, none⟩)), (5, .slice h0.1 a0.length h0.2), (6, .int .i64 (a0.length : Int)), (7, .int .i64 s1)]) (bx' := [⟨p3_2, [.int .i64 x3_0.f0, .int .i64 x3_0.f1], 77⟩]) (by kernel_rfl) ?_
   refine O.nil (by kernel_rfl) ?_
   refine J.seq (by kernel_rfl) ?_
   obtain ⟨x4_3, hx4_3, H⟩ := bindE H
   refine J.region (by kernel_rfl) ?_
   refine O.pure 2 [(0, 0)] [0, 5, 6, 7, 12] [p3_2, 0] (fr' := [(0, .slice h0.1 a0.length h0.2), (5, .slice h0.1 a0.length h0.2), (6, .int .i64 (a0.length : Int)), (7, .int .i64 s1), (12, .int .i64 x3_0.f0)]) (bx' := [⟨p3_2, [.int .i64 x3_0.f0, .int .i64 x3_0.f1], 77⟩]) (by kernel_rfl) ?_
   refine O.e (some 13) (Ev.lit (t := 22) (len := 1) (parts := #[(0, .tmp 12)]) (ps := [(0, .int .i64 x3_0.f0)]) (cs := [.int .i64 x3_0.f0]) (e := 3) (Kd.int .i64) ([x3_0.f0] : List Int) (by kernel_rfl) (by kernel_rfl) (by kernel_rfl) (by kernel_rfl) (by kernel_rfl) (by decide) (fun w' hφ => (Els.cons (c := [.int .i64 x3_0.f0]) (rfl) (Els.nil _ _ _)))) (by kernel_rfl) (fun p4_2 => ?_)
   refine O.e (some 14) (Ev.callLb (xs1 := [.const (.int .i64 1), .tmp 13]) [0] (fun w hS => (hS.rowsel [0] rfl (by decide)).freezeL (hh := ((some ⟨p4_2, 0, none⟩, 1) : Hd)) (m := ([x3_0.f0] : List Int).length) (xs := ([x3_0.f0] : List Int)) rfl) (by kernel_rfl) (by kernel_rfl) (fun _ q hq => by cases hq) (fun w hS => mail_fair.con K 1 ([x3_0.f0] : List Int) ((some ⟨p4_2, 0, none⟩, 1) : Hd)  _ _ w hS hx4_3)) (by kernel_rfl) (fun _ => ?_)
   refine O.pure 1 [] [0, 5, 6, 7, 15] [] (fr' := [(0, .slice h0.1 a0.length h0.2), (5, .slice h0.1 a0.length h0.2), (6, .int .i64 (a0.length : Int)), (7, .int .i64 s1), (15, .bool (!x4_3))]) (bx' := [⟨p3_2, [.int .i64 x3_0.f0, .int .i64 x3_0.f1], 77⟩]) (by kernel_rfl) ?_
   refine O.nil (by kernel_rfl) ?_
   rcases condE H with ⟨hc7, H⟩ | ⟨hc7, H⟩
   ·refine J.condT (x := .tmp 15) (t := (!x4_3)) (by kernel_rfl) (by kernel_rfl) hc7 ?_
    refine J.seq (by kernel_rfl) ?_
    refine J.region (by kernel_rfl) ?_
    refine O.pure 1 [] [2] [] (fr' := [(2, .bool false)]) (bx' := [⟨p3_2, [.int .i64 x3_0.f0, .int .i64 x3_0.f1], 77⟩]) (by kernel_rfl) ?_
    refine O.nil (by kernel_rfl) ?_
    obtain rfl := Option.some.inj H
    exact J.doneS [] [] [] [] [] () (vs := [.bool false]) (by kernel_rfl) (by kernel_rfl) (by kernel_rfl) (by kernel_rfl) (by kernel_rfl) (by decide)
   ·refine J.condF (x := .tmp 15) (t := (!x4_3)) (by kernel_rfl) (by kernel_rfl) hc7 ?_
    refine J.skip (by kernel_rfl) ?_
    refine J.out ?_
    refine J.region (by kernel_rfl) ?_
    refine O.pure 2 [] [0, 5, 6, 7] [] (fr' := [(0, .slice h0.1 a0.length h0.2), (5, .slice h0.1 a0.length h0.2), (6, .int .i64 (a0.length : Int)), (7, .int .i64 (IntKind.wrap .i64 (s1 + 1)))]) (bx' := [⟨p3_2, [.int .i64 x3_0.f0, .int .i64 x3_0.f1], 77⟩]) (by kernel_rfl) ?_
    refine O.nil (by kernel_rfl) ?_
    exact J.conv2 [0, 5, 6, 7] [0] [] [] (by kernel_rfl) (by kernel_rfl) (by kernel_rfl) (by kernel_rfl) (by decide) (ih1 (IntKind.wrap .i64 (s1 + 1)) () H)
  ·refine J.condF (x := .tmp 8) (t := (decide (s1 < (a0.length : Int)))) (by kernel_rfl) (by kernel_rfl) hc6 ?_
   refine J.exit (id := 0) (by kernel_rfl) rfl ?_
   refine J.seq (by kernel_rfl) ?_
   refine J.region (by kernel_rfl) ?_
   refine O.pure 4 [] [2] [] (fr' := [(2, .bool (decide ((a0.length : Int) ≤ 24)))]) (bx' := []) (by kernel_rfl) ?_
   refine O.nil (by kernel_rfl) ?_
   obtain rfl := Option.some.inj H
   exact J.doneS [] [] [] [] [] () (vs := [.bool (decide ((a0.length : Int) ≤ 24))]) (by kernel_rfl) (by kernel_rfl) (by kernel_rfl) (by kernel_rfl) (by kernel_rfl) (by decide)
 ·exact J.conv2 [0, 5, 6, 7] [0] [] [] (by kernel_rfl) (by kernel_rfl) (by kernel_rfl) (by kernel_rfl) (by decide) h_
/-! ### haywain/mail.Right: function 11 -/
def mail_Right.f (K : Nat) (a0 : S29) : Option Bool := cond (decide (a0.f0 ≥ 1)) (cond (decide (a0.f0 ≤ 11)) ((mail_fair.f K 9 ([a0.f1, a0.f2, a0.f3, a0.f4, a0.f5, a0.f6, a0.f7, a0.f11.f0, a0.f11.f1] : List Int)).bind fun x1_30 => cond x1_30 ((mail_fair.f K 6 a0.f8).bind fun x1_35 => cond x1_35 ((mail_fair.f K 5 a0.f9).bind fun x1_40 => cond x1_40 ((mail_fair.f K (a0.f9.length : Int) a0.f10).bind fun x1_48 => cond x1_48 (cond ((a0.f10.length : Int) == (a0.f9.length : Int)) (cond (decide ((a0.f11.f2.length : Int) ≤ 24)) (cond ((a0.f11.f3.length : Int) == (a0.f11.f2.length : Int)) ((mail_sent.f K a0.f11.f4).bind fun x1_81 => cond x1_81 ((mail_sent.f K a0.f12).bind fun x1_86 => some (x1_86)) (some (false))) (some (false))) (some (false))) (some (false))) (some (false))) (some (false))) (some (false))) (some (false))) (some (false))) (some (false))
set_option maxRecDepth 100000 in
set_option maxHeartbeats 1000000 in
theorem mail_Right.con (K : Nat) (a0 : S29) (h0 : Hd) (h1 : Hd) (h2 : Hd) (h3 : Hd) (h4 : Hd) (h5 : Hd) (h6 : Hd) (r : Bool) (X : Nat → Nat → Prop) (w : World) (hS : St X w [] [] [] [] [Rd (Kd.int .i64) h0.1 h0.2 a0.f8, Rd (Kd.int .i64) h1.1 h1.2 a0.f9, Rd (Kd.int .i64) h2.1 h2.2 a0.f10, Rd (Kd.int .i64) h3.1 h3.2 a0.f11.f2, Rd Kd.bool h4.1 h4.2 a0.f11.f3, Rd kd77 h5.1 h5.2 a0.f11.f4, Rd kd77 h6.1 h6.2 a0.f12] w) (H : mail_Right.f K a0 = some r) :
    Cn Try.prog 11 [.agg #[.int .i64 a0.f0, .int .i64 a0.f1, .int .i64 a0.f2, .int .i64 a0.f3, .int .i64 a0.f4, .int .i64 a0.f5, .int .i64 a0.f6, .int .i64 a0.f7, .slice h0.1 a0.f8.length h0.2, .slice h1.1 a0.f9.length h1.2, .slice h2.1 a0.f10.length h2.2, .int .i64 a0.f11.f0, .int .i64 a0.f11.f1, .slice h3.1 a0.f11.f2.length h3.2, .slice h4.1 a0.f11.f3.length h4.2, .slice h5.1 a0.f11.f4.length h5.2, .slice h6.1 a0.f12.length h6.2]] X w [] (fun i : Unit => .bool r) (fun i => []) (fun i => []) (fun i => []) := by
 refine Cn.of Try.func11 (by kernel_rfl) hS ?_
 unfold mail_Right.f at H
 refine J.seq (by kernel_rfl) ?_
 refine J.region (by kernel_rfl) ?_
 refine O.e (some 1) (Ev.box (t := 29) (x := .tmp 0) (v := .agg #[.int .i64 a0.f0, .int .i64 a0.f1, .int .i64 a0.f2, .int .i64 a0.f3, .int .i64 a0.f4, .int .i64 a0.f5, .int .i64 a0.f6, .int .i64 a0.f7, .slice h0.1 a0.f8.length h0.2, .slice h1.1 a0.f9.length h1.2, .slice h2.1 a0.f10.length h2.2, .int .i64 a0.f11.f0, .int .i64 a0.f11.f1, .slice h3.1 a0.f11.f2.length h3.2, .slice h4.1 a0.f11.f3.length h4.2, .slice h5.1 a0.f11.f4.length h5.2, .slice h6.1 a0.f12.length h6.2]) (by kernel_rfl) (by kernel_rfl)) (by kernel_rfl) (fun p0_0 => ?_)
 refine O.pure 1 [] [1] [] (fr' := [(1, .pointer (some ⟨p0_0, 0, none⟩))]) (bx' := [⟨p0_0, [.int .i64 a0.f0, .int .i64 a0.f1, .int .i64 a0.f2, .int .i64 a0.f3, .int .i64 a0.f4, .int .i64 a0.f5, .int .i64 a0.f6, .int .i64 a0.f7, .slice h0.1 a0.f8.length h0.2, .slice h1.1 a0.f9.length h1.2, .slice h2.1 a0.f10.length h2.2, .int .i64 a0.f11.f0, .int .i64 a0.f11.f1, .slice h3.1 a0.f11.f2.length h3.2, .slice h4.1 a0.f11.f3.length h4.2, .slice h5.1 a0.f11.f4.length h5.2, .slice h6.1 a0.f12.length h6.2], 29⟩]) (by kernel_rfl) ?_
 refine O.nil (by kernel_rfl) ?_
 refine J.seq (by kernel_rfl) ?_
 rcases condE H with ⟨hc1, H⟩ | ⟨hc1, H⟩
 ·rcases condE H with ⟨hc2, H⟩ | ⟨hc2, H⟩
  ·obtain ⟨x1_30, hx1_30, H⟩ := bindE H
   rcases condE H with ⟨hc3, H⟩ | ⟨hc3, H⟩
   ·obtain ⟨x1_35, hx1_35, H⟩ := bindE H
    rcases condE H with ⟨hc4, H⟩ | ⟨hc4, H⟩
    ·obtain ⟨x1_40, hx1_40, H⟩ := bindE H
     rcases condE H with ⟨hc5, H⟩ | ⟨hc5, H⟩
     ·obtain ⟨x1_48, hx1_48, H⟩ := bindE H
      rcases condE H with ⟨hc6, H⟩ | ⟨hc6, H⟩
      ·rcases condE H with ⟨hc7, H⟩ | ⟨hc7, H⟩
       ·rcases condE H with ⟨hc8, H⟩ | ⟨hc8, H⟩
        ·rcases condE H with ⟨hc9, H⟩ | ⟨hc9, H⟩
         ·obtain ⟨x1_81, hx1_81, H⟩ := bindE H
          rcases condE H with ⟨hc10, H⟩ | ⟨hc10, H⟩
          ·obtain ⟨x1_86, hx1_86, H⟩ := bindE H
           refine J.region (by kernel_rfl) ?_
           refine O.pure 2 [(0, 0)] [1, 4] [p0_0, 0] (fr' := [(1, .pointer (some ⟨p0_0, 0, none⟩)), (4, .int .i64 a0.f0)]) (bx' := [⟨p0_0, [.int .i64 a0.f0, .int .i64 a0.f1, .int .i64 a0.f2, .int .i64 a0.f3, .int .i64 a0.f4, .int .i64 a0.f5, .int .i64 a0.f6, .int .i64 a0.f7, .slice h0.1 a0.f8.length h0.2, .slice h1.1 a0.f9.length h1.2, .slice h2.1 a0.f10.length h2.2, .int .i64 a0.f11.f0, .int .i64 a0.f11.f1, .slice h3.1 a0.f11.f2.length h3.2, .slice h4.1 a0.f11.f3.length h4.2, .slice h5.1 a0.f11.f4.length h5.2, .slice h6.1 a0.f12.length h6.2], 29⟩]) (by kernel_rfl) ?_
           refine O.q (v := .bool true) (some 5) (Qu.eqv (u := .bool (decide (a0.f0 ≥ 1))) (v := .bool true) (0, 0) [] (by kernel_rfl) (congrArg Value.bool hc1)) (by kernel_rfl) ?_
           refine O.pure 3 [(0, 0)] [1, 6, 8] [p0_0, 0] (fr' := [(1, .pointer (some ⟨p0_0, 0, none⟩)), (6, .bool true), (8, .int .i64 a0.f0)]) (bx' := [⟨p0_0, [.int .i64 a0.f0, .int .i64 a0.f1, .int .i64 a0.f2, .int .i64 a0.f3, .int .i64 a0.f4, .int .i64 a0.f5, .int .i64 a0.f6, .int .i64 a0.f7, .slice h0.1 a0.f8.length h0.2, .slice h1.1 a0.f9.length h1.2, .slice h2.1 a0.f10.length h2.2, .int .i64 a0.f11.f0, .int .i64 a0.f11.f1, .slice h3.1 a0.f11.f2.length h3.2, .slice h4.1 a0.f11.f3.length h4.2, .slice h5.1 a0.f11.f4.length h5.2, .slice h6.1 a0.f12.length h6.2], 29⟩]) (by kernel_rfl) ?_
           refine O.q (v := .bool true) (some 9) (Qu.eqv (u := .bool (decide (a0.f0 ≤ 11))) (v := .bool true) (0, 0) [] (by kernel_rfl) (congrArg Value.bool hc2)) (by kernel_rfl) ?_
           refine O.pure 22 [(0, 1), (0, 2), (0, 3), (0, 4), (0, 5), (0, 6), (0, 7), (0, 11), (0, 12)] [1, 11, 13, 15, 17, 19, 21, 23, 25, 28, 31] [p0_0, 1, p0_0, 2, p0_0, 3, p0_0, 4, p0_0, 5, p0_0, 6, p0_0, 7, p0_0, 11, p0_0, 12] (fr' := [(1, .pointer (some ⟨p0_0, 0, none⟩)), (11, .bool true), (13, .int .i64 a0.f1), (15, .int .i64 a0.f2), (17, .int .i64 a0.f3), (19, .int .i64 a0.f4), (21, .int .i64 a0.f5), (23, .int .i64 a0.f6), (25, .int .i64 a0.f7), (28, .int .i64 a0.f11.f0), (31, .int .i64 a0.f11.f1)]) (bx' := [⟨p0_0, [.int .i64 a0.f0, .int .i64 a0.f1, .int .i64 a0.f2, .int .i64 a0.f3, .int .i64 a0.f4, .int .i64 a0.f5, .int .i64 a0.f6, .int .i64 a0.f7, .slice h0.1 a0.f8.length h0.2, .slice h1.1 a0.f9.length h1.2, .slice h2.1 a0.f10.length h2.2, .int .i64 a0.f11.f0, .int .i64 a0.f11.f1, .slice h3.1 a0.f11.f2.length h3.2, .slice h4.1 a0.f11.f3.length h4.2, .slice h5.1 a0.f11.f4.length h5.2, .slice h6.1 a0.f12.length h6.2], 29⟩]) (by kernel_rfl) ?_
           refine O.e (some 32) (Ev.lit (t := 22) (len := 9) (parts := #[(0, .tmp 13), (1, .tmp 15), (2, .tmp 17), (3, .tmp 19), (4, .tmp 21), (5, .tmp 23), (6, .tmp 25), (7, .tmp 28), (8, .tmp 31)]) (ps := [(0, .int .i64 a0.f1), (1, .int .i64 a0.f2), (2, .int .i64 a0.f3), (3, .int .i64 a0.f4), (4, .int .i64 a0.f5), (5, .int .i64 a0.f6), (6, .int .i64 a0.f7), (7, .int .i64 a0.f11.f0), (8, .int .i64 a0.f11.f1)]) (cs := [.int .i64 a0.f1, .int .i64 a0.f2, .int .i64 a0.f3, .int .i64 a0.f4, .int .i64 a0.f5, .int .i64 a0.f6, .int .i64 a0.f7, .int .i64 a0.f11.f0, .int .i64 a0.f11.f1]) (e := 3) (Kd.int .i64) ([a0.f1, a0.f2, a0.f3, a0.f4, a0.f5, a0.f6, a0.f7, a0.f11.f0, a0.f11.f1] : List Int) (by kernel_rfl) (by kernel_rfl) (by kernel_rfl) (by kernel_rfl) (by kernel_rfl) (by decide) (fun w' hφ => (Els.cons (c := [.int .i64 a0.f1]) (rfl) (Els.cons (c := [.int .i64 a0.f2]) (rfl) (Els.cons (c := [.int .i64 a0.f3]) (rfl) (Els.cons (c := [.int .i64 a0.f4]) (rfl) (Els.cons (c := [.int .i64 a0.f5]) (rfl) (Els.cons (c := [.int .i64 a0.f6]) (rfl) (Els.cons (c := [.int .i64 a0.f7]) (rfl) (Els.cons (c := [.int .i64 a0.f11.f0]) (rfl) (Els.cons (c := [.int .i64 a0.f11.f1]) (rfl) (Els.nil _ _ _)))))))))))) (by kernel_rfl) (fun p1_29 => ?_)
           refine O.e (some 33) (Ev.callLb (xs1 := [.const (.int .i64 9), .tmp 32]) [0] (fun w hS => (hS.rowsel [0] rfl (by decide)).freezeL (hh := ((some ⟨p1_29, 0, none⟩, 9) : Hd)) (m := ([a0.f1, a0.f2, a0.f3, a0.f4, a0.f5, a0.f6, a0.f7, a0.f11.f0, a0.f11.f1] : List Int).length) (xs := ([a0.f1, a0.f2, a0.f3, a0.f4, a0.f5, a0.f6, a0.f7, a0.f11.f0, a0.f11.f1] : List Int)) rfl) (by kernel_rfl) (by kernel_rfl) (fun _ q hq => by cases hq) (fun w hS => mail_fair.con K 9 ([a0.f1, a0.f2, a0.f3, a0.f4, a0.f5, a0.f6, a0.f7, a0.f11.f0, a0.f11.f1] : List Int) ((some ⟨p1_29, 0, none⟩, 9) : Hd)  _ _ w hS hx1_30)) (by kernel_rfl) (fun _ => ?_)
           refine O.q (v := .bool true) (some 34) (Qu.eqv (u := .bool x1_30) (v := .bool true) (0, 0) [] (by kernel_rfl) (congrArg Value.bool hc3)) (by kernel_rfl) ?_
           refine O.pure 3 [(0, 8)] [1, 35, 37] [p0_0, 8] (fr' := [(1, .pointer (some ⟨p0_0, 0, none⟩)), (35, .bool true), (37, .slice h0.1 a0.f8.length h0.2)]) (bx' := [⟨p0_0, [.int .i64 a0.f0, .int .i64 a0.f1, .int .i64 a0.f2, .int .i64 a0.f3, .int .i64 a0.f4, .int .i64 a0.f5, .int .i64 a0.f6, .int .i64 a0.f7, .slice h0.1 a0.f8.length h0.2, .slice h1.1 a0.f9.length h1.2, .slice h2.1 a0.f10.length h2.2, .int .i64 a0.f11.f0, .int .i64 a0.f11.f1, .slice h3.1 a0.f11.f2.length h3.2, .slice h4.1 a0.f11.f3.length h4.2, .slice h5.1 a0.f11.f4.length h5.2, .slice h6.1 a0.f12.length h6.2], 29⟩]) (by kernel_rfl) ?_
           refine O.e (some 38) (Ev.call0 (xs := [.const (.int .i64 6), .tmp 37]) [0] (by kernel_rfl) (by kernel_rfl) (fun w hS => mail_fair.con K 6 a0.f8 h0  _ _ w hS hx1_35)) (by kernel_rfl) (fun _ => ?_)
           refine O.q (v := .bool true) (some 39) (Qu.eqv (u := .bool x1_35) (v := .bool true) (0, 0) [] (by kernel_rfl) (congrArg Value.bool hc4)) (by kernel_rfl) ?_
           refine O.pure 3 [(0, 9)] [1, 40, 42] [p0_0, 9] (fr' := [(1, .pointer (some ⟨p0_0, 0, none⟩)), (40, .bool true), (42, .slice h1.1 a0.f9.length h1.2)]) (bx' := [⟨p0_0, [.int .i64 a0.f0, .int .i64 a0.f1, .int .i64 a0.f2, .int .i64 a0.f3, .int .i64 a0.f4, .int .i64 a0.f5, .int .i64 a0.f6, .int .i64 a0.f7, .slice h0.1 a0.f8.length h0.2, .slice h1.1 a0.f9.length h1.2, .slice h2.1 a0.f10.length h2.2, .int .i64 a0.f11.f0, .int .i64 a0.f11.f1, .slice h3.1 a0.f11.f2.length h3.2, .slice h4.1 a0.f11.f3.length h4.2, .slice h5.1 a0.f11.f4.length h5.2, .slice h6.1 a0.f12.length h6.2], 29⟩]) (by kernel_rfl) ?_
           refine O.e (some 43) (Ev.call0 (xs := [.const (.int .i64 5), .tmp 42]) [1] (by kernel_rfl) (by kernel_rfl) (fun w hS => mail_fair.con K 5 a0.f9 h1  _ _ w hS hx1_40)) (by kernel_rfl) (fun _ => ?_)
           refine O.q (v := .bool true) (some 44) (Qu.eqv (u := .bool x1_40) (v := .bool true) (0, 0) [] (by kernel_rfl) (congrArg Value.bool hc5)) (by kernel_rfl) ?_
           refine O.pure 6 [(0, 9), (0, 10)] [1, 45, 48, 50] [p0_0, 9, p0_0, 10] (fr' := [(1, .pointer (some ⟨p0_0, 0, none⟩)), (45, .bool true), (48, .int .i64 (a0.f9.length : Int)), (50, .slice h2.1 a0.f10.length h2.2)]) (bx' := [⟨p0_0, [.int .i64 a0.f0, .int .i64 a0.f1, .int .i64 a0.f2, .int .i64 a0.f3, .int .i64 a0.f4, .int .i64 a0.f5, .int .i64 a0.f6, .int .i64 a0.f7, .slice h0.1 a0.f8.length h0.2, .slice h1.1 a0.f9.length h1.2, .slice h2.1 a0.f10.length h2.2, .int .i64 a0.f11.f0, .int .i64 a0.f11.f1, .slice h3.1 a0.f11.f2.length h3.2, .slice h4.1 a0.f11.f3.length h4.2, .slice h5.1 a0.f11.f4.length h5.2, .slice h6.1 a0.f12.length h6.2], 29⟩]) (by kernel_rfl) ?_
           refine O.e (some 51) (Ev.call0 (xs := [.tmp 48, .tmp 50]) [2] (by kernel_rfl) (by kernel_rfl) (fun w hS => mail_fair.con K (a0.f9.length : Int) a0.f10 h2  _ _ w hS hx1_48)) (by kernel_rfl) (fun _ => ?_)
           refine O.q (v := .bool true) (some 52) (Qu.eqv (u := .bool x1_48) (v := .bool true) (0, 0) [] (by kernel_rfl) (congrArg Value.bool hc6)) (by kernel_rfl) ?_
           refine O.pure 7 [(0, 10), (0, 9)] [1, 53, 56, 59] [p0_0, 10, p0_0, 9] (fr' := [(1, .pointer (some ⟨p0_0, 0, none⟩)), (53, .bool true), (56, .int .i64 (a0.f10.length : Int)), (59, .int .i64 (a0.f9.length : Int))]) (bx' := [⟨p0_0, [.int .i64 a0.f0, .int .i64 a0.f1, .int .i64 a0.f2, .int .i64 a0.f3, .int .i64 a0.f4, .int .i64 a0.f5, .int .i64 a0.f6, .int .i64 a0.f7, .slice h0.1 a0.f8.length h0.2, .slice h1.1 a0.f9.length h1.2, .slice h2.1 a0.f10.length h2.2, .int .i64 a0.f11.f0, .int .i64 a0.f11.f1, .slice h3.1 a0.f11.f2.length h3.2, .slice h4.1 a0.f11.f3.length h4.2, .slice h5.1 a0.f11.f4.length h5.2, .slice h6.1 a0.f12.length h6.2], 29⟩]) (by kernel_rfl) ?_
           refine O.q (v := .bool true) (some 60) (Qu.eqv (u := .bool ((a0.f10.length : Int) == (a0.f9.length : Int))) (v := .bool true) (0, 0) [] (by kernel_rfl) (congrArg Value.bool hc7)) (by kernel_rfl) ?_
           refine O.pure 6 [(0, 13)] [1, 62, 66] [p0_0, 13] (fr' := [(1, .pointer (some ⟨p0_0, 0, none⟩)), (62, .bool true), (66, .int .i64 (a0.f11.f2.length : Int))]) (bx' := [⟨p0_0, [.int .i64 a0.f0, .int .i64 a0.f1, .int .i64 a0.f2, .int .i64 a0.f3, .int .i64 a0.f4, .int .i64 a0.f5, .int .i64 a0.f6, .int .i64 a0.f7, .slice h0.1 a0.f8.length h0.2, .slice h1.1 a0.f9.length h1.2, .slice h2.1 a0.f10.length h2.2, .int .i64 a0.f11.f0, .int .i64 a0.f11.f1, .slice h3.1 a0.f11.f2.length h3.2, .slice h4.1 a0.f11.f3.length h4.2, .slice h5.1 a0.f11.f4.length h5.2, .slice h6.1 a0.f12.length h6.2], 29⟩]) (by kernel_rfl) ?_
           refine O.q (v := .bool true) (some 67) (Qu.eqv (u := .bool (decide ((a0.f11.f2.length : Int) ≤ 24))) (v := .bool true) (0, 0) [] (by kernel_rfl) (congrArg Value.bool hc8)) (by kernel_rfl) ?_
           refine O.pure 10 [(0, 14), (0, 13)] [1, 69, 73, 77] [p0_0, 14, p0_0, 13] (fr' := [(1, .pointer (some ⟨p0_0, 0, none⟩)), (69, .bool true), (73, .int .i64 (a0.f11.f3.length : Int)), (77, .int .i64 (a0.f11.f2.length : Int))]) (bx' := [⟨p0_0, [.int .i64 a0.f0, .int .i64 a0.f1, .int .i64 a0.f2, .int .i64 a0.f3, .int .i64 a0.f4, .int .i64 a0.f5, .int .i64 a0.f6, .int .i64 a0.f7, .slice h0.1 a0.f8.length h0.2, .slice h1.1 a0.f9.length h1.2, .slice h2.1 a0.f10.length h2.2, .int .i64 a0.f11.f0, .int .i64 a0.f11.f1, .slice h3.1 a0.f11.f2.length h3.2, .slice h4.1 a0.f11.f3.length h4.2, .slice h5.1 a0.f11.f4.length h5.2, .slice h6.1 a0.f12.length h6.2], 29⟩]) (by kernel_rfl) ?_
           refine O.q (v := .bool true) (some 78) (Qu.eqv (u := .bool ((a0.f11.f3.length : Int) == (a0.f11.f2.length : Int))) (v := .bool true) (0, 0) [] (by kernel_rfl) (congrArg Value.bool hc9)) (by kernel_rfl) ?_
           refine O.pure 5 [(0, 15)] [1, 80, 83] [p0_0, 15] (fr' := [(1, .pointer (some ⟨p0_0, 0, none⟩)), (80, .bool true), (83, .slice h5.1 a0.f11.f4.length h5.2)]) (bx' := [⟨p0_0, [.int .i64 a0.f0, .int .i64 a0.f1, .int .i64 a0.f2, .int .i64 a0.f3, .int .i64 a0.f4, .int .i64 a0.f5, .int .i64 a0.f6, .int .i64 a0.f7, .slice h0.1 a0.f8.length h0.2, .slice h1.1 a0.f9.length h1.2, .slice h2.1 a0.f10.length h2.2, .int .i64 a0.f11.f0, .int .i64 a0.f11.f1, .slice h3.1 a0.f11.f2.length h3.2, .slice h4.1 a0.f11.f3.length h4.2, .slice h5.1 a0.f11.f4.length h5.2, .slice h6.1 a0.f12.length h6.2], 29⟩]) (by kernel_rfl) ?_
           refine O.e (some 84) (Ev.call0 (xs := [.tmp 83]) [5] (by kernel_rfl) (by kernel_rfl) (fun w hS => mail_sent.con K a0.f11.f4 h5  _ _ w hS hx1_81)) (by kernel_rfl) (fun _ => ?_)
           refine O.q (v := .bool true) (some 85) (Qu.eqv (u := .bool x1_81) (v := .bool true) (0, 0) [] (by kernel_rfl) (congrArg Value.bool hc10)) (by kernel_rfl) ?_
           refine O.pure 3 [(0, 16)] [86, 88] [p0_0, 16] (fr' := [(86, .bool true), (88, .slice h6.1 a0.f12.length h6.2)]) (bx' := [⟨p0_0, [.int .i64 a0.f0, .int .i64 a0.f1, .int .i64 a0.f2, .int .i64 a0.f3, .int .i64 a0.f4, .int .i64 a0.f5, .int .i64 a0.f6, .int .i64 a0.f7, .slice h0.1 a0.f8.length h0.2, .slice h1.1 a0.f9.length h1.2, .slice h2.1 a0.f10.length h2.2, .int .i64 a0.f11.f0, .int .i64 a0.f11.f1, .slice h3.1 a0.f11.f2.length h3.2, .slice h4.1 a0.f11.f3.length h4.2, .slice h5.1 a0.f11.f4.length h5.2, .slice h6.1 a0.f12.length h6.2], 29⟩]) (by kernel_rfl) ?_
           refine O.e (some 89) (Ev.call0 (xs := [.tmp 88]) [6] (by kernel_rfl) (by kernel_rfl) (fun w hS => mail_sent.con K a0.f12 h6  _ _ w hS hx1_86)) (by kernel_rfl) (fun _ => ?_)
           refine O.pure 2 [] [2] [] (fr' := [(2, .bool x1_86)]) (bx' := [⟨p0_0, [.int .i64 a0.f0, .int .i64 a0.f1, .int .i64 a0.f2, .int .i64 a0.f3, .int .i64 a0.f4, .int .i64 a0.f5, .int .i64 a0.f6, .int .i64 a0.f7, .slice h0.1 a0.f8.length h0.2, .slice h1.1 a0.f9.length h1.2, .slice h2.1 a0.f10.length h2.2, .int .i64 a0.f11.f0, .int .i64 a0.f11.f1, .slice h3.1 a0.f11.f2.length h3.2, .slice h4.1 a0.f11.f3.length h4.2, .slice h5.1 a0.f11.f4.length h5.2, .slice h6.1 a0.f12.length h6.2], 29⟩]) (by kernel_rfl) ?_
           refine O.nil (by kernel_rfl) ?_
           obtain rfl := Option.some.inj H
           exact J.doneS [] [] [] [] [] () (vs := [.bool x1_86]) (by kernel_rfl) (by kernel_rfl) (by kernel_rfl) (by kernel_rfl) (by kernel_rfl) (by decide)
          ·refine J.region (by kernel_rfl) ?_
           refine O.pure 2 [(0, 0)] [1, 4] [p0_0, 0] (fr' := [(1, .pointer (some ⟨p0_0, 0, none⟩)), (4, .int .i64 a0.f0)]) (bx' := [⟨p0_0, [.int .i64 a0.f0, .int .i64 a0.f1, .int .i64 a0.f2, .int .i64 a0.f3, .int .i64 a0.f4, .int .i64 a0.f5, .int .i64 a0.f6, .int .i64 a0.f7, .slice h0.1 a0.f8.length h0.2, .slice h1.1 a0.f9.length h1.2, .slice h2.1 a0.f10.length h2.2, .int .i64 a0.f11.f0, .int .i64 a0.f11.f1, .slice h3.1 a0.f11.f2.length h3.2, .slice h4.1 a0.f11.f3.length h4.2, .slice h5.1 a0.f11.f4.length h5.2, .slice h6.1 a0.f12.length h6.2], 29⟩]) (by kernel_rfl) ?_
           refine O.q (v := .bool true) (some 5) (Qu.eqv (u := .bool (decide (a0.f0 ≥ 1))) (v := .bool true) (0, 0) [] (by kernel_rfl) (congrArg Value.bool hc1)) (by kernel_rfl) ?_
           refine O.pure 3 [(0, 0)] [1, 6, 8] [p0_0, 0] (fr' := [(1, .pointer (some ⟨p0_0, 0, none⟩)), (6, .bool true), (8, .int .i64 a0.f0)]) (bx' := [⟨p0_0, [.int .i64 a0.f0, .int .i64 a0.f1, .int .i64 a0.f2, .int .i64 a0.f3, .int .i64 a0.f4, .int .i64 a0.f5, .int .i64 a0.f6, .int .i64 a0.f7, .slice h0.1 a0.f8.length h0.2, .slice h1.1 a0.f9.length h1.2, .slice h2.1 a0.f10.length h2.2, .int .i64 a0.f11.f0, .int .i64 a0.f11.f1, .slice h3.1 a0.f11.f2.length h3.2, .slice h4.1 a0.f11.f3.length h4.2, .slice h5.1 a0.f11.f4.length h5.2, .slice h6.1 a0.f12.length h6.2], 29⟩]) (by kernel_rfl) ?_
           refine O.q (v := .bool true) (some 9) (Qu.eqv (u := .bool (decide (a0.f0 ≤ 11))) (v := .bool true) (0, 0) [] (by kernel_rfl) (congrArg Value.bool hc2)) (by kernel_rfl) ?_
           refine O.pure 22 [(0, 1), (0, 2), (0, 3), (0, 4), (0, 5), (0, 6), (0, 7), (0, 11), (0, 12)] [1, 11, 13, 15, 17, 19, 21, 23, 25, 28, 31] [p0_0, 1, p0_0, 2, p0_0, 3, p0_0, 4, p0_0, 5, p0_0, 6, p0_0, 7, p0_0, 11, p0_0, 12] (fr' := [(1, .pointer (some ⟨p0_0, 0, none⟩)), (11, .bool true), (13, .int .i64 a0.f1), (15, .int .i64 a0.f2), (17, .int .i64 a0.f3), (19, .int .i64 a0.f4), (21, .int .i64 a0.f5), (23, .int .i64 a0.f6), (25, .int .i64 a0.f7), (28, .int .i64 a0.f11.f0), (31, .int .i64 a0.f11.f1)]) (bx' := [⟨p0_0, [.int .i64 a0.f0, .int .i64 a0.f1, .int .i64 a0.f2, .int .i64 a0.f3, .int .i64 a0.f4, .int .i64 a0.f5, .int .i64 a0.f6, .int .i64 a0.f7, .slice h0.1 a0.f8.length h0.2, .slice h1.1 a0.f9.length h1.2, .slice h2.1 a0.f10.length h2.2, .int .i64 a0.f11.f0, .int .i64 a0.f11.f1, .slice h3.1 a0.f11.f2.length h3.2, .slice h4.1 a0.f11.f3.length h4.2, .slice h5.1 a0.f11.f4.length h5.2, .slice h6.1 a0.f12.length h6.2], 29⟩]) (by kernel_rfl) ?_
           refine O.e (some 32) (Ev.lit (t := 22) (len := 9) (parts := #[(0, .tmp 13), (1, .tmp 15), (2, .tmp 17), (3, .tmp 19), (4, .tmp 21), (5, .tmp 23), (6, .tmp 25), (7, .tmp 28), (8, .tmp 31)]) (ps := [(0, .int .i64 a0.f1), (1, .int .i64 a0.f2), (2, .int .i64 a0.f3), (3, .int .i64 a0.f4), (4, .int .i64 a0.f5), (5, .int .i64 a0.f6), (6, .int .i64 a0.f7), (7, .int .i64 a0.f11.f0), (8, .int .i64 a0.f11.f1)]) (cs := [.int .i64 a0.f1, .int .i64 a0.f2, .int .i64 a0.f3, .int .i64 a0.f4, .int .i64 a0.f5, .int .i64 a0.f6, .int .i64 a0.f7, .int .i64 a0.f11.f0, .int .i64 a0.f11.f1]) (e := 3) (Kd.int .i64) ([a0.f1, a0.f2, a0.f3, a0.f4, a0.f5, a0.f6, a0.f7, a0.f11.f0, a0.f11.f1] : List Int) (by kernel_rfl) (by kernel_rfl) (by kernel_rfl) (by kernel_rfl) (by kernel_rfl) (by decide) (fun w' hφ => (Els.cons (c := [.int .i64 a0.f1]) (rfl) (Els.cons (c := [.int .i64 a0.f2]) (rfl) (Els.cons (c := [.int .i64 a0.f3]) (rfl) (Els.cons (c := [.int .i64 a0.f4]) (rfl) (Els.cons (c := [.int .i64 a0.f5]) (rfl) (Els.cons (c := [.int .i64 a0.f6]) (rfl) (Els.cons (c := [.int .i64 a0.f7]) (rfl) (Els.cons (c := [.int .i64 a0.f11.f0]) (rfl) (Els.cons (c := [.int .i64 a0.f11.f1]) (rfl) (Els.nil _ _ _)))))))))))) (by kernel_rfl) (fun p1_29 => ?_)
           refine O.e (some 33) (Ev.callLb (xs1 := [.const (.int .i64 9), .tmp 32]) [0] (fun w hS => (hS.rowsel [0] rfl (by decide)).freezeL (hh := ((some ⟨p1_29, 0, none⟩, 9) : Hd)) (m := ([a0.f1, a0.f2, a0.f3, a0.f4, a0.f5, a0.f6, a0.f7, a0.f11.f0, a0.f11.f1] : List Int).length) (xs := ([a0.f1, a0.f2, a0.f3, a0.f4, a0.f5, a0.f6, a0.f7, a0.f11.f0, a0.f11.f1] : List Int)) rfl) (by kernel_rfl) (by kernel_rfl) (fun _ q hq => by cases hq) (fun w hS => mail_fair.con K 9 ([a0.f1, a0.f2, a0.f3, a0.f4, a0.f5, a0.f6, a0.f7, a0.f11.f0, a0.f11.f1] : List Int) ((some ⟨p1_29, 0, none⟩, 9) : Hd)  _ _ w hS hx1_30)) (by kernel_rfl) (fun _ => ?_)
           refine O.q (v := .bool true) (some 34) (Qu.eqv (u := .bool x1_30) (v := .bool true) (0, 0) [] (by kernel_rfl) (congrArg Value.bool hc3)) (by kernel_rfl) ?_
           refine O.pure 3 [(0, 8)] [1, 35, 37] [p0_0, 8] (fr' := [(1, .pointer (some ⟨p0_0, 0, none⟩)), (35, .bool true), (37, .slice h0.1 a0.f8.length h0.2)]) (bx' := [⟨p0_0, [.int .i64 a0.f0, .int .i64 a0.f1, .int .i64 a0.f2, .int .i64 a0.f3, .int .i64 a0.f4, .int .i64 a0.f5, .int .i64 a0.f6, .int .i64 a0.f7, .slice h0.1 a0.f8.length h0.2, .slice h1.1 a0.f9.length h1.2, .slice h2.1 a0.f10.length h2.2, .int .i64 a0.f11.f0, .int .i64 a0.f11.f1, .slice h3.1 a0.f11.f2.length h3.2, .slice h4.1 a0.f11.f3.length h4.2, .slice h5.1 a0.f11.f4.length h5.2, .slice h6.1 a0.f12.length h6.2], 29⟩]) (by kernel_rfl) ?_
           refine O.e (some 38) (Ev.call0 (xs := [.const (.int .i64 6), .tmp 37]) [0] (by kernel_rfl) (by kernel_rfl) (fun w hS => mail_fair.con K 6 a0.f8 h0  _ _ w hS hx1_35)) (by kernel_rfl) (fun _ => ?_)
           refine O.q (v := .bool true) (some 39) (Qu.eqv (u := .bool x1_35) (v := .bool true) (0, 0) [] (by kernel_rfl) (congrArg Value.bool hc4)) (by kernel_rfl) ?_
           refine O.pure 3 [(0, 9)] [1, 40, 42] [p0_0, 9] (fr' := [(1, .pointer (some ⟨p0_0, 0, none⟩)), (40, .bool true), (42, .slice h1.1 a0.f9.length h1.2)]) (bx' := [⟨p0_0, [.int .i64 a0.f0, .int .i64 a0.f1, .int .i64 a0.f2, .int .i64 a0.f3, .int .i64 a0.f4, .int .i64 a0.f5, .int .i64 a0.f6, .int .i64 a0.f7, .slice h0.1 a0.f8.length h0.2, .slice h1.1 a0.f9.length h1.2, .slice h2.1 a0.f10.length h2.2, .int .i64 a0.f11.f0, .int .i64 a0.f11.f1, .slice h3.1 a0.f11.f2.length h3.2, .slice h4.1 a0.f11.f3.length h4.2, .slice h5.1 a0.f11.f4.length h5.2, .slice h6.1 a0.f12.length h6.2], 29⟩]) (by kernel_rfl) ?_
           refine O.e (some 43) (Ev.call0 (xs := [.const (.int .i64 5), .tmp 42]) [1] (by kernel_rfl) (by kernel_rfl) (fun w hS => mail_fair.con K 5 a0.f9 h1  _ _ w hS hx1_40)) (by kernel_rfl) (fun _ => ?_)
           refine O.q (v := .bool true) (some 44) (Qu.eqv (u := .bool x1_40) (v := .bool true) (0, 0) [] (by kernel_rfl) (congrArg Value.bool hc5)) (by kernel_rfl) ?_
           refine O.pure 6 [(0, 9), (0, 10)] [1, 45, 48, 50] [p0_0, 9, p0_0, 10] (fr' := [(1, .pointer (some ⟨p0_0, 0, none⟩)), (45, .bool true), (48, .int .i64 (a0.f9.length : Int)), (50, .slice h2.1 a0.f10.length h2.2)]) (bx' := [⟨p0_0, [.int .i64 a0.f0, .int .i64 a0.f1, .int .i64 a0.f2, .int .i64 a0.f3, .int .i64 a0.f4, .int .i64 a0.f5, .int .i64 a0.f6, .int .i64 a0.f7, .slice h0.1 a0.f8.length h0.2, .slice h1.1 a0.f9.length h1.2, .slice h2.1 a0.f10.length h2.2, .int .i64 a0.f11.f0, .int .i64 a0.f11.f1, .slice h3.1 a0.f11.f2.length h3.2, .slice h4.1 a0.f11.f3.length h4.2, .slice h5.1 a0.f11.f4.length h5.2, .slice h6.1 a0.f12.length h6.2], 29⟩]) (by kernel_rfl) ?_
           refine O.e (some 51) (Ev.call0 (xs := [.tmp 48, .tmp 50]) [2] (by kernel_rfl) (by kernel_rfl) (fun w hS => mail_fair.con K (a0.f9.length : Int) a0.f10 h2  _ _ w hS hx1_48)) (by kernel_rfl) (fun _ => ?_)
           refine O.q (v := .bool true) (some 52) (Qu.eqv (u := .bool x1_48) (v := .bool true) (0, 0) [] (by kernel_rfl) (congrArg Value.bool hc6)) (by kernel_rfl) ?_
           refine O.pure 7 [(0, 10), (0, 9)] [1, 53, 56, 59] [p0_0, 10, p0_0, 9] (fr' := [(1, .pointer (some ⟨p0_0, 0, none⟩)), (53, .bool true), (56, .int .i64 (a0.f10.length : Int)), (59, .int .i64 (a0.f9.length : Int))]) (bx' := [⟨p0_0, [.int .i64 a0.f0, .int .i64 a0.f1, .int .i64 a0.f2, .int .i64 a0.f3, .int .i64 a0.f4, .int .i64 a0.f5, .int .i64 a0.f6, .int .i64 a0.f7, .slice h0.1 a0.f8.length h0.2, .slice h1.1 a0.f9.length h1.2, .slice h2.1 a0.f10.length h2.2, .int .i64 a0.f11.f0, .int .i64 a0.f11.f1, .slice h3.1 a0.f11.f2.length h3.2, .slice h4.1 a0.f11.f3.length h4.2, .slice h5.1 a0.f11.f4.length h5.2, .slice h6.1 a0.f12.length h6.2], 29⟩]) (by kernel_rfl) ?_
           refine O.q (v := .bool true) (some 60) (Qu.eqv (u := .bool ((a0.f10.length : Int) == (a0.f9.length : Int))) (v := .bool true) (0, 0) [] (by kernel_rfl) (congrArg Value.bool hc7)) (by kernel_rfl) ?_
           refine O.pure 6 [(0, 13)] [1, 62, 66] [p0_0, 13] (fr' := [(1, .pointer (some ⟨p0_0, 0, none⟩)), (62, .bool true), (66, .int .i64 (a0.f11.f2.length : Int))]) (bx' := [⟨p0_0, [.int .i64 a0.f0, .int .i64 a0.f1, .int .i64 a0.f2, .int .i64 a0.f3, .int .i64 a0.f4, .int .i64 a0.f5, .int .i64 a0.f6, .int .i64 a0.f7, .slice h0.1 a0.f8.length h0.2, .slice h1.1 a0.f9.length h1.2, .slice h2.1 a0.f10.length h2.2, .int .i64 a0.f11.f0, .int .i64 a0.f11.f1, .slice h3.1 a0.f11.f2.length h3.2, .slice h4.1 a0.f11.f3.length h4.2, .slice h5.1 a0.f11.f4.length h5.2, .slice h6.1 a0.f12.length h6.2], 29⟩]) (by kernel_rfl) ?_
           refine O.q (v := .bool true) (some 67) (Qu.eqv (u := .bool (decide ((a0.f11.f2.length : Int) ≤ 24))) (v := .bool true) (0, 0) [] (by kernel_rfl) (congrArg Value.bool hc8)) (by kernel_rfl) ?_
           refine O.pure 10 [(0, 14), (0, 13)] [1, 69, 73, 77] [p0_0, 14, p0_0, 13] (fr' := [(1, .pointer (some ⟨p0_0, 0, none⟩)), (69, .bool true), (73, .int .i64 (a0.f11.f3.length : Int)), (77, .int .i64 (a0.f11.f2.length : Int))]) (bx' := [⟨p0_0, [.int .i64 a0.f0, .int .i64 a0.f1, .int .i64 a0.f2, .int .i64 a0.f3, .int .i64 a0.f4, .int .i64 a0.f5, .int .i64 a0.f6, .int .i64 a0.f7, .slice h0.1 a0.f8.length h0.2, .slice h1.1 a0.f9.length h1.2, .slice h2.1 a0.f10.length h2.2, .int .i64 a0.f11.f0, .int .i64 a0.f11.f1, .slice h3.1 a0.f11.f2.length h3.2, .slice h4.1 a0.f11.f3.length h4.2, .slice h5.1 a0.f11.f4.length h5.2, .slice h6.1 a0.f12.length h6.2], 29⟩]) (by kernel_rfl) ?_
           refine O.q (v := .bool true) (some 78) (Qu.eqv (u := .bool ((a0.f11.f3.length : Int) == (a0.f11.f2.length : Int))) (v := .bool true) (0, 0) [] (by kernel_rfl) (congrArg Value.bool hc9)) (by kernel_rfl) ?_
           refine O.pure 5 [(0, 15)] [1, 80, 83] [p0_0, 15] (fr' := [(1, .pointer (some ⟨p0_0, 0, none⟩)), (80, .bool true), (83, .slice h5.1 a0.f11.f4.length h5.2)]) (bx' := [⟨p0_0, [.int .i64 a0.f0, .int .i64 a0.f1, .int .i64 a0.f2, .int .i64 a0.f3, .int .i64 a0.f4, .int .i64 a0.f5, .int .i64 a0.f6, .int .i64 a0.f7, .slice h0.1 a0.f8.length h0.2, .slice h1.1 a0.f9.length h1.2, .slice h2.1 a0.f10.length h2.2, .int .i64 a0.f11.f0, .int .i64 a0.f11.f1, .slice h3.1 a0.f11.f2.length h3.2, .slice h4.1 a0.f11.f3.length h4.2, .slice h5.1 a0.f11.f4.length h5.2, .slice h6.1 a0.f12.length h6.2], 29⟩]) (by kernel_rfl) ?_
           refine O.e (some 84) (Ev.call0 (xs := [.tmp 83]) [5] (by kernel_rfl) (by kernel_rfl) (fun w hS => mail_sent.con K a0.f11.f4 h5  _ _ w hS hx1_81)) (by kernel_rfl) (fun _ => ?_)
           refine O.q (v := .bool false) (some 85) (Qu.eqv (u := .bool x1_81) (v := .bool false) (0, 0) [] (by kernel_rfl) (congrArg Value.bool hc10)) (by kernel_rfl) ?_
           refine O.pure 6 [] [2] [] (fr' := [(2, .bool false)]) (bx' := [⟨p0_0, [.int .i64 a0.f0, .int .i64 a0.f1, .int .i64 a0.f2, .int .i64 a0.f3, .int .i64 a0.f4, .int .i64 a0.f5, .int .i64 a0.f6, .int .i64 a0.f7, .slice h0.1 a0.f8.length h0.2, .slice h1.1 a0.f9.length h1.2, .slice h2.1 a0.f10.length h2.2, .int .i64 a0.f11.f0, .int .i64 a0.f11.f1, .slice h3.1 a0.f11.f2.length h3.2, .slice h4.1 a0.f11.f3.length h4.2, .slice h5.1 a0.f11.f4.length h5.2, .slice h6.1 a0.f12.length h6.2], 29⟩]) (by kernel_rfl) ?_
           refine O.nil (by kernel_rfl) ?_
           obtain rfl := Option.some.inj H
           exact J.doneS [] [] [] [] [] () (vs := [.bool false]) (by kernel_rfl) (by kernel_rfl) (by kernel_rfl) (by kernel_rfl) (by kernel_rfl) (by decide)
         ·refine J.region (by kernel_rfl) ?_
          refine O.pure 2 [(0, 0)] [1, 4] [p0_0, 0] (fr' := [(1, .pointer (some ⟨p0_0, 0, none⟩)), (4, .int .i64 a0.f0)]) (bx' := [⟨p0_0, [.int .i64 a0.f0, .int .i64 a0.f1, .int .i64 a0.f2, .int .i64 a0.f3, .int .i64 a0.f4, .int .i64 a0.f5, .int .i64 a0.f6, .int .i64 a0.f7, .slice h0.1 a0.f8.length h0.2, .slice h1.1 a0.f9.length h1.2, .slice h2.1 a0.f10.length h2.2, .int .i64 a0.f11.f0, .int .i64 a0.f11.f1, .slice h3.1 a0.f11.f2.length h3.2, .slice h4.1 a0.f11.f3.length h4.2, .slice h5.1 a0.f11.f4.length h5.2, .slice h6.1 a0.f12.length h6.2], 29⟩]) (by kernel_rfl) ?_
          refine O.q (v := .bool true) (some 5) (Qu.eqv (u := .bool (decide (a0.f0 ≥ 1))) (v := .bool true) (0, 0) [] (by kernel_rfl) (congrArg Value.bool hc1)) (by kernel_rfl) ?_
          refine O.pure 3 [(0, 0)] [1, 6, 8] [p0_0, 0] (fr' := [(1, .pointer (some ⟨p0_0, 0, none⟩)), (6, .bool true), (8, .int .i64 a0.f0)]) (bx' := [⟨p0_0, [.int .i64 a0.f0, .int .i64 a0.f1, .int .i64 a0.f2, .int .i64 a0.f3, .int .i64 a0.f4, .int .i64 a0.f5, .int .i64 a0.f6, .int .i64 a0.f7, .slice h0.1 a0.f8.length h0.2, .slice h1.1 a0.f9.length h1.2, .slice h2.1 a0.f10.length h2.2, .int .i64 a0.f11.f0, .int .i64 a0.f11.f1, .slice h3.1 a0.f11.f2.length h3.2, .slice h4.1 a0.f11.f3.length h4.2, .slice h5.1 a0.f11.f4.length h5.2, .slice h6.1 a0.f12.length h6.2], 29⟩]) (by kernel_rfl) ?_
          refine O.q (v := .bool true) (some 9) (Qu.eqv (u := .bool (decide (a0.f0 ≤ 11))) (v := .bool true) (0, 0) [] (by kernel_rfl) (congrArg Value.bool hc2)) (by kernel_rfl) ?_
          refine O.pure 22 [(0, 1), (0, 2), (0, 3), (0, 4), (0, 5), (0, 6), (0, 7), (0, 11), (0, 12)] [1, 11, 13, 15, 17, 19, 21, 23, 25, 28, 31] [p0_0, 1, p0_0, 2, p0_0, 3, p0_0, 4, p0_0, 5, p0_0, 6, p0_0, 7, p0_0, 11, p0_0, 12] (fr' := [(1, .pointer (some ⟨p0_0, 0, none⟩)), (11, .bool true), (13, .int .i64 a0.f1), (15, .int .i64 a0.f2), (17, .int .i64 a0.f3), (19, .int .i64 a0.f4), (21, .int .i64 a0.f5), (23, .int .i64 a0.f6), (25, .int .i64 a0.f7), (28, .int .i64 a0.f11.f0), (31, .int .i64 a0.f11.f1)]) (bx' := [⟨p0_0, [.int .i64 a0.f0, .int .i64 a0.f1, .int .i64 a0.f2, .int .i64 a0.f3, .int .i64 a0.f4, .int .i64 a0.f5, .int .i64 a0.f6, .int .i64 a0.f7, .slice h0.1 a0.f8.length h0.2, .slice h1.1 a0.f9.length h1.2, .slice h2.1 a0.f10.length h2.2, .int .i64 a0.f11.f0, .int .i64 a0.f11.f1, .slice h3.1 a0.f11.f2.length h3.2, .slice h4.1 a0.f11.f3.length h4.2, .slice h5.1 a0.f11.f4.length h5.2, .slice h6.1 a0.f12.length h6.2], 29⟩]) (by kernel_rfl) ?_
          refine O.e (some 32) (Ev.lit (t := 22) (len := 9) (parts := #[(0, .tmp 13), (1, .tmp 15), (2, .tmp 17), (3, .tmp 19), (4, .tmp 21), (5, .tmp 23), (6, .tmp 25), (7, .tmp 28), (8, .tmp 31)]) (ps := [(0, .int .i64 a0.f1), (1, .int .i64 a0.f2), (2, .int .i64 a0.f3), (3, .int .i64 a0.f4), (4, .int .i64 a0.f5), (5, .int .i64 a0.f6), (6, .int .i64 a0.f7), (7, .int .i64 a0.f11.f0), (8, .int .i64 a0.f11.f1)]) (cs := [.int .i64 a0.f1, .int .i64 a0.f2, .int .i64 a0.f3, .int .i64 a0.f4, .int .i64 a0.f5, .int .i64 a0.f6, .int .i64 a0.f7, .int .i64 a0.f11.f0, .int .i64 a0.f11.f1]) (e := 3) (Kd.int .i64) ([a0.f1, a0.f2, a0.f3, a0.f4, a0.f5, a0.f6, a0.f7, a0.f11.f0, a0.f11.f1] : List Int) (by kernel_rfl) (by kernel_rfl) (by kernel_rfl) (by kernel_rfl) (by kernel_rfl) (by decide) (fun w' hφ => (Els.cons (c := [.int .i64 a0.f1]) (rfl) (Els.cons (c := [.int .i64 a0.f2]) (rfl) (Els.cons (c := [.int .i64 a0.f3]) (rfl) (Els.cons (c := [.int .i64 a0.f4]) (rfl) (Els.cons (c := [.int .i64 a0.f5]) (rfl) (Els.cons (c := [.int .i64 a0.f6]) (rfl) (Els.cons (c := [.int .i64 a0.f7]) (rfl) (Els.cons (c := [.int .i64 a0.f11.f0]) (rfl) (Els.cons (c := [.int .i64 a0.f11.f1]) (rfl) (Els.nil _ _ _)))))))))))) (by kernel_rfl) (fun p1_29 => ?_)
          refine O.e (some 33) (Ev.callLb (xs1 := [.const (.int .i64 9), .tmp 32]) [0] (fun w hS => (hS.rowsel [0] rfl (by decide)).freezeL (hh := ((some ⟨p1_29, 0, none⟩, 9) : Hd)) (m := ([a0.f1, a0.f2, a0.f3, a0.f4, a0.f5, a0.f6, a0.f7, a0.f11.f0, a0.f11.f1] : List Int).length) (xs := ([a0.f1, a0.f2, a0.f3, a0.f4, a0.f5, a0.f6, a0.f7, a0.f11.f0, a0.f11.f1] : List Int)) rfl) (by kernel_rfl) (by kernel_rfl) (fun _ q hq => by cases hq) (fun w hS => mail_fair.con K 9 ([a0.f1, a0.f2, a0.f3, a0.f4, a0.f5, a0.f6, a0.f7, a0.f11.f0, a0.f11.f1] : List Int) ((some ⟨p1_29, 0, none⟩, 9) : Hd)  _ _ w hS hx1_30)) (by kernel_rfl) (fun _ => ?_)
          refine O.q (v := .bool true) (some 34) (Qu.eqv (u := .bool x1_30) (v := .bool true) (0, 0) [] (by kernel_rfl) (congrArg Value.bool hc3)) (by kernel_rfl) ?_
          refine O.pure 3 [(0, 8)] [1, 35, 37] [p0_0, 8] (fr' := [(1, .pointer (some ⟨p0_0, 0, none⟩)), (35, .bool true), (37, .slice h0.1 a0.f8.length h0.2)]) (bx' := [⟨p0_0, [.int .i64 a0.f0, .int .i64 a0.f1, .int .i64 a0.f2, .int .i64 a0.f3, .int .i64 a0.f4, .int .i64 a0.f5, .int .i64 a0.f6, .int .i64 a0.f7, .slice h0.1 a0.f8.length h0.2, .slice h1.1 a0.f9.length h1.2, .slice h2.1 a0.f10.length h2.2, .int .i64 a0.f11.f0, .int .i64 a0.f11.f1, .slice h3.1 a0.f11.f2.length h3.2, .slice h4.1 a0.f11.f3.length h4.2, .slice h5.1 a0.f11.f4.length h5.2, .slice h6.1 a0.f12.length h6.2], 29⟩]) (by kernel_rfl) ?_
          refine O.e (some 38) (Ev.call0 (xs := [.const (.int .i64 6), .tmp 37]) [0] (by kernel_rfl) (by kernel_rfl) (fun w hS => mail_fair.con K 6 a0.f8 h0  _ _ w hS hx1_35)) (by kernel_rfl) (fun _ => ?_)
          refine O.q (v := .bool true) (some 39) (Qu.eqv (u := .bool x1_35) (v := .bool true) (0, 0) [] (by kernel_rfl) (congrArg Value.bool hc4)) (by kernel_rfl) ?_
          refine O.pure 3 [(0, 9)] [1, 40, 42] [p0_0, 9] (fr' := [(1, .pointer (some ⟨p0_0, 0, none⟩)), (40, .bool true), (42, .slice h1.1 a0.f9.length h1.2)]) (bx' := [⟨p0_0, [.int .i64 a0.f0, .int .i64 a0.f1, .int .i64 a0.f2, .int .i64 a0.f3, .int .i64 a0.f4, .int .i64 a0.f5, .int .i64 a0.f6, .int .i64 a0.f7, .slice h0.1 a0.f8.length h0.2, .slice h1.1 a0.f9.length h1.2, .slice h2.1 a0.f10.length h2.2, .int .i64 a0.f11.f0, .int .i64 a0.f11.f1, .slice h3.1 a0.f11.f2.length h3.2, .slice h4.1 a0.f11.f3.length h4.2, .slice h5.1 a0.f11.f4.length h5.2, .slice h6.1 a0.f12.length h6.2], 29⟩]) (by kernel_rfl) ?_
          refine O.e (some 43) (Ev.call0 (xs := [.const (.int .i64 5), .tmp 42]) [1] (by kernel_rfl) (by kernel_rfl) (fun w hS => mail_fair.con K 5 a0.f9 h1  _ _ w hS hx1_40)) (by kernel_rfl) (fun _ => ?_)
          refine O.q (v := .bool true) (some 44) (Qu.eqv (u := .bool x1_40) (v := .bool true) (0, 0) [] (by kernel_rfl) (congrArg Value.bool hc5)) (by kernel_rfl) ?_
          refine O.pure 6 [(0, 9), (0, 10)] [1, 45, 48, 50] [p0_0, 9, p0_0, 10] (fr' := [(1, .pointer (some ⟨p0_0, 0, none⟩)), (45, .bool true), (48, .int .i64 (a0.f9.length : Int)), (50, .slice h2.1 a0.f10.length h2.2)]) (bx' := [⟨p0_0, [.int .i64 a0.f0, .int .i64 a0.f1, .int .i64 a0.f2, .int .i64 a0.f3, .int .i64 a0.f4, .int .i64 a0.f5, .int .i64 a0.f6, .int .i64 a0.f7, .slice h0.1 a0.f8.length h0.2, .slice h1.1 a0.f9.length h1.2, .slice h2.1 a0.f10.length h2.2, .int .i64 a0.f11.f0, .int .i64 a0.f11.f1, .slice h3.1 a0.f11.f2.length h3.2, .slice h4.1 a0.f11.f3.length h4.2, .slice h5.1 a0.f11.f4.length h5.2, .slice h6.1 a0.f12.length h6.2], 29⟩]) (by kernel_rfl) ?_
          refine O.e (some 51) (Ev.call0 (xs := [.tmp 48, .tmp 50]) [2] (by kernel_rfl) (by kernel_rfl) (fun w hS => mail_fair.con K (a0.f9.length : Int) a0.f10 h2  _ _ w hS hx1_48)) (by kernel_rfl) (fun _ => ?_)
          refine O.q (v := .bool true) (some 52) (Qu.eqv (u := .bool x1_48) (v := .bool true) (0, 0) [] (by kernel_rfl) (congrArg Value.bool hc6)) (by kernel_rfl) ?_
          refine O.pure 7 [(0, 10), (0, 9)] [1, 53, 56, 59] [p0_0, 10, p0_0, 9] (fr' := [(1, .pointer (some ⟨p0_0, 0, none⟩)), (53, .bool true), (56, .int .i64 (a0.f10.length : Int)), (59, .int .i64 (a0.f9.length : Int))]) (bx' := [⟨p0_0, [.int .i64 a0.f0, .int .i64 a0.f1, .int .i64 a0.f2, .int .i64 a0.f3, .int .i64 a0.f4, .int .i64 a0.f5, .int .i64 a0.f6, .int .i64 a0.f7, .slice h0.1 a0.f8.length h0.2, .slice h1.1 a0.f9.length h1.2, .slice h2.1 a0.f10.length h2.2, .int .i64 a0.f11.f0, .int .i64 a0.f11.f1, .slice h3.1 a0.f11.f2.length h3.2, .slice h4.1 a0.f11.f3.length h4.2, .slice h5.1 a0.f11.f4.length h5.2, .slice h6.1 a0.f12.length h6.2], 29⟩]) (by kernel_rfl) ?_
          refine O.q (v := .bool true) (some 60) (Qu.eqv (u := .bool ((a0.f10.length : Int) == (a0.f9.length : Int))) (v := .bool true) (0, 0) [] (by kernel_rfl) (congrArg Value.bool hc7)) (by kernel_rfl) ?_
          refine O.pure 6 [(0, 13)] [1, 62, 66] [p0_0, 13] (fr' := [(1, .pointer (some ⟨p0_0, 0, none⟩)), (62, .bool true), (66, .int .i64 (a0.f11.f2.length : Int))]) (bx' := [⟨p0_0, [.int .i64 a0.f0, .int .i64 a0.f1, .int .i64 a0.f2, .int .i64 a0.f3, .int .i64 a0.f4, .int .i64 a0.f5, .int .i64 a0.f6, .int .i64 a0.f7, .slice h0.1 a0.f8.length h0.2, .slice h1.1 a0.f9.length h1.2, .slice h2.1 a0.f10.length h2.2, .int .i64 a0.f11.f0, .int .i64 a0.f11.f1, .slice h3.1 a0.f11.f2.length h3.2, .slice h4.1 a0.f11.f3.length h4.2, .slice h5.1 a0.f11.f4.length h5.2, .slice h6.1 a0.f12.length h6.2], 29⟩]) (by kernel_rfl) ?_
          refine O.q (v := .bool true) (some 67) (Qu.eqv (u := .bool (decide ((a0.f11.f2.length : Int) ≤ 24))) (v := .bool true) (0, 0) [] (by kernel_rfl) (congrArg Value.bool hc8)) (by kernel_rfl) ?_
          refine O.pure 10 [(0, 14), (0, 13)] [1, 69, 73, 77] [p0_0, 14, p0_0, 13] (fr' := [(1, .pointer (some ⟨p0_0, 0, none⟩)), (69, .bool true), (73, .int .i64 (a0.f11.f3.length : Int)), (77, .int .i64 (a0.f11.f2.length : Int))]) (bx' := [⟨p0_0, [.int .i64 a0.f0, .int .i64 a0.f1, .int .i64 a0.f2, .int .i64 a0.f3, .int .i64 a0.f4, .int .i64 a0.f5, .int .i64 a0.f6, .int .i64 a0.f7, .slice h0.1 a0.f8.length h0.2, .slice h1.1 a0.f9.length h1.2, .slice h2.1 a0.f10.length h2.2, .int .i64 a0.f11.f0, .int .i64 a0.f11.f1, .slice h3.1 a0.f11.f2.length h3.2, .slice h4.1 a0.f11.f3.length h4.2, .slice h5.1 a0.f11.f4.length h5.2, .slice h6.1 a0.f12.length h6.2], 29⟩]) (by kernel_rfl) ?_
          refine O.q (v := .bool false) (some 78) (Qu.eqv (u := .bool ((a0.f11.f3.length : Int) == (a0.f11.f2.length : Int))) (v := .bool false) (0, 0) [] (by kernel_rfl) (congrArg Value.bool hc9)) (by kernel_rfl) ?_
          refine O.pure 13 [] [2] [] (fr' := [(2, .bool false)]) (bx' := [⟨p0_0, [.int .i64 a0.f0, .int .i64 a0.f1, .int .i64 a0.f2, .int .i64 a0.f3, .int .i64 a0.f4, .int .i64 a0.f5, .int .i64 a0.f6, .int .i64 a0.f7, .slice h0.1 a0.f8.length h0.2, .slice h1.1 a0.f9.length h1.2, .slice h2.1 a0.f10.length h2.2, .int .i64 a0.f11.f0, .int .i64 a0.f11.f1, .slice h3.1 a0.f11.f2.length h3.2, .slice h4.1 a0.f11.f3.length h4.2, .slice h5.1 a0.f11.f4.length h5.2, .slice h6.1 a0.f12.length h6.2], 29⟩]) (by kernel_rfl) ?_
          refine O.nil (by kernel_rfl) ?_
          obtain rfl := Option.some.inj H
          exact J.doneS [] [] [] [] [] () (vs := [.bool false]) (by kernel_rfl) (by kernel_rfl) (by kernel_rfl) (by kernel_rfl) (by kernel_rfl) (by decide)
        ·refine J.region (by kernel_rfl) ?_
         refine O.pure 2 [(0, 0)] [1, 4] [p0_0, 0] (fr' := [(1, .pointer (some ⟨p0_0, 0, none⟩)), (4, .int .i64 a0.f0)]) (bx' := [⟨p0_0, [.int .i64 a0.f0, .int .i64 a0.f1, .int .i64 a0.f2, .int .i64 a0.f3, .int .i64 a0.f4, .int .i64 a0.f5, .int .i64 a0.f6, .int .i64 a0.f7, .slice h0.1 a0.f8.length h0.2, .slice h1.1 a0.f9.length h1.2, .slice h2.1 a0.f10.length h2.2, .int .i64 a0.f11.f0, .int .i64 a0.f11.f1, .slice h3.1 a0.f11.f2.length h3.2, .slice h4.1 a0.f11.f3.length h4.2, .slice h5.1 a0.f11.f4.length h5.2, .slice h6.1 a0.f12.length h6.2], 29⟩]) (by kernel_rfl) ?_
         refine O.q (v := .bool true) (some 5) (Qu.eqv (u := .bool (decide (a0.f0 ≥ 1))) (v := .bool true) (0, 0) [] (by kernel_rfl) (congrArg Value.bool hc1)) (by kernel_rfl) ?_
         refine O.pure 3 [(0, 0)] [1, 6, 8] [p0_0, 0] (fr' := [(1, .pointer (some ⟨p0_0, 0, none⟩)), (6, .bool true), (8, .int .i64 a0.f0)]) (bx' := [⟨p0_0, [.int .i64 a0.f0, .int .i64 a0.f1, .int .i64 a0.f2, .int .i64 a0.f3, .int .i64 a0.f4, .int .i64 a0.f5, .int .i64 a0.f6, .int .i64 a0.f7, .slice h0.1 a0.f8.length h0.2, .slice h1.1 a0.f9.length h1.2, .slice h2.1 a0.f10.length h2.2, .int .i64 a0.f11.f0, .int .i64 a0.f11.f1, .slice h3.1 a0.f11.f2.length h3.2, .slice h4.1 a0.f11.f3.length h4.2, .slice h5.1 a0.f11.f4.length h5.2, .slice h6.1 a0.f12.length h6.2], 29⟩]) (by kernel_rfl) ?_
         refine O.q (v := .bool true) (some 9) (Qu.eqv (u := .bool (decide (a0.f0 ≤ 11))) (v := .bool true) (0, 0) [] (by kernel_rfl) (congrArg Value.bool hc2)) (by kernel_rfl) ?_
         refine O.pure 22 [(0, 1), (0, 2), (0, 3), (0, 4), (0, 5), (0, 6), (0, 7), (0, 11), (0, 12)] [1, 11, 13, 15, 17, 19, 21, 23, 25, 28, 31] [p0_0, 1, p0_0, 2, p0_0, 3, p0_0, 4, p0_0, 5, p0_0, 6, p0_0, 7, p0_0, 11, p0_0, 12] (fr' := [(1, .pointer (some ⟨p0_0, 0, none⟩)), (11, .bool true), (13, .int .i64 a0.f1), (15, .int .i64 a0.f2), (17, .int .i64 a0.f3), (19, .int .i64 a0.f4), (21, .int .i64 a0.f5), (23, .int .i64 a0.f6), (25, .int .i64 a0.f7), (28, .int .i64 a0.f11.f0), (31, .int .i64 a0.f11.f1)]) (bx' := [⟨p0_0, [.int .i64 a0.f0, .int .i64 a0.f1, .int .i64 a0.f2, .int .i64 a0.f3, .int .i64 a0.f4, .int .i64 a0.f5, .int .i64 a0.f6, .int .i64 a0.f7, .slice h0.1 a0.f8.length h0.2, .slice h1.1 a0.f9.length h1.2, .slice h2.1 a0.f10.length h2.2, .int .i64 a0.f11.f0, .int .i64 a0.f11.f1, .slice h3.1 a0.f11.f2.length h3.2, .slice h4.1 a0.f11.f3.length h4.2, .slice h5.1 a0.f11.f4.length h5.2, .slice h6.1 a0.f12.length h6.2], 29⟩]) (by kernel_rfl) ?_
         refine O.e (some 32) (Ev.lit (t := 22) (len := 9) (parts := #[(0, .tmp 13), (1, .tmp 15), (2, .tmp 17), (3, .tmp 19), (4, .tmp 21), (5, .tmp 23), (6, .tmp 25), (7, .tmp 28), (8, .tmp 31)]) (ps := [(0, .int .i64 a0.f1), (1, .int .i64 a0.f2), (2, .int .i64 a0.f3), (3, .int .i64 a0.f4), (4, .int .i64 a0.f5), (5, .int .i64 a0.f6), (6, .int .i64 a0.f7), (7, .int .i64 a0.f11.f0), (8, .int .i64 a0.f11.f1)]) (cs := [.int .i64 a0.f1, .int .i64 a0.f2, .int .i64 a0.f3, .int .i64 a0.f4, .int .i64 a0.f5, .int .i64 a0.f6, .int .i64 a0.f7, .int .i64 a0.f11.f0, .int .i64 a0.f11.f1]) (e := 3) (Kd.int .i64) ([a0.f1, a0.f2, a0.f3, a0.f4, a0.f5, a0.f6, a0.f7, a0.f11.f0, a0.f11.f1] : List Int) (by kernel_rfl) (by kernel_rfl) (by kernel_rfl) (by kernel_rfl) (by kernel_rfl) (by decide) (fun w' hφ => (Els.cons (c := [.int .i64 a0.f1]) (rfl) (Els.cons (c := [.int .i64 a0.f2]) (rfl) (Els.cons (c := [.int .i64 a0.f3]) (rfl) (Els.cons (c := [.int .i64 a0.f4]) (rfl) (Els.cons (c := [.int .i64 a0.f5]) (rfl) (Els.cons (c := [.int .i64 a0.f6]) (rfl) (Els.cons (c := [.int .i64 a0.f7]) (rfl) (Els.cons (c := [.int .i64 a0.f11.f0]) (rfl) (Els.cons (c := [.int .i64 a0.f11.f1]) (rfl) (Els.nil _ _ _)))))))))))) (by kernel_rfl) (fun p1_29 => ?_)
         refine O.e (some 33) (Ev.callLb (xs1 := [.const (.int .i64 9), .tmp 32]) [0] (fun w hS => (hS.rowsel [0] rfl (by decide)).freezeL (hh := ((some ⟨p1_29, 0, none⟩, 9) : Hd)) (m := ([a0.f1, a0.f2, a0.f3, a0.f4, a0.f5, a0.f6, a0.f7, a0.f11.f0, a0.f11.f1] : List Int).length) (xs := ([a0.f1, a0.f2, a0.f3, a0.f4, a0.f5, a0.f6, a0.f7, a0.f11.f0, a0.f11.f1] : List Int)) rfl) (by kernel_rfl) (by kernel_rfl) (fun _ q hq => by cases hq) (fun w hS => mail_fair.con K 9 ([a0.f1, a0.f2, a0.f3, a0.f4, a0.f5, a0.f6, a0.f7, a0.f11.f0, a0.f11.f1] : List Int) ((some ⟨p1_29, 0, none⟩, 9) : Hd)  _ _ w hS hx1_30)) (by kernel_rfl) (fun _ => ?_)
         refine O.q (v := .bool true) (some 34) (Qu.eqv (u := .bool x1_30) (v := .bool true) (0, 0) [] (by kernel_rfl) (congrArg Value.bool hc3)) (by kernel_rfl) ?_
         refine O.pure 3 [(0, 8)] [1, 35, 37] [p0_0, 8] (fr' := [(1, .pointer (some ⟨p0_0, 0, none⟩)), (35, .bool true), (37, .slice h0.1 a0.f8.length h0.2)]) (bx' := [⟨p0_0, [.int .i64 a0.f0, .int .i64 a0.f1, .int .i64 a0.f2, .int .i64 a0.f3, .int .i64 a0.f4, .int .i64 a0.f5, .int .i64 a0.f6, .int .i64 a0.f7, .slice h0.1 a0.f8.length h0.2, .slice h1.1 a0.f9.length h1.2, .slice h2.1 a0.f10.length h2.2, .int .i64 a0.f11.f0, .int .i64 a0.f11.f1, .slice h3.1 a0.f11.f2.length h3.2, .slice h4.1 a0.f11.f3.length h4.2, .slice h5.1 a0.f11.f4.length h5.2, .slice h6.1 a0.f12.length h6.2], 29⟩]) (by kernel_rfl) ?_
         refine O.e (some 38) (Ev.call0 (xs := [.const (.int .i64 6), .tmp 37]) [0] (by kernel_rfl) (by kernel_rfl) (fun w hS => mail_fair.con K 6 a0.f8 h0  _ _ w hS hx1_35)) (by kernel_rfl) (fun _ => ?_)
         refine O.q (v := .bool true) (some 39) (Qu.eqv (u := .bool x1_35) (v := .bool true) (0, 0) [] (by kernel_rfl) (congrArg Value.bool hc4)) (by kernel_rfl) ?_
         refine O.pure 3 [(0, 9)] [1, 40, 42] [p0_0, 9] (fr' := [(1, .pointer (some ⟨p0_0, 0, none⟩)), (40, .bool true), (42, .slice h1.1 a0.f9.length h1.2)]) (bx' := [⟨p0_0, [.int .i64 a0.f0, .int .i64 a0.f1, .int .i64 a0.f2, .int .i64 a0.f3, .int .i64 a0.f4, .int .i64 a0.f5, .int .i64 a0.f6, .int .i64 a0.f7, .slice h0.1 a0.f8.length h0.2, .slice h1.1 a0.f9.length h1.2, .slice h2.1 a0.f10.length h2.2, .int .i64 a0.f11.f0, .int .i64 a0.f11.f1, .slice h3.1 a0.f11.f2.length h3.2, .slice h4.1 a0.f11.f3.length h4.2, .slice h5.1 a0.f11.f4.length h5.2, .slice h6.1 a0.f12.length h6.2], 29⟩]) (by kernel_rfl) ?_
         refine O.e (some 43) (Ev.call0 (xs := [.const (.int .i64 5), .tmp 42]) [1] (by kernel_rfl) (by kernel_rfl) (fun w hS => mail_fair.con K 5 a0.f9 h1  _ _ w hS hx1_40)) (by kernel_rfl) (fun _ => ?_)
         refine O.q (v := .bool true) (some 44) (Qu.eqv (u := .bool x1_40) (v := .bool true) (0, 0) [] (by kernel_rfl) (congrArg Value.bool hc5)) (by kernel_rfl) ?_
         refine O.pure 6 [(0, 9), (0, 10)] [1, 45, 48, 50] [p0_0, 9, p0_0, 10] (fr' := [(1, .pointer (some ⟨p0_0, 0, none⟩)), (45, .bool true), (48, .int .i64 (a0.f9.length : Int)), (50, .slice h2.1 a0.f10.length h2.2)]) (bx' := [⟨p0_0, [.int .i64 a0.f0, .int .i64 a0.f1, .int .i64 a0.f2, .int .i64 a0.f3, .int .i64 a0.f4, .int .i64 a0.f5, .int .i64 a0.f6, .int .i64 a0.f7, .slice h0.1 a0.f8.length h0.2, .slice h1.1 a0.f9.length h1.2, .slice h2.1 a0.f10.length h2.2, .int .i64 a0.f11.f0, .int .i64 a0.f11.f1, .slice h3.1 a0.f11.f2.length h3.2, .slice h4.1 a0.f11.f3.length h4.2, .slice h5.1 a0.f11.f4.length h5.2, .slice h6.1 a0.f12.length h6.2], 29⟩]) (by kernel_rfl) ?_
         refine O.e (some 51) (Ev.call0 (xs := [.tmp 48, .tmp 50]) [2] (by kernel_rfl) (by kernel_rfl) (fun w hS => mail_fair.con K (a0.f9.length : Int) a0.f10 h2  _ _ w hS hx1_48)) (by kernel_rfl) (fun _ => ?_)
         refine O.q (v := .bool true) (some 52) (Qu.eqv (u := .bool x1_48) (v := .bool true) (0, 0) [] (by kernel_rfl) (congrArg Value.bool hc6)) (by kernel_rfl) ?_
         refine O.pure 7 [(0, 10), (0, 9)] [1, 53, 56, 59] [p0_0, 10, p0_0, 9] (fr' := [(1, .pointer (some ⟨p0_0, 0, none⟩)), (53, .bool true), (56, .int .i64 (a0.f10.length : Int)), (59, .int .i64 (a0.f9.length : Int))]) (bx' := [⟨p0_0, [.int .i64 a0.f0, .int .i64 a0.f1, .int .i64 a0.f2, .int .i64 a0.f3, .int .i64 a0.f4, .int .i64 a0.f5, .int .i64 a0.f6, .int .i64 a0.f7, .slice h0.1 a0.f8.length h0.2, .slice h1.1 a0.f9.length h1.2, .slice h2.1 a0.f10.length h2.2, .int .i64 a0.f11.f0, .int .i64 a0.f11.f1, .slice h3.1 a0.f11.f2.length h3.2, .slice h4.1 a0.f11.f3.length h4.2, .slice h5.1 a0.f11.f4.length h5.2, .slice h6.1 a0.f12.length h6.2], 29⟩]) (by kernel_rfl) ?_
         refine O.q (v := .bool true) (some 60) (Qu.eqv (u := .bool ((a0.f10.length : Int) == (a0.f9.length : Int))) (v := .bool true) (0, 0) [] (by kernel_rfl) (congrArg Value.bool hc7)) (by kernel_rfl) ?_
         refine O.pure 6 [(0, 13)] [1, 62, 66] [p0_0, 13] (fr' := [(1, .pointer (some ⟨p0_0, 0, none⟩)), (62, .bool true), (66, .int .i64 (a0.f11.f2.length : Int))]) (bx' := [⟨p0_0, [.int .i64 a0.f0, .int .i64 a0.f1, .int .i64 a0.f2, .int .i64 a0.f3, .int .i64 a0.f4, .int .i64 a0.f5, .int .i64 a0.f6, .int .i64 a0.f7, .slice h0.1 a0.f8.length h0.2, .slice h1.1 a0.f9.length h1.2, .slice h2.1 a0.f10.length h2.2, .int .i64 a0.f11.f0, .int .i64 a0.f11.f1, .slice h3.1 a0.f11.f2.length h3.2, .slice h4.1 a0.f11.f3.length h4.2, .slice h5.1 a0.f11.f4.length h5.2, .slice h6.1 a0.f12.length h6.2], 29⟩]) (by kernel_rfl) ?_
         refine O.q (v := .bool false) (some 67) (Qu.eqv (u := .bool (decide ((a0.f11.f2.length : Int) ≤ 24))) (v := .bool false) (0, 0) [] (by kernel_rfl) (congrArg Value.bool hc8)) (by kernel_rfl) ?_
         refine O.pure 24 [] [2] [] (fr' := [(2, .bool false)]) (bx' := [⟨p0_0, [.int .i64 a0.f0, .int .i64 a0.f1, .int .i64 a0.f2, .int .i64 a0.f3, .int .i64 a0.f4, .int .i64 a0.f5, .int .i64 a0.f6, .int .i64 a0.f7, .slice h0.1 a0.f8.length h0.2, .slice h1.1 a0.f9.length h1.2, .slice h2.1 a0.f10.length h2.2, .int .i64 a0.f11.f0, .int .i64 a0.f11.f1, .slice h3.1 a0.f11.f2.length h3.2, .slice h4.1 a0.f11.f3.length h4.2, .slice h5.1 a0.f11.f4.length h5.2, .slice h6.1 a0.f12.length h6.2], 29⟩]) (by kernel_rfl) ?_
         refine O.nil (by kernel_rfl) ?_
         obtain rfl := Option.some.inj H
         exact J.doneS [] [] [] [] [] () (vs := [.bool false]) (by kernel_rfl) (by kernel_rfl) (by kernel_rfl) (by kernel_rfl) (by kernel_rfl) (by decide)
       ·refine J.region (by kernel_rfl) ?_
        refine O.pure 2 [(0, 0)] [1, 4] [p0_0, 0] (fr' := [(1, .pointer (some ⟨p0_0, 0, none⟩)), (4, .int .i64 a0.f0)]) (bx' := [⟨p0_0, [.int .i64 a0.f0, .int .i64 a0.f1, .int .i64 a0.f2, .int .i64 a0.f3, .int .i64 a0.f4, .int .i64 a0.f5, .int .i64 a0.f6, .int .i64 a0.f7, .slice h0.1 a0.f8.length h0.2, .slice h1.1 a0.f9.length h1.2, .slice h2.1 a0.f10.length h2.2, .int .i64 a0.f11.f0, .int .i64 a0.f11.f1, .slice h3.1 a0.f11.f2.length h3.2, .slice h4.1 a0.f11.f3.length h4.2, .slice h5.1 a0.f11.f4.length h5.2, .slice h6.1 a0.f12.length h6.2], 29⟩]) (by kernel_rfl) ?_
        refine O.q (v := .bool true) (some 5) (Qu.eqv (u := .bool (decide (a0.f0 ≥ 1))) (v := .bool true) (0, 0) [] (by kernel_rfl) (congrArg Value.bool hc1)) (by kernel_rfl) ?_
        refine O.pure 3 [(0, 0)] [1, 6, 8] [p0_0, 0] (fr' := [(1, .pointer (some ⟨p0_0, 0, none⟩)), (6, .bool true), (8, .int .i64 a0.f0)]) (bx' := [⟨p0_0, [.int .i64 a0.f0, .int .i64 a0.f1, .int .i64 a0.f2, .int .i64 a0.f3, .int .i64 a0.f4, .int .i64 a0.f5, .int .i64 a0.f6, .int .i64 a0.f7, .slice h0.1 a0.f8.length h0.2, .slice h1.1 a0.f9.length h1.2, .slice h2.1 a0.f10.length h2.2, .int .i64 a0.f11.f0, .int .i64 a0.f11.f1, .slice h3.1 a0.f11.f2.length h3.2, .slice h4.1 a0.f11.f3.length h4.2, .slice h5.1 a0.f11.f4.length h5.2, .slice h6.1 a0.f12.length h6.2], 29⟩]) (by kernel_rfl) ?_
        refine O.q (v := .bool true) (some 9) (Qu.eqv (u := .bool (decide (a0.f0 ≤ 11))) (v := .bool true) (0, 0) [] (by kernel_rfl) (congrArg Value.bool hc2)) (by kernel_rfl) ?_
        refine O.pure 22 [(0, 1), (0, 2), (0, 3), (0, 4), (0, 5), (0, 6), (0, 7), (0, 11), (0, 12)] [1, 11, 13, 15, 17, 19, 21, 23, 25, 28, 31] [p0_0, 1, p0_0, 2, p0_0, 3, p0_0, 4, p0_0, 5, p0_0, 6, p0_0, 7, p0_0, 11, p0_0, 12] (fr' := [(1, .pointer (some ⟨p0_0, 0, none⟩)), (11, .bool true), (13, .int .i64 a0.f1), (15, .int .i64 a0.f2), (17, .int .i64 a0.f3), (19, .int .i64 a0.f4), (21, .int .i64 a0.f5), (23, .int .i64 a0.f6), (25, .int .i64 a0.f7), (28, .int .i64 a0.f11.f0), (31, .int .i64 a0.f11.f1)]) (bx' := [⟨p0_0, [.int .i64 a0.f0, .int .i64 a0.f1, .int .i64 a0.f2, .int .i64 a0.f3, .int .i64 a0.f4, .int .i64 a0.f5, .int .i64 a0.f6, .int .i64 a0.f7, .slice h0.1 a0.f8.length h0.2, .slice h1.1 a0.f9.length h1.2, .slice h2.1 a0.f10.length h2.2, .int .i64 a0.f11.f0, .int .i64 a0.f11.f1, .slice h3.1 a0.f11.f2.length h3.2, .slice h4.1 a0.f11.f3.length h4.2, .slice h5.1 a0.f11.f4.length h5.2, .slice h6.1 a0.f12.length h6.2], 29⟩]) (by kernel_rfl) ?_
        refine O.e (some 32) (Ev.lit (t := 22) (len := 9) (parts := #[(0, .tmp 13), (1, .tmp 15), (2, .tmp 17), (3, .tmp 19), (4, .tmp 21), (5, .tmp 23), (6, .tmp 25), (7, .tmp 28), (8, .tmp 31)]) (ps := [(0, .int .i64 a0.f1), (1, .int .i64 a0.f2), (2, .int .i64 a0.f3), (3, .int .i64 a0.f4), (4, .int .i64 a0.f5), (5, .int .i64 a0.f6), (6, .int .i64 a0.f7), (7, .int .i64 a0.f11.f0), (8, .int .i64 a0.f11.f1)]) (cs := [.int .i64 a0.f1, .int .i64 a0.f2, .int .i64 a0.f3, .int .i64 a0.f4, .int .i64 a0.f5, .int .i64 a0.f6, .int .i64 a0.f7, .int .i64 a0.f11.f0, .int .i64 a0.f11.f1]) (e := 3) (Kd.int .i64) ([a0.f1, a0.f2, a0.f3, a0.f4, a0.f5, a0.f6, a0.f7, a0.f11.f0, a0.f11.f1] : List Int) (by kernel_rfl) (by kernel_rfl) (by kernel_rfl) (by kernel_rfl) (by kernel_rfl) (by decide) (fun w' hφ => (Els.cons (c := [.int .i64 a0.f1]) (rfl) (Els.cons (c := [.int .i64 a0.f2]) (rfl) (Els.cons (c := [.int .i64 a0.f3]) (rfl) (Els.cons (c := [.int .i64 a0.f4]) (rfl) (Els.cons (c := [.int .i64 a0.f5]) (rfl) (Els.cons (c := [.int .i64 a0.f6]) (rfl) (Els.cons (c := [.int .i64 a0.f7]) (rfl) (Els.cons (c := [.int .i64 a0.f11.f0]) (rfl) (Els.cons (c := [.int .i64 a0.f11.f1]) (rfl) (Els.nil _ _ _)))))))))))) (by kernel_rfl) (fun p1_29 => ?_)
        refine O.e (some 33) (Ev.callLb (xs1 := [.const (.int .i64 9), .tmp 32]) [0] (fun w hS => (hS.rowsel [0] rfl (by decide)).freezeL (hh := ((some ⟨p1_29, 0, none⟩, 9) : Hd)) (m := ([a0.f1, a0.f2, a0.f3, a0.f4, a0.f5, a0.f6, a0.f7, a0.f11.f0, a0.f11.f1] : List Int).length) (xs := ([a0.f1, a0.f2, a0.f3, a0.f4, a0.f5, a0.f6, a0.f7, a0.f11.f0, a0.f11.f1] : List Int)) rfl) (by kernel_rfl) (by kernel_rfl) (fun _ q hq => by cases hq) (fun w hS => mail_fair.con K 9 ([a0.f1, a0.f2, a0.f3, a0.f4, a0.f5, a0.f6, a0.f7, a0.f11.f0, a0.f11.f1] : List Int) ((some ⟨p1_29, 0, none⟩, 9) : Hd)  _ _ w hS hx1_30)) (by kernel_rfl) (fun _ => ?_)
        refine O.q (v := .bool true) (some 34) (Qu.eqv (u := .bool x1_30) (v := .bool true) (0, 0) [] (by kernel_rfl) (congrArg Value.bool hc3)) (by kernel_rfl) ?_
        refine O.pure 3 [(0, 8)] [1, 35, 37] [p0_0, 8] (fr' := [(1, .pointer (some ⟨p0_0, 0, none⟩)), (35, .bool true), (37, .slice h0.1 a0.f8.length h0.2)]) (bx' := [⟨p0_0, [.int .i64 a0.f0, .int .i64 a0.f1, .int .i64 a0.f2, .int .i64 a0.f3, .int .i64 a0.f4, .int .i64 a0.f5, .int .i64 a0.f6, .int .i64 a0.f7, .slice h0.1 a0.f8.length h0.2, .slice h1.1 a0.f9.length h1.2, .slice h2.1 a0.f10.length h2.2, .int .i64 a0.f11.f0, .int .i64 a0.f11.f1, .slice h3.1 a0.f11.f2.length h3.2, .slice h4.1 a0.f11.f3.length h4.2, .slice h5.1 a0.f11.f4.length h5.2, .slice h6.1 a0.f12.length h6.2], 29⟩]) (by kernel_rfl) ?_
        refine O.e (some 38) (Ev.call0 (xs := [.const (.int .i64 6), .tmp 37]) [0] (by kernel_rfl) (by kernel_rfl) (fun w hS => mail_fair.con K 6 a0.f8 h0  _ _ w hS hx1_35)) (by kernel_rfl) (fun _ => ?_)
        refine O.q (v := .bool true) (some 39) (Qu.eqv (u := .bool x1_35) (v := .bool true) (0, 0) [] (by kernel_rfl) (congrArg Value.bool hc4)) (by kernel_rfl) ?_
        refine O.pure 3 [(0, 9)] [1, 40, 42] [p0_0, 9] (fr' := [(1, .pointer (some ⟨p0_0, 0, none⟩)), (40, .bool true), (42, .slice h1.1 a0.f9.length h1.2)]) (bx' := [⟨p0_0, [.int .i64 a0.f0, .int .i64 a0.f1, .int .i64 a0.f2, .int .i64 a0.f3, .int .i64 a0.f4, .int .i64 a0.f5, .int .i64 a0.f6, .int .i64 a0.f7, .slice h0.1 a0.f8.length h0.2, .slice h1.1 a0.f9.length h1.2, .slice h2.1 a0.f10.length h2.2, .int .i64 a0.f11.f0, .int .i64 a0.f11.f1, .slice h3.1 a0.f11.f2.length h3.2, .slice h4.1 a0.f11.f3.length h4.2, .slice h5.1 a0.f11.f4.length h5.2, .slice h6.1 a0.f12.length h6.2], 29⟩]) (by kernel_rfl) ?_
        refine O.e (some 43) (Ev.call0 (xs := [.const (.int .i64 5), .tmp 42]) [1] (by kernel_rfl) (by kernel_rfl) (fun w hS => mail_fair.con K 5 a0.f9 h1  _ _ w hS hx1_40)) (by kernel_rfl) (fun _ => ?_)
        refine O.q (v := .bool true) (some 44) (Qu.eqv (u := .bool x1_40) (v := .bool true) (0, 0) [] (by kernel_rfl) (congrArg Value.bool hc5)) (by kernel_rfl) ?_
        refine O.pure 6 [(0, 9), (0, 10)] [1, 45, 48, 50] [p0_0, 9, p0_0, 10] (fr' := [(1, .pointer (some ⟨p0_0, 0, none⟩)), (45, .bool true), (48, .int .i64 (a0.f9.length : Int)), (50, .slice h2.1 a0.f10.length h2.2)]) (bx' := [⟨p0_0, [.int .i64 a0.f0, .int .i64 a0.f1, .int .i64 a0.f2, .int .i64 a0.f3, .int .i64 a0.f4, .int .i64 a0.f5, .int .i64 a0.f6, .int .i64 a0.f7, .slice h0.1 a0.f8.length h0.2, .slice h1.1 a0.f9.length h1.2, .slice h2.1 a0.f10.length h2.2, .int .i64 a0.f11.f0, .int .i64 a0.f11.f1, .slice h3.1 a0.f11.f2.length h3.2, .slice h4.1 a0.f11.f3.length h4.2, .slice h5.1 a0.f11.f4.length h5.2, .slice h6.1 a0.f12.length h6.2], 29⟩]) (by kernel_rfl) ?_
        refine O.e (some 51) (Ev.call0 (xs := [.tmp 48, .tmp 50]) [2] (by kernel_rfl) (by kernel_rfl) (fun w hS => mail_fair.con K (a0.f9.length : Int) a0.f10 h2  _ _ w hS hx1_48)) (by kernel_rfl) (fun _ => ?_)
        refine O.q (v := .bool true) (some 52) (Qu.eqv (u := .bool x1_48) (v := .bool true) (0, 0) [] (by kernel_rfl) (congrArg Value.bool hc6)) (by kernel_rfl) ?_
        refine O.pure 7 [(0, 10), (0, 9)] [1, 53, 56, 59] [p0_0, 10, p0_0, 9] (fr' := [(1, .pointer (some ⟨p0_0, 0, none⟩)), (53, .bool true), (56, .int .i64 (a0.f10.length : Int)), (59, .int .i64 (a0.f9.length : Int))]) (bx' := [⟨p0_0, [.int .i64 a0.f0, .int .i64 a0.f1, .int .i64 a0.f2, .int .i64 a0.f3, .int .i64 a0.f4, .int .i64 a0.f5, .int .i64 a0.f6, .int .i64 a0.f7, .slice h0.1 a0.f8.length h0.2, .slice h1.1 a0.f9.length h1.2, .slice h2.1 a0.f10.length h2.2, .int .i64 a0.f11.f0, .int .i64 a0.f11.f1, .slice h3.1 a0.f11.f2.length h3.2, .slice h4.1 a0.f11.f3.length h4.2, .slice h5.1 a0.f11.f4.length h5.2, .slice h6.1 a0.f12.length h6.2], 29⟩]) (by kernel_rfl) ?_
        refine O.q (v := .bool false) (some 60) (Qu.eqv (u := .bool ((a0.f10.length : Int) == (a0.f9.length : Int))) (v := .bool false) (0, 0) [] (by kernel_rfl) (congrArg Value.bool hc7)) (by kernel_rfl) ?_
        refine O.pure 31 [] [2] [] (fr' := [(2, .bool false)]) (bx' := [⟨p0_0, [.int .i64 a0.f0, .int .i64 a0.f1, .int .i64 a0.f2, .int .i64 a0.f3, .int .i64 a0.f4, .int .i64 a0.f5, .int .i64 a0.f6, .int .i64 a0.f7, .slice h0.1 a0.f8.length h0.2, .slice h1.1 a0.f9.length h1.2, .slice h2.1 a0.f10.length h2.2, .int .i64 a0.f11.f0, .int .i64 a0.f11.f1, .slice h3.1 a0.f11.f2.length h3.2, .slice h4.1 a0.f11.f3.length h4.2, .slice h5.1 a0.f11.f4.length h5.2, .slice h6.1 a0.f12.length h6.2], 29⟩]) (by kernel_rfl) ?_
        refine O.nil (by kernel_rfl) ?_
        obtain rfl := Option.some.inj H
        exact J.doneS [] [] [] [] [] () (vs := [.bool false]) (by kernel_rfl) (by kernel_rfl) (by kernel_rfl) (by kernel_rfl) (by kernel_rfl) (by decide)
      ·refine J.region (by kernel_rfl) ?_
       refine O.pure 2 [(0, 0)] [1, 4] [p0_0, 0] (fr' := [(1, .pointer (some ⟨p0_0, 0, none⟩)), (4, .int .i64 a0.f0)]) (bx' := [⟨p0_0, [.int .i64 a0.f0, .int .i64 a0.f1, .int .i64 a0.f2, .int .i64 a0.f3, .int .i64 a0.f4, .int .i64 a0.f5, .int .i64 a0.f6, .int .i64 a0.f7, .slice h0.1 a0.f8.length h0.2, .slice h1.1 a0.f9.length h1.2, .slice h2.1 a0.f10.length h2.2, .int .i64 a0.f11.f0, .int .i64 a0.f11.f1, .slice h3.1 a0.f11.f2.length h3.2, .slice h4.1 a0.f11.f3.length h4.2, .slice h5.1 a0.f11.f4.length h5.2, .slice h6.1 a0.f12.length h6.2], 29⟩]) (by kernel_rfl) ?_
       refine O.q (v := .bool true) (some 5) (Qu.eqv (u := .bool (decide (a0.f0 ≥ 1))) (v := .bool true) (0, 0) [] (by kernel_rfl) (congrArg Value.bool hc1)) (by kernel_rfl) ?_
       refine O.pure 3 [(0, 0)] [1, 6, 8] [p0_0, 0] (fr' := [(1, .pointer (some ⟨p0_0, 0, none⟩)), (6, .bool true), (8, .int .i64 a0.f0)]) (bx' := [⟨p0_0, [.int .i64 a0.f0, .int .i64 a0.f1, .int .i64 a0.f2, .int .i64 a0.f3, .int .i64 a0.f4, .int .i64 a0.f5, .int .i64 a0.f6, .int .i64 a0.f7, .slice h0.1 a0.f8.length h0.2, .slice h1.1 a0.f9.length h1.2, .slice h2.1 a0.f10.length h2.2, .int .i64 a0.f11.f0, .int .i64 a0.f11.f1, .slice h3.1 a0.f11.f2.length h3.2, .slice h4.1 a0.f11.f3.length h4.2, .slice h5.1 a0.f11.f4.length h5.2, .slice h6.1 a0.f12.length h6.2], 29⟩]) (by kernel_rfl) ?_
       refine O.q (v := .bool true) (some 9) (Qu.eqv (u := .bool (decide (a0.f0 ≤ 11))) (v := .bool true) (0, 0) [] (by kernel_rfl) (congrArg Value.bool hc2)) (by kernel_rfl) ?_
       refine O.pure 22 [(0, 1), (0, 2), (0, 3), (0, 4), (0, 5), (0, 6), (0, 7), (0, 11), (0, 12)] [1, 11, 13, 15, 17, 19, 21, 23, 25, 28, 31] [p0_0, 1, p0_0, 2, p0_0, 3, p0_0, 4, p0_0, 5, p0_0, 6, p0_0, 7, p0_0, 11, p0_0, 12] (fr' := [(1, .pointer (some ⟨p0_0, 0, none⟩)), (11, .bool true), (13, .int .i64 a0.f1), (15, .int .i64 a0.f2), (17, .int .i64 a0.f3), (19, .int .i64 a0.f4), (21, .int .i64 a0.f5), (23, .int .i64 a0.f6), (25, .int .i64 a0.f7), (28, .int .i64 a0.f11.f0), (31, .int .i64 a0.f11.f1)]) (bx' := [⟨p0_0, [.int .i64 a0.f0, .int .i64 a0.f1, .int .i64 a0.f2, .int .i64 a0.f3, .int .i64 a0.f4, .int .i64 a0.f5, .int .i64 a0.f6, .int .i64 a0.f7, .slice h0.1 a0.f8.length h0.2, .slice h1.1 a0.f9.length h1.2, .slice h2.1 a0.f10.length h2.2, .int .i64 a0.f11.f0, .int .i64 a0.f11.f1, .slice h3.1 a0.f11.f2.length h3.2, .slice h4.1 a0.f11.f3.length h4.2, .slice h5.1 a0.f11.f4.length h5.2, .slice h6.1 a0.f12.length h6.2], 29⟩]) (by kernel_rfl) ?_
       refine O.e (some 32) (Ev.lit (t := 22) (len := 9) (parts := #[(0, .tmp 13), (1, .tmp 15), (2, .tmp 17), (3, .tmp 19), (4, .tmp 21), (5, .tmp 23), (6, .tmp 25), (7, .tmp 28), (8, .tmp 31)]) (ps := [(0, .int .i64 a0.f1), (1, .int .i64 a0.f2), (2, .int .i64 a0.f3), (3, .int .i64 a0.f4), (4, .int .i64 a0.f5), (5, .int .i64 a0.f6), (6, .int .i64 a0.f7), (7, .int .i64 a0.f11.f0), (8, .int .i64 a0.f11.f1)]) (cs := [.int .i64 a0.f1, .int .i64 a0.f2, .int .i64 a0.f3, .int .i64 a0.f4, .int .i64 a0.f5, .int .i64 a0.f6, .int .i64 a0.f7, .int .i64 a0.f11.f0, .int .i64 a0.f11.f1]) (e := 3) (Kd.int .i64) ([a0.f1, a0.f2, a0.f3, a0.f4, a0.f5, a0.f6, a0.f7, a0.f11.f0, a0.f11.f1] : List Int) (by kernel_rfl) (by kernel_rfl) (by kernel_rfl) (by kernel_rfl) (by kernel_rfl) (by decide) (fun w' hφ => (Els.cons (c := [.int .i64 a0.f1]) (rfl) (Els.cons (c := [.int .i64 a0.f2]) (rfl) (Els.cons (c := [.int .i64 a0.f3]) (rfl) (Els.cons (c := [.int .i64 a0.f4]) (rfl) (Els.cons (c := [.int .i64 a0.f5]) (rfl) (Els.cons (c := [.int .i64 a0.f6]) (rfl) (Els.cons (c := [.int .i64 a0.f7]) (rfl) (Els.cons (c := [.int .i64 a0.f11.f0]) (rfl) (Els.cons (c := [.int .i64 a0.f11.f1]) (rfl) (Els.nil _ _ _)))))))))))) (by kernel_rfl) (fun p1_29 => ?_)
       refine O.e (some 33) (Ev.callLb (xs1 := [.const (.int .i64 9), .tmp 32]) [0] (fun w hS => (hS.rowsel [0] rfl (by decide)).freezeL (hh := ((some ⟨p1_29, 0, none⟩, 9) : Hd)) (m := ([a0.f1, a0.f2, a0.f3, a0.f4, a0.f5, a0.f6, a0.f7, a0.f11.f0, a0.f11.f1] : List Int).length) (xs := ([a0.f1, a0.f2, a0.f3, a0.f4, a0.f5, a0.f6, a0.f7, a0.f11.f0, a0.f11.f1] : List Int)) rfl) (by kernel_rfl) (by kernel_rfl) (fun _ q hq => by cases hq) (fun w hS => mail_fair.con K 9 ([a0.f1, a0.f2, a0.f3, a0.f4, a0.f5, a0.f6, a0.f7, a0.f11.f0, a0.f11.f1] : List Int) ((some ⟨p1_29, 0, none⟩, 9) : Hd)  _ _ w hS hx1_30)) (by kernel_rfl) (fun _ => ?_)
       refine O.q (v := .bool true) (some 34) (Qu.eqv (u := .bool x1_30) (v := .bool true) (0, 0) [] (by kernel_rfl) (congrArg Value.bool hc3)) (by kernel_rfl) ?_
       refine O.pure 3 [(0, 8)] [1, 35, 37] [p0_0, 8] (fr' := [(1, .pointer (some ⟨p0_0, 0, none⟩)), (35, .bool true), (37, .slice h0.1 a0.f8.length h0.2)]) (bx' := [⟨p0_0, [.int .i64 a0.f0, .int .i64 a0.f1, .int .i64 a0.f2, .int .i64 a0.f3, .int .i64 a0.f4, .int .i64 a0.f5, .int .i64 a0.f6, .int .i64 a0.f7, .slice h0.1 a0.f8.length h0.2, .slice h1.1 a0.f9.length h1.2, .slice h2.1 a0.f10.length h2.2, .int .i64 a0.f11.f0, .int .i64 a0.f11.f1, .slice h3.1 a0.f11.f2.length h3.2, .slice h4.1 a0.f11.f3.length h4.2, .slice h5.1 a0.f11.f4.length h5.2, .slice h6.1 a0.f12.length h6.2], 29⟩]) (by kernel_rfl) ?_
       refine O.e (some 38) (Ev.call0 (xs := [.const (.int .i64 6), .tmp 37]) [0] (by kernel_rfl) (by kernel_rfl) (fun w hS => mail_fair.con K 6 a0.f8 h0  _ _ w hS hx1_35)) (by kernel_rfl) (fun _ => ?_)
       refine O.q (v := .bool true) (some 39) (Qu.eqv (u := .bool x1_35) (v := .bool true) (0, 0) [] (by kernel_rfl) (congrArg Value.bool hc4)) (by kernel_rfl) ?_
       refine O.pure 3 [(0, 9)] [1, 40, 42] [p0_0, 9] (fr' := [(1, .pointer (some ⟨p0_0, 0, none⟩)), (40, .bool true), (42, .slice h1.1 a0.f9.length h1.2)]) (bx' := [⟨p0_0, [.int .i64 a0.f0, .int .i64 a0.f1, .int .i64 a0.f2, .int .i64 a0.f3, .int .i64 a0.f4, .int .i64 a0.f5, .int .i64 a0.f6, .int .i64 a0.f7, .slice h0.1 a0.f8.length h0.2, .slice h1.1 a0.f9.length h1.2, .slice h2.1 a0.f10.length h2.2, .int .i64 a0.f11.f0, .int .i64 a0.f11.f1, .slice h3.1 a0.f11.f2.length h3.2, .slice h4.1 a0.f11.f3.length h4.2, .slice h5.1 a0.f11.f4.length h5.2, .slice h6.1 a0.f12.length h6.2], 29⟩]) (by kernel_rfl) ?_
       refine O.e (some 43) (Ev.call0 (xs := [.const (.int .i64 5), .tmp 42]) [1] (by kernel_rfl) (by kernel_rfl) (fun w hS => mail_fair.con K 5 a0.f9 h1  _ _ w hS hx1_40)) (by kernel_rfl) (fun _ => ?_)
       refine O.q (v := .bool true) (some 44) (Qu.eqv (u := .bool x1_40) (v := .bool true) (0, 0) [] (by kernel_rfl) (congrArg Value.bool hc5)) (by kernel_rfl) ?_
       refine O.pure 6 [(0, 9), (0, 10)] [1, 45, 48, 50] [p0_0, 9, p0_0, 10] (fr' := [(1, .pointer (some ⟨p0_0, 0, none⟩)), (45, .bool true), (48, .int .i64 (a0.f9.length : Int)), (50, .slice h2.1 a0.f10.length h2.2)]) (bx' := [⟨p0_0, [.int .i64 a0.f0, .int .i64 a0.f1, .int .i64 a0.f2, .int .i64 a0.f3, .int .i64 a0.f4, .int .i64 a0.f5, .int .i64 a0.f6, .int .i64 a0.f7, .slice h0.1 a0.f8.length h0.2, .slice h1.1 a0.f9.length h1.2, .slice h2.1 a0.f10.length h2.2, .int .i64 a0.f11.f0, .int .i64 a0.f11.f1, .slice h3.1 a0.f11.f2.length h3.2, .slice h4.1 a0.f11.f3.length h4.2, .slice h5.1 a0.f11.f4.length h5.2, .slice h6.1 a0.f12.length h6.2], 29⟩]) (by kernel_rfl) ?_
       refine O.e (some 51) (Ev.call0 (xs := [.tmp 48, .tmp 50]) [2] (by kernel_rfl) (by kernel_rfl) (fun w hS => mail_fair.con K (a0.f9.length : Int) a0.f10 h2  _ _ w hS hx1_48)) (by kernel_rfl) (fun _ => ?_)
       refine O.q (v := .bool false) (some 52) (Qu.eqv (u := .bool x1_48) (v := .bool false) (0, 0) [] (by kernel_rfl) (congrArg Value.bool hc6)) (by kernel_rfl) ?_
       refine O.pure 39 [] [2] [] (fr' := [(2, .bool false)]) (bx' := [⟨p0_0, [.int .i64 a0.f0, .int .i64 a0.f1, .int .i64 a0.f2, .int .i64 a0.f3, .int .i64 a0.f4, .int .i64 a0.f5, .int .i64 a0.f6, .int .i64 a0.f7, .slice h0.1 a0.f8.length h0.2, .slice h1.1 a0.f9.length h1.2, .slice h2.1 a0.f10.length h2.2, .int .i64 a0.f11.f0, .int .i64 a0.f11.f1, .slice h3.1 a0.f11.f2.length h3.2, .slice h4.1 a0.f11.f3.length h4.2, .slice h5.1 a0.f11.f4.length h5.2, .slice h6.1 a0.f12.length h6.2], 29⟩]) (by kernel_rfl) ?_
       refine O.nil (by kernel_rfl) ?_
       obtain rfl := Option.some.inj H
       exact J.doneS [] [] [] [] [] () (vs := [.bool false]) (by kernel_rfl) (by kernel_rfl) (by kernel_rfl) (by kernel_rfl) (by kernel_rfl) (by decide)
     ·refine J.region (by kernel_rfl) ?_
      refine O.pure 2 [(0, 0)] [1, 4] [p0_0, 0] (fr' := [(1, .pointer (some ⟨p0_0, 0, none⟩)), (4, .int .i64 a0.f0)]) (bx' := [⟨p0_0, [.int .i64 a0.f0, .int .i64 a0.f1, .int .i64 a0.f2, .int .i64 a0.f3, .int .i64 a0.f4, .int .i64 a0.f5, .int .i64 a0.f6, .int .i64 a0.f7, .slice h0.1 a0.f8.length h0.2, .slice h1.1 a0.f9.length h1.2, .slice h2.1 a0.f10.length h2.2, .int .i64 a0.f11.f0, .int .i64 a0.f11.f1, .slice h3.1 a0.f11.f2.length h3.2, .slice h4.1 a0.f11.f3.length h4.2, .slice h5.1 a0.f11.f4.length h5.2, .slice h6.1 a0.f12.length h6.2], 29⟩]) (by kernel_rfl) ?_
      refine O.q (v := .bool true) (some 5) (Qu.eqv (u := .bool (decide (a0.f0 ≥ 1))) (v := .bool true) (0, 0) [] (by kernel_rfl) (congrArg Value.bool hc1)) (by kernel_rfl) ?_
      refine O.pure 3 [(0, 0)] [1, 6, 8] [p0_0, 0] (fr' := [(1, .pointer (some ⟨p0_0, 0, none⟩)), (6, .bool true), (8, .int .i64 a0.f0)]) (bx' := [⟨p0_0, [.int .i64 a0.f0, .int .i64 a0.f1, .int .i64 a0.f2, .int .i64 a0.f3, .int .i64 a0.f4, .int .i64 a0.f5, .int .i64 a0.f6, .int .i64 a0.f7, .slice h0.1 a0.f8.length h0.2, .slice h1.1 a0.f9.length h1.2, .slice h2.1 a0.f10.length h2.2, .int .i64 a0.f11.f0, .int .i64 a0.f11.f1, .slice h3.1 a0.f11.f2.length h3.2, .slice h4.1 a0.f11.f3.length h4.2, .slice h5.1 a0.f11.f4.length h5.2, .slice h6.1 a0.f12.length h6.2], 29⟩]) (by kernel_rfl) ?_
      refine O.q (v := .bool true) (some 9) (Qu.eqv (u := .bool (decide (a0.f0 ≤ 11))) (v := .bool true) (0, 0) [] (by kernel_rfl) (congrArg Value.bool hc2)) (by kernel_rfl) ?_
      refine O.pure 22 [(0, 1), (0, 2), (0, 3), (0, 4), (0, 5), (0, 6), (0, 7), (0, 11), (0, 12)] [1, 11, 13, 15, 17, 19, 21, 23, 25, 28, 31] [p0_0, 1, p0_0, 2, p0_0, 3, p0_0, 4, p0_0, 5, p0_0, 6, p0_0, 7, p0_0, 11, p0_0, 12] (fr' := [(1, .pointer (some ⟨p0_0, 0, none⟩)), (11, .bool true), (13, .int .i64 a0.f1), (15, .int .i64 a0.f2), (17, .int .i64 a0.f3), (19, .int .i64 a0.f4), (21, .int .i64 a0.f5), (23, .int .i64 a0.f6), (25, .int .i64 a0.f7), (28, .int .i64 a0.f11.f0), (31, .int .i64 a0.f11.f1)]) (bx' := [⟨p0_0, [.int .i64 a0.f0, .int .i64 a0.f1, .int .i64 a0.f2, .int .i64 a0.f3, .int .i64 a0.f4, .int .i64 a0.f5, .int .i64 a0.f6, .int .i64 a0.f7, .slice h0.1 a0.f8.length h0.2, .slice h1.1 a0.f9.length h1.2, .slice h2.1 a0.f10.length h2.2, .int .i64 a0.f11.f0, .int .i64 a0.f11.f1, .slice h3.1 a0.f11.f2.length h3.2, .slice h4.1 a0.f11.f3.length h4.2, .slice h5.1 a0.f11.f4.length h5.2, .slice h6.1 a0.f12.length h6.2], 29⟩]) (by kernel_rfl) ?_
      refine O.e (some 32) (Ev.lit (t := 22) (len := 9) (parts := #[(0, .tmp 13), (1, .tmp 15), (2, .tmp 17), (3, .tmp 19), (4, .tmp 21), (5, .tmp 23), (6, .tmp 25), (7, .tmp 28), (8, .tmp 31)]) (ps := [(0, .int .i64 a0.f1), (1, .int .i64 a0.f2), (2, .int .i64 a0.f3), (3, .int .i64 a0.f4), (4, .int .i64 a0.f5), (5, .int .i64 a0.f6), (6, .int .i64 a0.f7), (7, .int .i64 a0.f11.f0), (8, .int .i64 a0.f11.f1)]) (cs := [.int .i64 a0.f1, .int .i64 a0.f2, .int .i64 a0.f3, .int .i64 a0.f4, .int .i64 a0.f5, .int .i64 a0.f6, .int .i64 a0.f7, .int .i64 a0.f11.f0, .int .i64 a0.f11.f1]) (e := 3) (Kd.int .i64) ([a0.f1, a0.f2, a0.f3, a0.f4, a0.f5, a0.f6, a0.f7, a0.f11.f0, a0.f11.f1] : List Int) (by kernel_rfl) (by kernel_rfl) (by kernel_rfl) (by kernel_rfl) (by kernel_rfl) (by decide) (fun w' hφ => (Els.cons (c := [.int .i64 a0.f1]) (rfl) (Els.cons (c := [.int .i64 a0.f2]) (rfl) (Els.cons (c := [.int .i64 a0.f3]) (rfl) (Els.cons (c := [.int .i64 a0.f4]) (rfl) (Els.cons (c := [.int .i64 a0.f5]) (rfl) (Els.cons (c := [.int .i64 a0.f6]) (rfl) (Els.cons (c := [.int .i64 a0.f7]) (rfl) (Els.cons (c := [.int .i64 a0.f11.f0]) (rfl) (Els.cons (c := [.int .i64 a0.f11.f1]) (rfl) (Els.nil _ _ _)))))))))))) (by kernel_rfl) (fun p1_29 => ?_)
      refine O.e (some 33) (Ev.callLb (xs1 := [.const (.int .i64 9), .tmp 32]) [0] (fun w hS => (hS.rowsel [0] rfl (by decide)).freezeL (hh := ((some ⟨p1_29, 0, none⟩, 9) : Hd)) (m := ([a0.f1, a0.f2, a0.f3, a0.f4, a0.f5, a0.f6, a0.f7, a0.f11.f0, a0.f11.f1] : List Int).length) (xs := ([a0.f1, a0.f2, a0.f3, a0.f4, a0.f5, a0.f6, a0.f7, a0.f11.f0, a0.f11.f1] : List Int)) rfl) (by kernel_rfl) (by kernel_rfl) (fun _ q hq => by cases hq) (fun w hS => mail_fair.con K 9 ([a0.f1, a0.f2, a0.f3, a0.f4, a0.f5, a0.f6, a0.f7, a0.f11.f0, a0.f11.f1] : List Int) ((some ⟨p1_29, 0, none⟩, 9) : Hd)  _ _ w hS hx1_30)) (by kernel_rfl) (fun _ => ?_)
      refine O.q (v := .bool true) (some 34) (Qu.eqv (u := .bool x1_30) (v := .bool true) (0, 0) [] (by kernel_rfl) (congrArg Value.bool hc3)) (by kernel_rfl) ?_
      refine O.pure 3 [(0, 8)] [1, 35, 37] [p0_0, 8] (fr' := [(1, .pointer (some ⟨p0_0, 0, none⟩)), (35, .bool true), (37, .slice h0.1 a0.f8.length h0.2)]) (bx' := [⟨p0_0, [.int .i64 a0.f0, .int .i64 a0.f1, .int .i64 a0.f2, .int .i64 a0.f3, .int .i64 a0.f4, .int .i64 a0.f5, .int .i64 a0.f6, .int .i64 a0.f7, .slice h0.1 a0.f8.length h0.2, .slice h1.1 a0.f9.length h1.2, .slice h2.1 a0.f10.length h2.2, .int .i64 a0.f11.f0, .int .i64 a0.f11.f1, .slice h3.1 a0.f11.f2.length h3.2, .slice h4.1 a0.f11.f3.length h4.2, .slice h5.1 a0.f11.f4.length h5.2, .slice h6.1 a0.f12.length h6.2], 29⟩]) (by kernel_rfl) ?_
      refine O.e (some 38) (Ev.call0 (xs := [.const (.int .i64 6), .tmp 37]) [0] (by kernel_rfl) (by kernel_rfl) (fun w hS => mail_fair.con K 6 a0.f8 h0  _ _ w hS hx1_35)) (by kernel_rfl) (fun _ => ?_)
      refine O.q (v := .bool true) (some 39) (Qu.eqv (u := .bool x1_35) (v := .bool true) (0, 0) [] (by kernel_rfl) (congrArg Value.bool hc4)) (by kernel_rfl) ?_
      refine O.pure 3 [(0, 9)] [1, 40, 42] [p0_0, 9] (fr' := [(1, .pointer (some ⟨p0_0, 0, none⟩)), (40, .bool true), (42, .slice h1.1 a0.f9.length h1.2)]) (bx' := [⟨p0_0, [.int .i64 a0.f0, .int .i64 a0.f1, .int .i64 a0.f2, .int .i64 a0.f3, .int .i64 a0.f4, .int .i64 a0.f5, .int .i64 a0.f6, .int .i64 a0.f7, .slice h0.1 a0.f8.length h0.2, .slice h1.1 a0.f9.length h1.2, .slice h2.1 a0.f10.length h2.2, .int .i64 a0.f11.f0, .int .i64 a0.f11.f1, .slice h3.1 a0.f11.f2.length h3.2, .slice h4.1 a0.f11.f3.length h4.2, .slice h5.1 a0.f11.f4.length h5.2, .slice h6.1 a0.f12.length h6.2], 29⟩]) (by kernel_rfl) ?_
      refine O.e (some 43) (Ev.call0 (xs := [.const (.int .i64 5), .tmp 42]) [1] (by kernel_rfl) (by kernel_rfl) (fun w hS => mail_fair.con K 5 a0.f9 h1  _ _ w hS hx1_40)) (by kernel_rfl) (fun _ => ?_)
      refine O.q (v := .bool false) (some 44) (Qu.eqv (u := .bool x1_40) (v := .bool false) (0, 0) [] (by kernel_rfl) (congrArg Value.bool hc5)) (by kernel_rfl) ?_
      refine O.pure 47 [] [2] [] (fr' := [(2, .bool false)]) (bx' := [⟨p0_0, [.int .i64 a0.f0, .int .i64 a0.f1, .int .i64 a0.f2, .int .i64 a0.f3, .int .i64 a0.f4, .int .i64 a0.f5, .int .i64 a0.f6, .int .i64 a0.f7, .slice h0.1 a0.f8.length h0.2, .slice h1.1 a0.f9.length h1.2, .slice h2.1 a0.f10.length h2.2, .int .i64 a0.f11.f0, .int .i64 a0.f11.f1, .slice h3.1 a0.f11.f2.length h3.2, .slice h4.1 a0.f11.f3.length h4.2, .slice h5.1 a0.f11.f4.length h5.2, .slice h6.1 a0.f12.length h6.2], 29⟩]) (by kernel_rfl) ?_
      refine O.nil (by kernel_rfl) ?_
      obtain rfl := Option.some.inj H
      exact J.doneS [] [] [] [] [] () (vs := [.bool false]) (by kernel_rfl) (by kernel_rfl) (by kernel_rfl) (by kernel_rfl) (by kernel_rfl) (by decide)
    ·refine J.region (by kernel_rfl) ?_
     refine O.pure 2 [(0, 0)] [1, 4] [p0_0, 0] (fr' := [(1, .pointer (some ⟨p0_0, 0, none⟩)), (4, .int .i64 a0.f0)]) (bx' := [⟨p0_0, [.int .i64 a0.f0, .int .i64 a0.f1, .int .i64 a0.f2, .int .i64 a0.f3, .int .i64 a0.f4, .int .i64 a0.f5, .int .i64 a0.f6, .int .i64 a0.f7, .slice h0.1 a0.f8.length h0.2, .slice h1.1 a0.f9.length h1.2, .slice h2.1 a0.f10.length h2.2, .int .i64 a0.f11.f0, .int .i64 a0.f11.f1, .slice h3.1 a0.f11.f2.length h3.2, .slice h4.1 a0.f11.f3.length h4.2, .slice h5.1 a0.f11.f4.length h5.2, .slice h6.1 a0.f12.length h6.2], 29⟩]) (by kernel_rfl) ?_
     refine O.q (v := .bool true) (some 5) (Qu.eqv (u := .bool (decide (a0.f0 ≥ 1))) (v := .bool true) (0, 0) [] (by kernel_rfl) (congrArg Value.bool hc1)) (by kernel_rfl) ?_
     refine O.pure 3 [(0, 0)] [1, 6, 8] [p0_0, 0] (fr' := [(1, .pointer (some ⟨p0_0, 0, none⟩)), (6, .bool true), (8, .int .i64 a0.f0)]) (bx' := [⟨p0_0, [.int .i64 a0.f0, .int .i64 a0.f1, .int .i64 a0.f2, .int .i64 a0.f3, .int .i64 a0.f4, .int .i64 a0.f5, .int .i64 a0.f6, .int .i64 a0.f7, .slice h0.1 a0.f8.length h0.2, .slice h1.1 a0.f9.length h1.2, .slice h2.1 a0.f10.length h2.2, .int .i64 a0.f11.f0, .int .i64 a0.f11.f1, .slice h3.1 a0.f11.f2.length h3.2, .slice h4.1 a0.f11.f3.length h4.2, .slice h5.1 a0.f11.f4.length h5.2, .slice h6.1 a0.f12.length h6.2], 29⟩]) (by kernel_rfl) ?_
     refine O.q (v := .bool true) (some 9) (Qu.eqv (u := .bool (decide (a0.f0 ≤ 11))) (v := .bool true) (0, 0) [] (by kernel_rfl) (congrArg Value.bool hc2)) (by kernel_rfl) ?_
     refine O.pure 22 [(0, 1), (0, 2), (0, 3), (0, 4), (0, 5), (0, 6), (0, 7), (0, 11), (0, 12)] [1, 11, 13, 15, 17, 19, 21, 23, 25, 28, 31] [p0_0, 1, p0_0, 2, p0_0, 3, p0_0, 4, p0_0, 5, p0_0, 6, p0_0, 7, p0_0, 11, p0_0, 12] (fr' := [(1, .pointer (some ⟨p0_0, 0, none⟩)), (11, .bool true), (13, .int .i64 a0.f1), (15, .int .i64 a0.f2), (17, .int .i64 a0.f3), (19, .int .i64 a0.f4), (21, .int .i64 a0.f5), (23, .int .i64 a0.f6), (25, .int .i64 a0.f7), (28, .int .i64 a0.f11.f0), (31, .int .i64 a0.f11.f1)]) (bx' := [⟨p0_0, [.int .i64 a0.f0, .int .i64 a0.f1, .int .i64 a0.f2, .int .i64 a0.f3, .int .i64 a0.f4, .int .i64 a0.f5, .int .i64 a0.f6, .int .i64 a0.f7, .slice h0.1 a0.f8.length h0.2, .slice h1.1 a0.f9.length h1.2, .slice h2.1 a0.f10.length h2.2, .int .i64 a0.f11.f0, .int .i64 a0.f11.f1, .slice h3.1 a0.f11.f2.length h3.2, .slice h4.1 a0.f11.f3.length h4.2, .slice h5.1 a0.f11.f4.length h5.2, .slice h6.1 a0.f12.length h6.2], 29⟩]) (by kernel_rfl) ?_
     refine O.e (some 32) (Ev.lit (t := 22) (len := 9) (parts := #[(0, .tmp 13), (1, .tmp 15), (2, .tmp 17), (3, .tmp 19), (4, .tmp 21), (5, .tmp 23), (6, .tmp 25), (7, .tmp 28), (8, .tmp 31)]) (ps := [(0, .int .i64 a0.f1), (1, .int .i64 a0.f2), (2, .int .i64 a0.f3), (3, .int .i64 a0.f4), (4, .int .i64 a0.f5), (5, .int .i64 a0.f6), (6, .int .i64 a0.f7), (7, .int .i64 a0.f11.f0), (8, .int .i64 a0.f11.f1)]) (cs := [.int .i64 a0.f1, .int .i64 a0.f2, .int .i64 a0.f3, .int .i64 a0.f4, .int .i64 a0.f5, .int .i64 a0.f6, .int .i64 a0.f7, .int .i64 a0.f11.f0, .int .i64 a0.f11.f1]) (e := 3) (Kd.int .i64) ([a0.f1, a0.f2, a0.f3, a0.f4, a0.f5, a0.f6, a0.f7, a0.f11.f0, a0.f11.f1] : List Int) (by kernel_rfl) (by kernel_rfl) (by kernel_rfl) (by kernel_rfl) (by kernel_rfl) (by decide) (fun w' hφ => (Els.cons (c := [.int .i64 a0.f1]) (rfl) (Els.cons (c := [.int .i64 a0.f2]) (rfl) (Els.cons (c := [.int .i64 a0.f3]) (rfl) (Els.cons (c := [.int .i64 a0.f4]) (rfl) (Els.cons (c := [.int .i64 a0.f5]) (rfl) (Els.cons (c := [.int .i64 a0.f6]) (rfl) (Els.cons (c := [.int .i64 a0.f7]) (rfl) (Els.cons (c := [.int .i64 a0.f11.f0]) (rfl) (Els.cons (c := [.int .i64 a0.f11.f1]) (rfl) (Els.nil _ _ _)))))))))))) (by kernel_rfl) (fun p1_29 => ?_)
     refine O.e (some 33) (Ev.callLb (xs1 := [.const (.int .i64 9), .tmp 32]) [0] (fun w hS => (hS.rowsel [0] rfl (by decide)).freezeL (hh := ((some ⟨p1_29, 0, none⟩, 9) : Hd)) (m := ([a0.f1, a0.f2, a0.f3, a0.f4, a0.f5, a0.f6, a0.f7, a0.f11.f0, a0.f11.f1] : List Int).length) (xs := ([a0.f1, a0.f2, a0.f3, a0.f4, a0.f5, a0.f6, a0.f7, a0.f11.f0, a0.f11.f1] : List Int)) rfl) (by kernel_rfl) (by kernel_rfl) (fun _ q hq => by cases hq) (fun w hS => mail_fair.con K 9 ([a0.f1, a0.f2, a0.f3, a0.f4, a0.f5, a0.f6, a0.f7, a0.f11.f0, a0.f11.f1] : List Int) ((some ⟨p1_29, 0, none⟩, 9) : Hd)  _ _ w hS hx1_30)) (by kernel_rfl) (fun _ => ?_)
     refine O.q (v := .bool true) (some 34) (Qu.eqv (u := .bool x1_30) (v := .bool true) (0, 0) [] (by kernel_rfl) (congrArg Value.bool hc3)) (by kernel_rfl) ?_
     refine O.pure 3 [(0, 8)] [1, 35, 37] [p0_0, 8] (fr' := [(1, .pointer (some ⟨p0_0, 0, none⟩)), (35, .bool true), (37, .slice h0.1 a0.f8.length h0.2)]) (bx' := [⟨p0_0, [.int .i64 a0.f0, .int .i64 a0.f1, .int .i64 a0.f2, .int .i64 a0.f3, .int .i64 a0.f4, .int .i64 a0.f5, .int .i64 a0.f6, .int .i64 a0.f7, .slice h0.1 a0.f8.length h0.2, .slice h1.1 a0.f9.length h1.2, .slice h2.1 a0.f10.length h2.2, .int .i64 a0.f11.f0, .int .i64 a0.f11.f1, .slice h3.1 a0.f11.f2.length h3.2, .slice h4.1 a0.f11.f3.length h4.2, .slice h5.1 a0.f11.f4.length h5.2, .slice h6.1 a0.f12.length h6.2], 29⟩]) (by kernel_rfl) ?_
     refine O.e (some 38) (Ev.call0 (xs := [.const (.int .i64 6), .tmp 37]) [0] (by kernel_rfl) (by kernel_rfl) (fun w hS => mail_fair.con K 6 a0.f8 h0  _ _ w hS hx1_35)) (by kernel_rfl) (fun _ => ?_)
     refine O.q (v := .bool false) (some 39) (Qu.eqv (u := .bool x1_35) (v := .bool false) (0, 0) [] (by kernel_rfl) (congrArg Value.bool hc4)) (by kernel_rfl) ?_
     refine O.pure 52 [] [2] [] (fr' := [(2, .bool false)]) (bx' := [⟨p0_0, [.int .i64 a0.f0, .int .i64 a0.f1, .int .i64 a0.f2, .int .i64 a0.f3, .int .i64 a0.f4, .int .i64 a0.f5, .int .i64 a0.f6, .int .i64 a0.f7, .slice h0.1 a0.f8.length h0.2, .slice h1.1 a0.f9.length h1.2, .slice h2.1 a0.f10.length h2.2, .int .i64 a0.f11.f0, .int .i64 a0.f11.f1, .slice h3.1 a0.f11.f2.length h3.2, .slice h4.1 a0.f11.f3.length h4.2, .slice h5.1 a0.f11.f4.length h5.2, .slice h6.1 a0.f12.length h6.2], 29⟩]) (by kernel_rfl) ?_
     refine O.nil (by kernel_rfl) ?_
     obtain rfl := Option.some.inj H
     exact J.doneS [] [] [] [] [] () (vs := [.bool false]) (by kernel_rfl) (by kernel_rfl) (by kernel_rfl) (by kernel_rfl) (by kernel_rfl) (by decide)
   ·refine J.region (by kernel_rfl) ?_
    refine O.pure 2 [(0, 0)] [1, 4] [p0_0, 0] (fr' := [(1, .pointer (some ⟨p0_0, 0, none⟩)), (4, .int .i64 a0.f0)]) (bx' := [⟨p0_0, [.int .i64 a0.f0, .int .i64 a0.f1, .int .i64 a0.f2, .int .i64 a0.f3, .int .i64 a0.f4, .int .i64 a0.f5, .int .i64 a0.f6, .int .i64 a0.f7, .slice h0.1 a0.f8.length h0.2, .slice h1.1 a0.f9.length h1.2, .slice h2.1 a0.f10.length h2.2, .int .i64 a0.f11.f0, .int .i64 a0.f11.f1, .slice h3.1 a0.f11.f2.length h3.2, .slice h4.1 a0.f11.f3.length h4.2, .slice h5.1 a0.f11.f4.length h5.2, .slice h6.1 a0.f12.length h6.2], 29⟩]) (by kernel_rfl) ?_
    refine O.q (v := .bool true) (some 5) (Qu.eqv (u := .bool (decide (a0.f0 ≥ 1))) (v := .bool true) (0, 0) [] (by kernel_rfl) (congrArg Value.bool hc1)) (by kernel_rfl) ?_
    refine O.pure 3 [(0, 0)] [1, 6, 8] [p0_0, 0] (fr' := [(1, .pointer (some ⟨p0_0, 0, none⟩)), (6, .bool true), (8, .int .i64 a0.f0)]) (bx' := [⟨p0_0, [.int .i64 a0.f0, .int .i64 a0.f1, .int .i64 a0.f2, .int .i64 a0.f3, .int .i64 a0.f4, .int .i64 a0.f5, .int .i64 a0.f6, .int .i64 a0.f7, .slice h0.1 a0.f8.length h0.2, .slice h1.1 a0.f9.length h1.2, .slice h2.1 a0.f10.length h2.2, .int .i64 a0.f11.f0, .int .i64 a0.f11.f1, .slice h3.1 a0.f11.f2.length h3.2, .slice h4.1 a0.f11.f3.length h4.2, .slice h5.1 a0.f11.f4.length h5.2, .slice h6.1 a0.f12.length h6.2], 29⟩]) (by kernel_rfl) ?_
    refine O.q (v := .bool true) (some 9) (Qu.eqv (u := .bool (decide (a0.f0 ≤ 11))) (v := .bool true) (0, 0) [] (by kernel_rfl) (congrArg Value.bool hc2)) (by kernel_rfl) ?_
    refine O.pure 22 [(0, 1), (0, 2), (0, 3), (0, 4), (0, 5), (0, 6), (0, 7), (0, 11), (0, 12)] [1, 11, 13, 15, 17, 19, 21, 23, 25, 28, 31] [p0_0, 1, p0_0, 2, p0_0, 3, p0_0, 4, p0_0, 5, p0_0, 6, p0_0, 7, p0_0, 11, p0_0, 12] (fr' := [(1, .pointer (some ⟨p0_0, 0, none⟩)), (11, .bool true), (13, .int .i64 a0.f1), (15, .int .i64 a0.f2), (17, .int .i64 a0.f3), (19, .int .i64 a0.f4), (21, .int .i64 a0.f5), (23, .int .i64 a0.f6), (25, .int .i64 a0.f7), (28, .int .i64 a0.f11.f0), (31, .int .i64 a0.f11.f1)]) (bx' := [⟨p0_0, [.int .i64 a0.f0, .int .i64 a0.f1, .int .i64 a0.f2, .int .i64 a0.f3, .int .i64 a0.f4, .int .i64 a0.f5, .int .i64 a0.f6, .int .i64 a0.f7, .slice h0.1 a0.f8.length h0.2, .slice h1.1 a0.f9.length h1.2, .slice h2.1 a0.f10.length h2.2, .int .i64 a0.f11.f0, .int .i64 a0.f11.f1, .slice h3.1 a0.f11.f2.length h3.2, .slice h4.1 a0.f11.f3.length h4.2, .slice h5.1 a0.f11.f4.length h5.2, .slice h6.1 a0.f12.length h6.2], 29⟩]) (by kernel_rfl) ?_
    refine O.e (some 32) (Ev.lit (t := 22) (len := 9) (parts := #[(0, .tmp 13), (1, .tmp 15), (2, .tmp 17), (3, .tmp 19), (4, .tmp 21), (5, .tmp 23), (6, .tmp 25), (7, .tmp 28), (8, .tmp 31)]) (ps := [(0, .int .i64 a0.f1), (1, .int .i64 a0.f2), (2, .int .i64 a0.f3), (3, .int .i64 a0.f4), (4, .int .i64 a0.f5), (5, .int .i64 a0.f6), (6, .int .i64 a0.f7), (7, .int .i64 a0.f11.f0), (8, .int .i64 a0.f11.f1)]) (cs := [.int .i64 a0.f1, .int .i64 a0.f2, .int .i64 a0.f3, .int .i64 a0.f4, .int .i64 a0.f5, .int .i64 a0.f6, .int .i64 a0.f7, .int .i64 a0.f11.f0, .int .i64 a0.f11.f1]) (e := 3) (Kd.int .i64) ([a0.f1, a0.f2, a0.f3, a0.f4, a0.f5, a0.f6, a0.f7, a0.f11.f0, a0.f11.f1] : List Int) (by kernel_rfl) (by kernel_rfl) (by kernel_rfl) (by kernel_rfl) (by kernel_rfl) (by decide) (fun w' hφ => (Els.cons (c := [.int .i64 a0.f1]) (rfl) (Els.cons (c := [.int .i64 a0.f2]) (rfl) (Els.cons (c := [.int .i64 a0.f3]) (rfl) (Els.cons (c := [.int .i64 a0.f4]) (rfl) (Els.cons (c := [.int .i64 a0.f5]) (rfl) (Els.cons (c := [.int .i64 a0.f6]) (rfl) (Els.cons (c := [.int .i64 a0.f7]) (rfl) (Els.cons (c := [.int .i64 a0.f11.f0]) (rfl) (Els.cons (c := [.int .i64 a0.f11.f1]) (rfl) (Els.nil _ _ _)))))))))))) (by kernel_rfl) (fun p1_29 => ?_)
    refine O.e (some 33) (Ev.callLb (xs1 := [.const (.int .i64 9), .tmp 32]) [0] (fun w hS => (hS.rowsel [0] rfl (by decide)).freezeL (hh := ((some ⟨p1_29, 0, none⟩, 9) : Hd)) (m := ([a0.f1, a0.f2, a0.f3, a0.f4, a0.f5, a0.f6, a0.f7, a0.f11.f0, a0.f11.f1] : List Int).length) (xs := ([a0.f1, a0.f2, a0.f3, a0.f4, a0.f5, a0.f6, a0.f7, a0.f11.f0, a0.f11.f1] : List Int)) rfl) (by kernel_rfl) (by kernel_rfl) (fun _ q hq => by cases hq) (fun w hS => mail_fair.con K 9 ([a0.f1, a0.f2, a0.f3, a0.f4, a0.f5, a0.f6, a0.f7, a0.f11.f0, a0.f11.f1] : List Int) ((some ⟨p1_29, 0, none⟩, 9) : Hd)  _ _ w hS hx1_30)) (by kernel_rfl) (fun _ => ?_)
    refine O.q (v := .bool false) (some 34) (Qu.eqv (u := .bool x1_30) (v := .bool false) (0, 0) [] (by kernel_rfl) (congrArg Value.bool hc3)) (by kernel_rfl) ?_
    refine O.pure 57 [] [2] [] (fr' := [(2, .bool false)]) (bx' := [⟨p0_0, [.int .i64 a0.f0, .int .i64 a0.f1, .int .i64 a0.f2, .int .i64 a0.f3, .int .i64 a0.f4, .int .i64 a0.f5, .int .i64 a0.f6, .int .i64 a0.f7, .slice h0.1 a0.f8.length h0.2, .slice h1.1 a0.f9.length h1.2, .slice h2.1 a0.f10.length h2.2, .int .i64 a0.f11.f0, .int .i64 a0.f11.f1, .slice h3.1 a0.f11.f2.length h3.2, .slice h4.1 a0.f11.f3.length h4.2, .slice h5.1 a0.f11.f4.length h5.2, .slice h6.1 a0.f12.length h6.2], 29⟩]) (by kernel_rfl) ?_
    refine O.nil (by kernel_rfl) ?_
    obtain rfl := Option.some.inj H
    exact J.doneS [] [] [] [] [] () (vs := [.bool false]) (by kernel_rfl) (by kernel_rfl) (by kernel_rfl) (by kernel_rfl) (by kernel_rfl) (by decide)
  ·refine J.region (by kernel_rfl) ?_
   refine O.pure 2 [(0, 0)] [1, 4] [p0_0, 0] (fr' := [(1, .pointer (some ⟨p0_0, 0, none⟩)), (4, .int .i64 a0.f0)]) (bx' := [⟨p0_0, [.int .i64 a0.f0, .int .i64 a0.f1, .int .i64 a0.f2, .int .i64 a0.f3, .int .i64 a0.f4, .int .i64 a0.f5, .int .i64 a0.f6, .int .i64 a0.f7, .slice h0.1 a0.f8.length h0.2, .slice h1.1 a0.f9.length h1.2, .slice h2.1 a0.f10.length h2.2, .int .i64 a0.f11.f0, .int .i64 a0.f11.f1, .slice h3.1 a0.f11.f2.length h3.2, .slice h4.1 a0.f11.f3.length h4.2, .slice h5.1 a0.f11.f4.length h5.2, .slice h6.1 a0.f12.length h6.2], 29⟩]) (by kernel_rfl) ?_
   refine O.q (v := .bool true) (some 5) (Qu.eqv (u := .bool (decide (a0.f0 ≥ 1))) (v := .bool true) (0, 0) [] (by kernel_rfl) (congrArg Value.bool hc1)) (by kernel_rfl) ?_
   refine O.pure 3 [(0, 0)] [1, 6, 8] [p0_0, 0] (fr' := [(1, .pointer (some ⟨p0_0, 0, none⟩)), (6, .bool true), (8, .int .i64 a0.f0)]) (bx' := [⟨p0_0, [.int .i64 a0.f0, .int .i64 a0.f1, .int .i64 a0.f2, .int .i64 a0.f3, .int .i64 a0.f4, .int .i64 a0.f5, .int .i64 a0.f6, .int .i64 a0.f7, .slice h0.1 a0.f8.length h0.2, .slice h1.1 a0.f9.length h1.2, .slice h2.1 a0.f10.length h2.2, .int .i64 a0.f11.f0, .int .i64 a0.f11.f1, .slice h3.1 a0.f11.f2.length h3.2, .slice h4.1 a0.f11.f3.length h4.2, .slice h5.1 a0.f11.f4.length h5.2, .slice h6.1 a0.f12.length h6.2], 29⟩]) (by kernel_rfl) ?_
   refine O.q (v := .bool false) (some 9) (Qu.eqv (u := .bool (decide (a0.f0 ≤ 11))) (v := .bool false) (0, 0) [] (by kernel_rfl) (congrArg Value.bool hc2)) (by kernel_rfl) ?_
   refine O.pure 82 [] [2] [] (fr' := [(2, .bool false)]) (bx' := [⟨p0_0, [.int .i64 a0.f0, .int .i64 a0.f1, .int .i64 a0.f2, .int .i64 a0.f3, .int .i64 a0.f4, .int .i64 a0.f5, .int .i64 a0.f6, .int .i64 a0.f7, .slice h0.1 a0.f8.length h0.2, .slice h1.1 a0.f9.length h1.2, .slice h2.1 a0.f10.length h2.2, .int .i64 a0.f11.f0, .int .i64 a0.f11.f1, .slice h3.1 a0.f11.f2.length h3.2, .slice h4.1 a0.f11.f3.length h4.2, .slice h5.1 a0.f11.f4.length h5.2, .slice h6.1 a0.f12.length h6.2], 29⟩]) (by kernel_rfl) ?_
   refine O.nil (by kernel_rfl) ?_
   obtain rfl := Option.some.inj H
   exact J.doneS [] [] [] [] [] () (vs := [.bool false]) (by kernel_rfl) (by kernel_rfl) (by kernel_rfl) (by kernel_rfl) (by kernel_rfl) (by decide)
 ·refine J.region (by kernel_rfl) ?_
  refine O.pure 2 [(0, 0)] [1, 4] [p0_0, 0] (fr' := [(1, .pointer (some ⟨p0_0, 0, none⟩)), (4, .int .i64 a0.f0)]) (bx' := [⟨p0_0, [.int .i64 a0.f0, .int .i64 a0.f1, .int .i64 a0.f2, .int .i64 a0.f3, .int .i64 a0.f4, .int .i64 a0.f5, .int .i64 a0.f6, .int .i64 a0.f7, .slice h0.1 a0.f8.length h0.2, .slice h1.1 a0.f9.length h1.2, .slice h2.1 a0.f10.length h2.2, .int .i64 a0.f11.f0, .int .i64 a0.f11.f1, .slice h3.1 a0.f11.f2.length h3.2, .slice h4.1 a0.f11.f3.length h4.2, .slice h5.1 a0.f11.f4.length h5.2, .slice h6.1 a0.f12.length h6.2], 29⟩]) (by kernel_rfl) ?_
  refine O.q (v := .bool false) (some 5) (Qu.eqv (u := .bool (decide (a0.f0 ≥ 1))) (v := .bool false) (0, 0) [] (by kernel_rfl) (congrArg Value.bool hc1)) (by kernel_rfl) ?_
  refine O.pure 86 [] [2] [] (fr' := [(2, .bool false)]) (bx' := [⟨p0_0, [.int .i64 a0.f0, .int .i64 a0.f1, .int .i64 a0.f2, .int .i64 a0.f3, .int .i64 a0.f4, .int .i64 a0.f5, .int .i64 a0.f6, .int .i64 a0.f7, .slice h0.1 a0.f8.length h0.2, .slice h1.1 a0.f9.length h1.2, .slice h2.1 a0.f10.length h2.2, .int .i64 a0.f11.f0, .int .i64 a0.f11.f1, .slice h3.1 a0.f11.f2.length h3.2, .slice h4.1 a0.f11.f3.length h4.2, .slice h5.1 a0.f11.f4.length h5.2, .slice h6.1 a0.f12.length h6.2], 29⟩]) (by kernel_rfl) ?_
  refine O.nil (by kernel_rfl) ?_
  obtain rfl := Option.some.inj H
  exact J.doneS [] [] [] [] [] () (vs := [.bool false]) (by kernel_rfl) (by kernel_rfl) (by kernel_rfl) (by kernel_rfl) (by kernel_rfl) (by decide)
/-! ### haywain/code.put: function 41 -/
def code_put.l1 (K : Nat) (a0 : Int) (a1 : Int) : Nat → ((List Int) × Int) → Option (List Int)
  | 0, _ => none
  | k + 1, s1 => cond (decide (s1.2 < a1)) ((shO (IntKind.wrap .i64 (8 * s1.2))).bind fun z5_8 => (idxO s1.1 (IntKind.wrap .i64 ((IntKind.wrap .i64 (a1 - 1)) - s1.2))).bind fun x5_10 => code_put.l1 K a0 a1 k ((s1.1.set ((IntKind.wrap .i64 ((IntKind.wrap .i64 (a1 - 1)) - s1.2)).toNat) (IntKind.wrap .u8 (shrI .u64 a0 (IntKind.wrap .i64 (8 * s1.2))))), (IntKind.wrap .i64 (s1.2 + 1)))) (some (s1.1))
def code_put.f (K : Nat) (a0 : Int) (a1 : Int) : Option (List Int) := (makO 1 a1).bind fun z1_1 => code_put.l1 K a0 a1 K ((List.replicate a1.toNat 0 : List Int), 0)
set_option maxRecDepth 100000 in
set_option maxHeartbeats 1000000 in
theorem code_put.con (K : Nat) (a0 : Int) (a1 : Int) (r : (List Int)) (X : Nat → Nat → Prop) (w : World) (hS : St X w [] [] [] [] [] w) (H : code_put.f K a0 a1 = some r) :
    Cn Try.prog 41 [.int .u64 a0, .int .i64 a1] X w [] (fun i : Hd => .slice i.1 r.length i.2) (fun i => []) (fun i => [mkRow (Kd.int .u8) 5 (.slice i.1 r.length i.2) r]) (fun i => []) := by
 refine Cn.of Try.func41 (by kernel_rfl) hS ?_
 unfold code_put.f at H
 refine J.seq (by kernel_rfl) ?_
 refine J.region (by kernel_rfl) ?_
 refine O.pure 1 [] [0, 1] [] (fr' := [(0, .int .u64 a0), (1, .int .i64 a1)]) (bx' := []) (by kernel_rfl) ?_
 refine O.nil (by kernel_rfl) ?_
 refine J.seq (by kernel_rfl) ?_
 obtain ⟨z1_1, hz1_1, H⟩ := bindE H
 obtain ⟨hz1_1a, hz1_1b⟩ := makE hz1_1
 refine J.region (by kernel_rfl) ?_
 refine O.pure 1 [] [0, 1, 7] [] (fr' := [(0, .int .u64 a0), (1, .int .i64 a1), (7, .int .i64 a1)]) (bx' := []) (by kernel_rfl) ?_
 refine O.e (some 8) (Ev.make (t := 36) (e := 5) (d := (Kd.int .u8)) (x := .tmp 7) (y := .tmp 7) (kl := .i64) (kc := .i64) (m := a1) (bytes := 1) (cz := [.int .u8 0]) 0 (by kernel_rfl) (by kernel_rfl) (by kernel_rfl) (by kernel_rfl) (by kernel_rfl) (by decide) hz1_1a hz1_1b (fun w' => rfl)) (by kernel_rfl) (fun p1_1 => ?_)
 refine O.pure 1 [] [0, 1, 5] [] (fr' := [(0, .int .u64 a0), (1, .int .i64 a1), (5, .slice ((some ⟨p1_1, 0, none⟩, a1.toNat) : Hd).1 a1.toNat ((some ⟨p1_1, 0, none⟩, a1.toNat) : Hd).2)]) (bx' := []) (by kernel_rfl) ?_
 refine O.nil (by kernel_rfl) ?_
 refine J.renS [0, 1, 5] (fr1 := [(0, .int .u64 a0), (1, .int .i64 a1), (5, .slice ((some ⟨p1_1, 0, none⟩, a1.toNat) : Hd).1 a1.toNat ((some ⟨p1_1, 0, none⟩, a1.toNat) : Hd).2)]) (bx1 := []) (rw1 := [mkRow (Kd.int .u8) 5 (.slice ((some ⟨p1_1, 0, none⟩, a1.toNat) : Hd).1 a1.toNat ((some ⟨p1_1, 0, none⟩, a1.toNat) : Hd).2) (List.replicate a1.toNat 0 : List Int)]) (fr' := [(0, .int .u64 a0), (1, .int .i64 a1), (5, .slice ((some ⟨p1_1, 0, none⟩, a1.toNat) : Hd).1 (List.replicate a1.toNat 0 : List Int).length ((some ⟨p1_1, 0, none⟩, a1.toNat) : Hd).2)]) (bx' := []) (rw' := [mkRow (Kd.int .u8) 5 (.slice ((some ⟨p1_1, 0, none⟩, a1.toNat) : Hd).1 (List.replicate a1.toNat 0 : List Int).length ((some ⟨p1_1, 0, none⟩, a1.toNat) : Hd).2) (List.replicate a1.toNat 0 : List Int)]) (by kernel_rfl) (by kernel_rfl) (by simp only [List.length_set, List.length_replicate]) ?_
 refine J.seq (by kernel_rfl) ?_
 refine J.seq (by kernel_rfl) ?_
 refine J.region (by kernel_rfl) ?_
 refine O.pure 2 [] [0, 1, 5, 9, 10] [] (fr' := [(0, .int .u64 a0), (1, .int .i64 a1), (5, .slice ((some ⟨p1_1, 0, none⟩, a1.toNat) : Hd).1 (List.replicate a1.toNat 0 : List Int).length ((some ⟨p1_1, 0, none⟩, a1.toNat) : Hd).2), (9, .int .i64 a1), (10, .int .i64 0)]) (bx' := []) (by kernel_rfl) ?_
 refine O.nil (by kernel_rfl) ?_
 refine J.block (id := 0) (by kernel_rfl) ?_
 refine J.loopI (σ := (List Int) × Int) (γ := Hd) (f := fun m_ s_ => code_put.l1 K a0 a1 m_ s_) (fun s1 g1 => [(0, .int .u64 a0), (1, .int .i64 a1), (5, .slice g1.1 s1.1.length g1.2), (9, .int .i64 a1), (10, .int .i64 s1.2)]) (fun s1 g1 => St X w [] [] [mkRow (Kd.int .u8) 5 (.slice g1.1 s1.1.length g1.2) s1.1] [] []) K ((List.replicate a1.toNat 0 : List Int), 0) ((some ⟨p1_1, 0, none⟩, a1.toNat) : Hd) (by kernel_rfl) H (fun _ => rfl) (fun m_ s1 H ih1 g1 => ?_) (fun h_ => ?_)
 ·unfold code_put.l1 at H
  refine J.seq (by kernel_rfl) ?_
  refine J.region (by kernel_rfl) ?_
  refine O.pure 1 [] [0, 1, 5, 9, 10, 11] [] (fr' := [(0, .int .u64 a0), (1, .int .i64 a1), (5, .slice g1.1 s1.1.length g1.2), (9, .int .i64 a1), (10, .int .i64 s1.2), (11, .bool (decide (s1.2 < a1)))]) (bx' := []) (by kernel_rfl) ?_
  refine O.nil (by kernel_rfl) ?_
  refine J.seq (by kernel_rfl) ?_
  rcases condE H with ⟨hc4, H⟩ | ⟨hc4, H⟩
  ·refine J.condT (x := .tmp 11) (t := (decide (s1.2 < a1))) (by kernel_rfl) (by kernel_rfl) hc4 ?_
   refine J.skip (by kernel_rfl) ?_
   refine J.seq (by kernel_rfl) ?_
   refine J.block (id := 1) (by kernel_rfl) ?_
   refine J.seq (by kernel_rfl) ?_
   refine J.region (by kernel_rfl) ?_
   refine O.pure 2 [] [0, 1, 5, 6, 9, 10] [] (fr' := [(0, .int .u64 a0), (1, .int .i64 a1), (5, .slice g1.1 s1.1.length g1.2), (6, .int .i64 s1.2), (9, .int .i64 a1), (10, .int .i64 s1.2)]) (bx' := []) (by kernel_rfl) ?_
   refine O.nil (by kernel_rfl) ?_
   obtain ⟨z5_8, hz5_8, H⟩ := bindE H
   have hz5_8a := shE hz5_8
   obtain ⟨x5_10, hx5_10, H⟩ := bindE H
   obtain ⟨hx5_10a, hx5_10⟩ := idxE hx5_10
   refine J.region (by kernel_rfl) ?_
   refine O.pure 8 [] [0, 1, 5, 9, 10, 13, 17, 18, 20] [] (fr' := [(0, .int .u64 a0), (1, .int .i64 a1), (5, .slice g1.1 s1.1.length g1.2), (9, .int .i64 a1), (10, .int .i64 s1.2), (13, .slice g1.1 s1.1.length g1.2), (17, .int .i64 (IntKind.wrap .i64 ((IntKind.wrap .i64 (a1 - 1)) - s1.2))), (18, .int .u64 a0), (20, .int .i64 (IntKind.wrap .i64 (8 * s1.2)))]) (bx' := []) (by kernel_rfl) ?_
   refine O.q (v := .int .u64 (shrI .u64 a0 (IntKind.wrap .i64 (8 * s1.2)))) (some 21) (Qu.shr (t := 80) (t' := 3) (x := .tmp 18) (y := .tmp 20) (k := .u64) (k' := .i64) (a := a0) (b := (IntKind.wrap .i64 (8 * s1.2))) (by kernel_rfl) (by kernel_rfl) (by kernel_rfl) hz5_8a) (by kernel_rfl) ?_
   refine O.pure 1 [] [0, 1, 5, 9, 10, 13, 17, 22] [] (fr' := [(0, .int .u64 a0), (1, .int .i64 a1), (5, .slice g1.1 s1.1.length g1.2), (9, .int .i64 a1), (10, .int .i64 s1.2), (13, .slice g1.1 s1.1.length g1.2), (17, .int .i64 (IntKind.wrap .i64 ((IntKind.wrap .i64 (a1 - 1)) - s1.2))), (22, .int .u8 (IntKind.wrap .u8 (shrI .u64 a0 (IntKind.wrap .i64 (8 * s1.2)))))]) (bx' := []) (by kernel_rfl) ?_
   refine O.mono (fun w hS => hS.pk) ?_
   refine O.peek (d := (Kd.int .u8)) (hh := g1) (m := s1.1.length) (i := (IntKind.wrap .i64 ((IntKind.wrap .i64 (a1 - 1)) - s1.2))) (by simpa only [List.length_set] using hx5_10) (Lay.int _ _) (fun p5_10 hp5_10A => ?_)
   refine O.q (v := .pointer (some ⟨p5_10.1, 0 + (IntKind.wrap .i64 ((IntKind.wrap .i64 (a1 - 1)) - s1.2)).toNat * 1, none⟩)) (some 23) (Qu.idx (t := 36) (x := .tmp 13) (y := .tmp 17) (len := s1.1.length) (c := g1.2) (kk := .i64) (sz := 1) (by kernel_rfl) (by kernel_rfl) (by kernel_rfl) (by kernel_rfl) hx5_10a (by have := idx_lt hx5_10; simpa only [List.length_set, List.length_replicate] using this) hp5_10A) (by kernel_rfl) ?_
   refine O.e none (Ev.storeR (t := 5) (x := .tmp 23) (y := .tmp 22) (hh := g1) (m := s1.1.length) (g := p5_10.1) (i := (IntKind.wrap .i64 ((IntKind.wrap .i64 (a1 - 1)) - s1.2)).toNat) (f := 0) (s := 1) (u := .pointer (some ⟨p5_10.1, 0 + (IntKind.wrap .i64 ((IntKind.wrap .i64 (a1 - 1)) - s1.2)).toNat * 1, none⟩)) (z := .int .u8 (IntKind.wrap .u8 (shrI .u64 a0 (IntKind.wrap .i64 (8 * s1.2))))) (cs := []) (ncs := [.int .u8 (IntKind.wrap .u8 (shrI .u64 a0 (IntKind.wrap .i64 (8 * s1.2))))]) (IntKind.wrap .u8 (shrI .u64 a0 (IntKind.wrap .i64 (8 * s1.2)))) none (by kernel_rfl) (by kernel_rfl) rfl (by kernel_rfl) hp5_10A (by have := idx_lt hx5_10; simpa only [List.length_set] using this) ⟨by kernel_rfl, by kernel_rfl, by kernel_rfl, by kernel_rfl⟩ ⟨rfl, rfl, rfl⟩ (by kernel_rfl) (fun w' hφ => rfl)) (by kernel_rfl) (fun _ => ?_)
   refine O.nil (by kernel_rfl) ?_
   refine J.mono (fun w hS => hS.unpk) ?_
   refine J.renS [0, 1, 5, 9, 10] (fr1 := [(0, .int .u64 a0), (1, .int .i64 a1), (5, .slice g1.1 s1.1.length g1.2), (9, .int .i64 a1), (10, .int .i64 s1.2)]) (bx1 := []) (rw1 := [mkRow (Kd.int .u8) 5 (.slice g1.1 s1.1.length g1.2) (s1.1.set ((IntKind.wrap .i64 ((IntKind.wrap .i64 (a1 - 1)) - s1.2)).toNat) (IntKind.wrap .u8 (shrI .u64 a0 (IntKind.wrap .i64 (8 * s1.2)))))]) (fr' := [(0, .int .u64 a0), (1, .int .i64 a1), (5, .slice g1.1 (s1.1.set ((IntKind.wrap .i64 ((IntKind.wrap .i64 (a1 - 1)) - s1.2)).toNat) (IntKind.wrap .u8 (shrI .u64 a0 (IntKind.wrap .i64 (8 * s1.2))))).length g1.2), (9, .int .i64 a1), (10, .int .i64 s1.2)]) (bx' := []) (rw' := [mkRow (Kd.int .u8) 5 (.slice g1.1 (s1.1.set ((IntKind.wrap .i64 ((IntKind.wrap .i64 (a1 - 1)) - s1.2)).toNat) (IntKind.wrap .u8 (shrI .u64 a0 (IntKind.wrap .i64 (8 * s1.2))))).length g1.2) (s1.1.set ((IntKind.wrap .i64 ((IntKind.wrap .i64 (a1 - 1)) - s1.2)).toNat) (IntKind.wrap .u8 (shrI .u64 a0 (IntKind.wrap .i64 (8 * s1.2)))))]) (by kernel_rfl) (by kernel_rfl) (by simp only [List.length_set, List.length_replicate]) ?_
   refine J.out ?_
   refine J.region (by kernel_rfl) ?_
   refine O.pure 2 [] [0, 1, 5, 9, 10] [] (fr' := [(0, .int .u64 a0), (1, .int .i64 a1), (5, .slice g1.1 (s1.1.set ((IntKind.wrap .i64 ((IntKind.wrap .i64 (a1 - 1)) - s1.2)).toNat) (IntKind.wrap .u8 (shrI .u64 a0 (IntKind.wrap .i64 (8 * s1.2))))).length g1.2), (9, .int .i64 a1), (10, .int .i64 (IntKind.wrap .i64 (s1.2 + 1)))]) (bx' := []) (by kernel_rfl) ?_
   refine O.nil (by kernel_rfl) ?_
   exact J.conv2 [0, 1, 5, 9, 10] [] [] [0] (by kernel_rfl) (by kernel_rfl) (by kernel_rfl) (by kernel_rfl) (by decide) (ih1 ((s1.1.set ((IntKind.wrap .i64 ((IntKind.wrap .i64 (a1 - 1)) - s1.2)).toNat) (IntKind.wrap .u8 (shrI .u64 a0 (IntKind.wrap .i64 (8 * s1.2))))), (IntKind.wrap .i64 (s1.2 + 1))) g1 H)
  ·refine J.condF (x := .tmp 11) (t := (decide (s1.2 < a1))) (by kernel_rfl) (by kernel_rfl) hc4 ?_
   refine J.exit (id := 0) (by kernel_rfl) rfl ?_
   refine J.seq (by kernel_rfl) ?_
   refine J.region (by kernel_rfl) ?_
   refine O.pure 2 [] [4] [] (fr' := [(4, .slice g1.1 s1.1.length g1.2)]) (bx' := []) (by kernel_rfl) ?_
   refine O.nil (by kernel_rfl) ?_
   obtain rfl := Option.some.inj H
   exact J.doneS [] [] [] [] [0] g1 (vs := [.slice g1.1 s1.1.length g1.2]) (by kernel_rfl) (by kernel_rfl) (by kernel_rfl) (by kernel_rfl) (by kernel_rfl) (by decide)
 ·exact J.conv2 [0, 1, 5, 9, 10] [] [] [0] (by kernel_rfl) (by kernel_rfl) (by kernel_rfl) (by kernel_rfl) (by decide) h_
/-! ### haywain/code.Num: function 25 -/
def code_Num.f (K : Nat) (a0 : Int) : Option (List Int) := (code_put.f K (IntKind.wrap .u64 a0) 8).bind fun x1_2 => some (x1_2)
set_option maxRecDepth 100000 in
set_option maxHeartbeats 1000000 in
theorem code_Num.con (K : Nat) (a0 : Int) (r : (List Int)) (X : Nat → Nat → Prop) (w : World) (hS : St X w [] [] [] [] [] w) (H : code_Num.f K a0 = some r) :
    Cn Try.prog 25 [.int .i64 a0] X w [] (fun i : Hd => .slice i.1 r.length i.2) (fun i => []) (fun i => [mkRow (Kd.int .u8) 5 (.slice i.1 r.length i.2) r]) (fun i => []) := by
 refine Cn.of Try.func25 (by kernel_rfl) hS ?_
 unfold code_Num.f at H
 refine J.seq (by kernel_rfl) ?_
 refine J.region (by kernel_rfl) ?_
 refine O.pure 1 [] [0] [] (fr' := [(0, .int .i64 a0)]) (bx' := []) (by kernel_rfl) ?_
 refine O.nil (by kernel_rfl) ?_
 refine J.seq (by kernel_rfl) ?_
 obtain ⟨x1_2, hx1_2, H⟩ := bindE H
 refine J.region (by kernel_rfl) ?_
 refine O.pure 2 [] [4] [] (fr' := [(4, .int .u64 (IntKind.wrap .u64 a0))]) (bx' := []) (by kernel_rfl) ?_
 refine O.e (some 5) (Ev.call0 (xs := [.tmp 4, .const (.int .i64 8)]) [] (by kernel_rfl) (by kernel_rfl) (fun w hS => code_put.con K (IntKind.wrap .u64 a0) 8  _ _ w hS hx1_2)) (by kernel_rfl) (fun p1_2 => ?_)
 refine O.pure 1 [] [2] [] (fr' := [(2, .slice p1_2.1 x1_2.length p1_2.2)]) (bx' := []) (by kernel_rfl) ?_
 refine O.nil (by kernel_rfl) ?_
 obtain rfl := Option.some.inj H
 exact J.doneS [] [] [] [] [0] p1_2 (vs := [.slice p1_2.1 x1_2.length p1_2.2]) (by kernel_rfl) (by kernel_rfl) (by kernel_rfl) (by kernel_rfl) (by kernel_rfl) (by decide)
/-! ### haywain/mail.put: function 23 -/
def mail_put.l1 (K : Nat) (a1 : List Int) : Nat → ((List Int) × Int) → Option (List Int)
  | 0, _ => none
  | k + 1, s1 => cond (decide (s1.2 < (a1.length : Int))) ((idxO a1 s1.2).bind fun x3_0 => (code_Num.f K x3_0).bind fun x4_2 => (appO 1 s1.1 x4_2).bind fun y4_3 => mail_put.l1 K a1 k ((s1.1 ++ x4_2), (IntKind.wrap .i64 (s1.2 + 1)))) (some (s1.1))
def mail_put.f (K : Nat) (a0 : List Int) (a1 : List Int) : Option (List Int) := mail_put.l1 K a1 K (a0, 0)
set_option maxRecDepth 100000 in
set_option maxHeartbeats 1000000 in
theorem mail_put.con (K : Nat) (a0 : List Int) (a1 : List Int) (h0 : Hd) (h1 : Hd) (r : (List Int)) (X : Nat → Nat → Prop) (w : World) (hS : St X w (keys [] [mkRow (Kd.int .u8) 5 (.slice h0.1 a0.length h0.2) a0]) [] [mkRow (Kd.int .u8) 5 (.slice h0.1 a0.length h0.2) a0] [] [Rd (Kd.int .i64) h1.1 h1.2 a1] w) (H : mail_put.f K a0 a1 = some r) :
    Cn Try.prog 23 [.slice h0.1 a0.length h0.2, .slice h1.1 a1.length h1.2] X w (keys [] [mkRow (Kd.int .u8) 5 (.slice h0.1 a0.length h0.2) a0]) (fun i : Hd => .slice i.1 r.length i.2) (fun i => []) (fun i => [mkRow (Kd.int .u8) 5 (.slice i.1 r.length i.2) r]) (fun i => []) := by
 refine Cn.of Try.func23 (by kernel_rfl) hS ?_
 unfold mail_put.f at H
 refine J.seq (by kernel_rfl) ?_
 refine J.region (by kernel_rfl) ?_
 refine O.pure 1 [] [0, 1] [] (fr' := [(0, .slice h0.1 a0.length h0.2), (1, .slice h1.1 a1.length h1.2)]) (bx' := []) (by kernel_rfl) ?_
 refine O.nil (by kernel_rfl) ?_
 refine J.seq (by kernel_rfl) ?_
 refine J.seq (by kernel_rfl) ?_
 refine J.region (by kernel_rfl) ?_
 refine O.pure 3 [] [0, 7, 8, 9] [] (fr' := [(0, .slice h0.1 a0.length h0.2), (7, .slice h1.1 a1.length h1.2), (8, .int .i64 (a1.length : Int)), (9, .int .i64 0)]) (bx' := []) (by kernel_rfl) ?_
 refine O.nil (by kernel_rfl) ?_
 refine J.block (id := 0) (by kernel_rfl) ?_
 refine J.loopI (σ := (List Int) × Int) (γ := Hd) (f := fun m_ s_ => mail_put.l1 K a1 m_ s_) (fun s1 g1 => [(0, .slice g1.1 s1.1.length g1.2), (7, .slice h1.1 a1.length h1.2), (8, .int .i64 (a1.length : Int)), (9, .int .i64 s1.2)]) (fun s1 g1 => St X w (keys [] [mkRow (Kd.int .u8) 5 (.slice h0.1 a0.length h0.2) a0]) [] [mkRow (Kd.int .u8) 5 (.slice g1.1 s1.1.length g1.2) s1.1] [] [Rd (Kd.int .i64) h1.1 h1.2 a1]) K (a0, 0) h0 (by kernel_rfl) H (fun _ => rfl) (fun m_ s1 H ih1 g1 => ?_) (fun h_ => ?_)
 ·unfold mail_put.l1 at H
  refine J.seq (by kernel_rfl) ?_
  refine J.region (by kernel_rfl) ?_
  refine O.pure 1 [] [0, 7, 8, 9, 10] [] (fr' := [(0, .slice g1.1 s1.1.length g1.2), (7, .slice h1.1 a1.length h1.2), (8, .int .i64 (a1.length : Int)), (9, .int .i64 s1.2), (10, .bool (decide (s1.2 < (a1.length : Int))))]) (bx' := []) (by kernel_rfl) ?_
  refine O.nil (by kernel_rfl) ?_
  refine J.seq (by kernel_rfl) ?_
  rcases condE H with ⟨hc4, H⟩ | ⟨hc4, H⟩
  ·refine J.condT (x := .tmp 10) (t := (decide (s1.2 < (a1.length : Int)))) (by kernel_rfl) (by kernel_rfl) hc4 ?_
   refine J.skip (by kernel_rfl) ?_
   refine J.seq (by kernel_rfl) ?_
   refine J.block (id := 1) (by kernel_rfl) ?_
   refine J.seq (by kernel_rfl) ?_
   obtain ⟨x3_0, hx3_0, H⟩ := bindE H
   obtain ⟨hx3_0a, hx3_0⟩ := idxE hx3_0
   refine J.region (by kernel_rfl) ?_
   refine O.open (d := (Kd.int .i64)) (h := h1) (i := s1.2) 0 rfl hx3_0 (Lay.int _ _) (fun p3_0 hp3_0A => ?_)
   refine O.q (v := .pointer (some ⟨p3_0.1, p3_0.2.1 + s1.2.toNat * 1, none⟩)) (some 11) (Qu.idx (t := 22) (x := .tmp 7) (y := .tmp 9) (c := h1.2) (kk := .i64) (sz := 1) (by kernel_rfl) (by kernel_rfl) (by kernel_rfl) (by kernel_rfl) hx3_0a (idx_lt hx3_0) hp3_0A) (by kernel_rfl) ?_
   refine O.pure 2 [(0, 0)] [0, 6, 7, 8, 9] [p3_0.1, p3_0.2.1 + s1.2.toNat * 1] (fr' := [(0, .slice g1.1 s1.1.length g1.2), (6, .int .i64 x3_0), (7, .slice h1.1 a1.length h1.2), (8, .int .i64 (a1.length : Int)), (9, .int .i64 s1.2)]) (bx' := []) (by kernel_rfl) ?_
   refine O.nil (by kernel_rfl) ?_
   obtain ⟨x4_2, hx4_2, H⟩ := bindE H
   obtain ⟨y4_3, hy4_3, H⟩ := bindE H
   have hy4_3a := (appE hy4_3).1
   refine J.region (by kernel_rfl) ?_
   refine O.pure 2 [] [0, 7, 8, 9, 13, 14] [] (fr' := [(0, .slice g1.1 s1.1.length g1.2), (7, .slice h1.1 a1.length h1.2), (8, .int .i64 (a1.length : Int)), (9, .int .i64 s1.2), (13, .slice g1.1 s1.1.length g1.2), (14, .int .i64 x3_0)]) (bx' := []) (by kernel_rfl) ?_
   refine O.e (some 15) (Ev.call0 (xs := [.tmp 14]) [] (by kernel_rfl) (by kernel_rfl) (fun w hS => code_Num.con K x3_0  _ _ w hS hx4_2)) (by kernel_rfl) (fun p4_2 => ?_)
   refine O.e (some 16) (Ev.mono (fun w hS => hS.freezeH (h := p4_2) (xs := x4_2)) (Ev.appSl (d := (Kd.int .u8)) (ys := x4_2) (A := p4_2.1) (c := p4_2.2) (x := .tmp 13) (y := .tmp 15) (t := 36) (bytes := 1) 0 (by kernel_rfl) (by kernel_rfl) (by kernel_rfl) rfl (by kernel_rfl) (by decide) hy4_3a)) (by kernel_rfl) (fun p4_3 => ?_)
   refine O.pure 1 [] [0, 7, 8, 9] [] (fr' := [(0, .slice p4_3.1 (s1.1 ++ x4_2).length p4_3.2), (7, .slice h1.1 a1.length h1.2), (8, .int .i64 (a1.length : Int)), (9, .int .i64 s1.2)]) (bx' := []) (by kernel_rfl) ?_
   refine O.nil (by kernel_rfl) ?_
   refine J.out ?_
   refine J.region (by kernel_rfl) ?_
   refine O.pure 2 [] [0, 7, 8, 9] [] (fr' := [(0, .slice p4_3.1 (s1.1 ++ x4_2).length p4_3.2), (7, .slice h1.1 a1.length h1.2), (8, .int .i64 (a1.length : Int)), (9, .int .i64 (IntKind.wrap .i64 (s1.2 + 1)))]) (bx' := []) (by kernel_rfl) ?_
   refine O.nil (by kernel_rfl) ?_
   exact J.conv2 [0, 7, 8, 9] [1] [] [0] (by kernel_rfl) (by kernel_rfl) (by kernel_rfl) (by kernel_rfl) (by decide) (ih1 ((s1.1 ++ x4_2), (IntKind.wrap .i64 (s1.2 + 1))) p4_3 H)
  ·refine J.condF (x := .tmp 10) (t := (decide (s1.2 < (a1.length : Int)))) (by kernel_rfl) (by kernel_rfl) hc4 ?_
   refine J.exit (id := 0) (by kernel_rfl) rfl ?_
   refine J.seq (by kernel_rfl) ?_
   refine J.region (by kernel_rfl) ?_
   refine O.pure 2 [] [4] [] (fr' := [(4, .slice g1.1 s1.1.length g1.2)]) (bx' := []) (by kernel_rfl) ?_
   refine O.nil (by kernel_rfl) ?_
   obtain rfl := Option.some.inj H
   exact J.doneS [] [] [] [] [0] g1 (vs := [.slice g1.1 s1.1.length g1.2]) (by kernel_rfl) (by kernel_rfl) (by kernel_rfl) (by kernel_rfl) (by kernel_rfl) (by decide)
 ·exact J.conv2 [0, 7, 8, 9] [0] [] [0] (by kernel_rfl) (by kernel_rfl) (by kernel_rfl) (by kernel_rfl) (by decide) h_
/-! ### haywain/mail.list: function 24 -/
def mail_list.f (K : Nat) (a0 : List Int) (a1 : List Int) : Option (List Int) := (mail_put.f K a0 ([(a1.length : Int)] : List Int)).bind fun x1_4 => (mail_put.f K x1_4 a1).bind fun x1_6 => some (x1_6)
set_option maxRecDepth 100000 in
set_option maxHeartbeats 1000000 in
theorem mail_list.con (K : Nat) (a0 : List Int) (a1 : List Int) (h0 : Hd) (h1 : Hd) (r : (List Int)) (X : Nat → Nat → Prop) (w : World) (hS : St X w (keys [] [mkRow (Kd.int .u8) 5 (.slice h0.1 a0.length h0.2) a0]) [] [mkRow (Kd.int .u8) 5 (.slice h0.1 a0.length h0.2) a0] [] [Rd (Kd.int .i64) h1.1 h1.2 a1] w) (H : mail_list.f K a0 a1 = some r) :
    Cn Try.prog 24 [.slice h0.1 a0.length h0.2, .slice h1.1 a1.length h1.2] X w (keys [] [mkRow (Kd.int .u8) 5 (.slice h0.1 a0.length h0.2) a0]) (fun i : Hd => .slice i.1 r.length i.2) (fun i => []) (fun i => [mkRow (Kd.int .u8) 5 (.slice i.1 r.length i.2) r]) (fun i => []) := by
 refine Cn.of Try.func24 (by kernel_rfl) hS ?_
 unfold mail_list.f at H
 refine J.seq (by kernel_rfl) ?_
 refine J.region (by kernel_rfl) ?_
 refine O.pure 1 [] [0, 1] [] (fr' := [(0, .slice h0.1 a0.length h0.2), (1, .slice h1.1 a1.length h1.2)]) (bx' := []) (by kernel_rfl) ?_
 refine O.nil (by kernel_rfl) ?_
 refine J.seq (by kernel_rfl) ?_
 obtain ⟨x1_4, hx1_4, H⟩ := bindE H
 obtain ⟨x1_6, hx1_6, H⟩ := bindE H
 refine J.region (by kernel_rfl) ?_
 refine O.pure 3 [] [1, 5, 7] [] (fr' := [(1, .slice h1.1 a1.length h1.2), (5, .slice h0.1 a0.length h0.2), (7, .int .i64 (a1.length : Int))]) (bx' := []) (by kernel_rfl) ?_
 refine O.e (some 8) (Ev.lit (t := 22) (len := 1) (parts := #[(0, .tmp 7)]) (ps := [(0, .int .i64 (a1.length : Int))]) (cs := [.int .i64 (a1.length : Int)]) (e := 3) (Kd.int .i64) ([(a1.length : Int)] : List Int) (by kernel_rfl) (by kernel_rfl) (by kernel_rfl) (by kernel_rfl) (by kernel_rfl) (by decide) (fun w' hφ => (Els.cons (c := [.int .i64 (a1.length : Int)]) (rfl) (Els.nil _ _ _)))) (by kernel_rfl) (fun p1_3 => ?_)
 refine O.e (some 9) (Ev.mono (fun w hS => hS.freezeH (h := ((some ⟨p1_3, 0, none⟩, 1) : Hd)) (xs := ([(a1.length : Int)] : List Int))) (Ev.callS (xs := [.tmp 5, .tmp 8]) (bxr := []) (rwr := []) [] [] [0] [] [0] (by kernel_rfl) (by kernel_rfl) (by kernel_rfl) (by kernel_rfl) (by decide) (fun w hS => mail_put.con K a0 ([(a1.length : Int)] : List Int) h0 ((some ⟨p1_3, 0, none⟩, 1) : Hd)  _ _ w hS hx1_4))) (by kernel_rfl) (fun p1_4 => ?_)
 refine O.pure 1 [] [9, 10] [] (fr' := [(9, .slice p1_4.1 x1_4.length p1_4.2), (10, .slice h1.1 a1.length h1.2)]) (bx' := []) (by kernel_rfl) ?_
 refine O.e (some 11) (Ev.callS (xs := [.tmp 9, .tmp 10]) (bxr := []) (rwr := []) [] [] [0] [] [1] (by kernel_rfl) (by kernel_rfl) (by kernel_rfl) (by kernel_rfl) (by decide) (fun w hS => mail_put.con K x1_4 a1 p1_4 h1  _ _ w hS hx1_6)) (by kernel_rfl) (fun p1_6 => ?_)
 refine O.pure 1 [] [4] [] (fr' := [(4, .slice p1_6.1 x1_6.length p1_6.2)]) (bx' := []) (by kernel_rfl) ?_
 refine O.nil (by kernel_rfl) ?_
 obtain rfl := Option.some.inj H
 exact J.doneS [] [] [] [] [0] p1_6 (vs := [.slice p1_6.1 x1_6.length p1_6.2]) (by kernel_rfl) (by kernel_rfl) (by kernel_rfl) (by kernel_rfl) (by kernel_rfl) (by decide)
/-! ### haywain/mail.told: function 26 -/
def mail_told.l1 (K : Nat) (a1 : List S77) : Nat → ((List Int) × Int) → Option (List Int)
  | 0, _ => none
  | k + 1, s1 => cond (decide (s1.2 < (a1.length : Int))) ((idxO a1 s1.2).bind fun x4_0 => (mail_put.f K s1.1 ([x4_0.f0] : List Int)).bind fun x5_4 => (code_Num.f K x4_0.f1).bind fun x5_7 => (appO 1 x5_4 x5_7).bind fun y5_8 => mail_told.l1 K a1 k ((x5_4 ++ x5_7), (IntKind.wrap .i64 (s1.2 + 1)))) (some (s1.1))
def mail_told.f (K : Nat) (a0 : List Int) (a1 : List S77) : Option (List Int) := (mail_put.f K a0 ([(a1.length : Int)] : List Int)).bind fun x1_4 => mail_told.l1 K a1 K (x1_4, 0)
set_option maxRecDepth 100000 in
set_option maxHeartbeats 1000000 in
theorem mail_told.con (K : Nat) (a0 : List Int) (a1 : List S77) (h0 : Hd) (h1 : Hd) (r : (List Int)) (X : Nat → Nat → Prop) (w : World) (hS : St X w (keys [] [mkRow (Kd.int .u8) 5 (.slice h0.1 a0.length h0.2) a0]) [] [mkRow (Kd.int .u8) 5 (.slice h0.1 a0.length h0.2) a0] [] [Rd kd77 h1.1 h1.2 a1] w) (H : mail_told.f K a0 a1 = some r) :
    Cn Try.prog 26 [.slice h0.1 a0.length h0.2, .slice h1.1 a1.length h1.2] X w (keys [] [mkRow (Kd.int .u8) 5 (.slice h0.1 a0.length h0.2) a0]) (fun i : Hd => .slice i.1 r.length i.2) (fun i => []) (fun i => [mkRow (Kd.int .u8) 5 (.slice i.1 r.length i.2) r]) (fun i => []) := by
 refine Cn.of Try.func26 (by kernel_rfl) hS ?_
 unfold mail_told.f at H
 refine J.seq (by kernel_rfl) ?_
 refine J.region (by kernel_rfl) ?_
 refine O.pure 1 [] [0, 1] [] (fr' := [(0, .slice h0.1 a0.length h0.2), (1, .slice h1.1 a1.length h1.2)]) (bx' := []) (by kernel_rfl) ?_
 refine O.nil (by kernel_rfl) ?_
 refine J.seq (by kernel_rfl) ?_
 obtain ⟨x1_4, hx1_4, H⟩ := bindE H
 refine J.region (by kernel_rfl) ?_
 refine O.pure 3 [] [0, 1, 7, 9] [] (fr' := [(0, .slice h0.1 a0.length h0.2), (1, .slice h1.1 a1.length h1.2), (7, .slice h0.1 a0.length h0.2), (9, .int .i64 (a1.length : Int))]) (bx' := []) (by kernel_rfl) ?_
 refine O.e (some 10) (Ev.lit (t := 22) (len := 1) (parts := #[(0, .tmp 9)]) (ps := [(0, .int .i64 (a1.length : Int))]) (cs := [.int .i64 (a1.length : Int)]) (e := 3) (Kd.int .i64) ([(a1.length : Int)] : List Int) (by kernel_rfl) (by kernel_rfl) (by kernel_rfl) (by kernel_rfl) (by kernel_rfl) (by decide) (fun w' hφ => (Els.cons (c := [.int .i64 (a1.length : Int)]) (rfl) (Els.nil _ _ _)))) (by kernel_rfl) (fun p1_3 => ?_)
 refine O.e (some 11) (Ev.mono (fun w hS => hS.freezeH (h := ((some ⟨p1_3, 0, none⟩, 1) : Hd)) (xs := ([(a1.length : Int)] : List Int))) (Ev.callS (xs := [.tmp 7, .tmp 10]) (bxr := []) (rwr := []) [] [] [0] [] [0] (by kernel_rfl) (by kernel_rfl) (by kernel_rfl) (by kernel_rfl) (by decide) (fun w hS => mail_put.con K a0 ([(a1.length : Int)] : List Int) h0 ((some ⟨p1_3, 0, none⟩, 1) : Hd)  _ _ w hS hx1_4))) (by kernel_rfl) (fun p1_4 => ?_)
 refine O.pure 1 [] [0, 1] [] (fr' := [(0, .slice p1_4.1 x1_4.length p1_4.2), (1, .slice h1.1 a1.length h1.2)]) (bx' := []) (by kernel_rfl) ?_
 refine O.nil (by kernel_rfl) ?_
 refine J.seq (by kernel_rfl) ?_
 refine J.seq (by kernel_rfl) ?_
 refine J.region (by kernel_rfl) ?_
 refine O.pure 3 [] [0, 12, 13, 14] [] (fr' := [(0, .slice p1_4.1 x1_4.length p1_4.2), (12, .slice h1.1 a1.length h1.2), (13, .int .i64 (a1.length : Int)), (14, .int .i64 0)]) (bx' := []) (by kernel_rfl) ?_
 refine O.nil (by kernel_rfl) ?_
 refine J.block (id := 0) (by kernel_rfl) ?_
 refine J.loopI (σ := (List Int) × Int) (γ := Hd) (f := fun m_ s_ => mail_told.l1 K a1 m_ s_) (fun s1 g1 => [(0, .slice g1.1 s1.1.length g1.2), (12, .slice h1.1 a1.length h1.2), (13, .int .i64 (a1.length : Int)), (14, .int .i64 s1.2)]) (fun s1 g1 => St X w (keys [] [mkRow (Kd.int .u8) 5 (.slice h0.1 a0.length h0.2) a0]) [] [mkRow (Kd.int .u8) 5 (.slice g1.1 s1.1.length g1.2) s1.1] [] [Rd kd77 h1.1 h1.2 a1]) K (x1_4, 0) p1_4 (by kernel_rfl) H (fun _ => rfl) (fun m_ s1 H ih1 g1 => ?_) (fun h_ => ?_)
 ·unfold mail_told.l1 at H
  refine J.seq (by kernel_rfl) ?_
  refine J.region (by kernel_rfl) ?_
  refine O.pure 1 [] [0, 12, 13, 14, 15] [] (fr' := [(0, .slice g1.1 s1.1.length g1.2), (12, .slice h1.1 a1.length h1.2), (13, .int .i64 (a1.length : Int)), (14, .int .i64 s1.2), (15, .bool (decide (s1.2 < (a1.length : Int))))]) (bx' := []) (by kernel_rfl) ?_
  refine O.nil (by kernel_rfl) ?_
  refine J.seq (by kernel_rfl) ?_
  rcases condE H with ⟨hc4, H⟩ | ⟨hc4, H⟩
  ·refine J.condT (x := .tmp 15) (t := (decide (s1.2 < (a1.length : Int)))) (by kernel_rfl) (by kernel_rfl) hc4 ?_
   refine J.skip (by kernel_rfl) ?_
   refine J.seq (by kernel_rfl) ?_
   refine J.block (id := 1) (by kernel_rfl) ?_
   refine J.seq (by kernel_rfl) ?_
   obtain ⟨x4_0, hx4_0, H⟩ := bindE H
   obtain ⟨hx4_0a, hx4_0⟩ := idxE hx4_0
   refine J.region (by kernel_rfl) ?_
   refine O.open (d := kd77) (h := h1) (i := s1.2) 0 rfl hx4_0 (op77 _) (fun p4_0 hp4_0A => ?_)
   refine O.q (v := .pointer (some ⟨p4_0.1, p4_0.2.1 + s1.2.toNat * 2, none⟩)) (some 16) (Qu.idx (t := 25) (x := .tmp 12) (y := .tmp 14) (c := h1.2) (kk := .i64) (sz := 2) (by kernel_rfl) (by kernel_rfl) (by kernel_rfl) (by kernel_rfl) hx4_0a (idx_lt hx4_0) hp4_0A) (by kernel_rfl) ?_
   refine O.pure 1 [(0, 0)] [0, 12, 13, 14, 17] [p4_0.1, p4_0.2.1 + s1.2.toNat * 2] (fr' := [(0, .slice g1.1 s1.1.length g1.2), (12, .slice h1.1 a1.length h1.2), (13, .int .i64 (a1.length : Int)), (14, .int .i64 s1.2), (17, .agg #[.int .i64 x4_0.f0, .int .i64 x4_0.f1])]) (bx' := []) (by kernel_rfl) ?_
   refine O.e (some 6) (Ev.alloc (t := 77) (z := .agg #[.int .i64 0, .int .i64 0]) (by kernel_rfl) (by kernel_rfl)) (by kernel_rfl) (fun p4_2 => ?_)
   refine O.pure 1 [(0, 0)] [0, 6, 12, 13, 14] [p4_2, 0] (fr' := [(0, .slice g1.1 s1.1.length g1.2), (6, .pointer (some ⟨p4_2, 0, none⟩)), (12, .slice h1.1 a1.length h1.2), (13, .int .i64 (a1.length : Int)), (14, .int .i64 s1.2)]) (bx' := [⟨p4_2, [.int .i64 x4_0.f0, .int .i64 x4_0.f1], 77⟩]) (by kernel_rfl) ?_
   refine O.nil (by kernel_rfl) ?_
   obtain ⟨x5_4, hx5_4, H⟩ := bindE H
   obtain ⟨x5_7, hx5_7, H⟩ := bindE H
   obtain ⟨y5_8, hy5_8, H⟩ := bindE H
   have hy5_8a := (appE hy5_8).1
   refine J.drawS (by kernel_rfl) [(0, some 18, .slice g1.1 s1.1.length g1.2), (1, some 19, .pointer (some ⟨p4_2, 0, none⟩)), (2, some 20, .int .i64 x4_0.f0), (5, some 23, .pointer (some ⟨p4_2, 1, none⟩)), (6, some 24, .int .i64 x4_0.f1)] ([0, 1, 2, 5, 6] ++ []) (by kernel_rfl) ?_
   refine D.mid (cs := [3]) [0, 1, 2, 5, 6] [] [(0, 0), (0, 1)] [p4_2, 0, p4_2, 1] (by kernel_rfl) (by kernel_rfl) trivial (by kernel_rfl) ⟨?_, trivial⟩
   refine EvStep.mk (some 21) (new := fun p5_3 => []) ([0, 1, 5, 6] ++ []) (by kernel_rfl) (Ev.lit (t := 22) (len := 1) (parts := #[(0, .tmp 20)]) (ps := [(0, .int .i64 x4_0.f0)]) (cs := [.int .i64 x4_0.f0]) (e := 3) (Kd.int .i64) ([x4_0.f0] : List Int) (by kernel_rfl) (by kernel_rfl) (by kernel_rfl) (by kernel_rfl) (by kernel_rfl) (by decide) (fun w' hφ => (Els.cons (c := [.int .i64 x4_0.f0]) (rfl) (Els.nil _ _ _)))) (fun p5_3 => by kernel_rfl) (fun p5_3 => ?_)
   refine D.mid (cs := [4]) [0, 1, 5, 6] [] [(0, 1)] [p4_2, 1] (by kernel_rfl) (by kernel_rfl) trivial (by kernel_rfl) ⟨?_, trivial⟩
   refine EvStep.mk (some 22) (new := fun p5_4 => []) ([1, 5, 6] ++ []) (by kernel_rfl) (Ev.mono (fun w hS => hS.freezeH (h := ((some ⟨p5_3, 0, none⟩, 1) : Hd)) (xs := ([x4_0.f0] : List Int))) (Ev.callS (xs := [.tmp 18, .tmp 21]) (bxr := [⟨p4_2, [.int .i64 x4_0.f0, .int .i64 x4_0.f1], 77⟩]) (rwr := []) [] [0] [0] [] [0] (by kernel_rfl) (by kernel_rfl) (by kernel_rfl) (by kernel_rfl) (by decide) (fun w hS => mail_put.con K s1.1 ([x4_0.f0] : List Int) g1 ((some ⟨p5_3, 0, none⟩, 1) : Hd)  _ _ w hS hx5_4))) (fun p5_4 => by kernel_rfl) (fun p5_4 => ?_)
   refine D.mid (cs := [7]) [1, 5, 6] [] [(0, 1)] [p4_2, 1] (by kernel_rfl) (by kernel_rfl) trivial (by kernel_rfl) ⟨?_, trivial⟩
   refine EvStep.mk (some 25) (new := fun p5_7 => []) ([1, 5] ++ []) (by kernel_rfl) (Ev.call0 (xs := [.tmp 24]) [] (by kernel_rfl) (by kernel_rfl) (fun w hS => code_Num.con K x4_0.f1  _ _ w hS hx5_7)) (fun p5_7 => by kernel_rfl) (fun p5_7 => ?_)
   refine D.mid (cs := [8]) [1, 5] [] [] [] (by kernel_rfl) (by kernel_rfl) trivial (by kernel_rfl) ⟨?_, trivial⟩
   refine EvStep.mk (some 26) (new := fun p5_8 => [(9, some 0, .slice p5_8.1 (x5_4 ++ x5_7).length p5_8.2)]) ([1, 5, 9] ++ []) (by kernel_rfl) (Ev.mono (fun w hS => hS.freezeH (h := p5_7) (xs := x5_7)) (Ev.appSl (d := (Kd.int .u8)) (ys := x5_7) (A := p5_7.1) (c := p5_7.2) (x := .tmp 22) (y := .tmp 25) (t := 36) (bytes := 1) 0 (by kernel_rfl) (by kernel_rfl) (by kernel_rfl) rfl (by kernel_rfl) (by decide) hy5_8a)) (fun p5_8 => by kernel_rfl) (fun p5_8 => ?_)
   refine D.fin (fr' := [(0, .slice p5_8.1 (x5_4 ++ x5_7).length p5_8.2), (12, .slice h1.1 a1.length h1.2), (13, .int .i64 (a1.length : Int)), (14, .int .i64 s1.2)]) [1, 5, 9] [] [] [] [0, 12, 13, 14] (by kernel_rfl) (by kernel_rfl) trivial (by kernel_rfl) ?_
   refine J.out ?_
   refine J.region (by kernel_rfl) ?_
   refine O.pure 2 [] [0, 12, 13, 14] [] (fr' := [(0, .slice p5_8.1 (x5_4 ++ x5_7).length p5_8.2), (12, .slice h1.1 a1.length h1.2), (13, .int .i64 (a1.length : Int)), (14, .int .i64 (IntKind.wrap .i64 (s1.2 + 1)))]) (bx' := [⟨p4_2, [.int .i64 x4_0.f0, .int .i64 x4_0.f1], 77⟩]) (by kernel_rfl) ?_
   refine O.nil (by kernel_rfl) ?_
   exact J.conv2 [0, 12, 13, 14] [2] [] [0] (by kernel_rfl) (by kernel_rfl) (by kernel_rfl) (by kernel_rfl) (by decide) (ih1 ((x5_4 ++ x5_7), (IntKind.wrap .i64 (s1.2 + 1))) p5_8 H)
  ·refine J.condF (x := .tmp 15) (t := (decide (s1.2 < (a1.length : Int)))) (by kernel_rfl) (by kernel_rfl) hc4 ?_
   refine J.exit (id := 0) (by kernel_rfl) rfl ?_
   refine J.seq (by kernel_rfl) ?_
   refine J.region (by kernel_rfl) ?_
   refine O.pure 2 [] [4] [] (fr' := [(4, .slice g1.1 s1.1.length g1.2)]) (bx' := []) (by kernel_rfl) ?_
   refine O.nil (by kernel_rfl) ?_
   obtain rfl := Option.some.inj H
   exact J.doneS [] [] [] [] [0] g1 (vs := [.slice g1.1 s1.1.length g1.2]) (by kernel_rfl) (by kernel_rfl) (by kernel_rfl) (by kernel_rfl) (by kernel_rfl) (by decide)
 ·exact J.conv2 [0, 12, 13, 14] [1] [] [0] (by kernel_rfl) (by kernel_rfl) (by kernel_rfl) (by kernel_rfl) (by decide) h_
/-! ### haywain/mail.Encode: function 14 -/
def mail_Encode.l21 (K : Nat) (a0 : S29) : Nat → ((List Int) × Int) → Option (List Int)
  | 0, _ => none
  | k + 1, s21 => cond (decide (s21.2 < (a0.f11.f3.length : Int))) ((idxO a0.f11.f3 s21.2).bind fun x13_0 => (cond x13_0 (some (1)) (some (0)) : Option Int).bind fun o31 : Int => (mail_put.f K s21.1 ([o31] : List Int)).bind fun x17_3 => mail_Encode.l21 K a0 k (x17_3, (IntKind.wrap .i64 (s21.2 + 1)))) (some (s21.1))
def mail_Encode.l34 (K : Nat) (a0 : S29) : Nat → ((List Int) × Int) → Option (List Int)
  | 0, _ => none
  | k + 1, s34 => cond (decide (s34.2 < (a0.f11.f2.length : Int))) ((idxO a0.f11.f2 s34.2).bind fun x8_0 => (code_Num.f K x8_0).bind fun x9_2 => (appO 1 s34.1 x9_2).bind fun y9_3 => mail_Encode.l34 K a0 k ((s34.1 ++ x9_2), (IntKind.wrap .i64 (s34.2 + 1)))) (some (s34.1))
def mail_Encode.f (K : Nat) (a0 : S29) : Option ((List Int) × Int) := (mail_Right.f K a0).bind fun x1_1 => cond (!x1_1) (some ((([] : List Int), 1))) ((mail_put.f K ([] : List Int) ([a0.f0, a0.f1, a0.f2, a0.f3, a0.f4, a0.f5, a0.f6, a0.f7] : List Int)).bind fun x3_17 => (mail_list.f K x3_17 a0.f8).bind fun x4_3 => (mail_list.f K x4_3 a0.f9).bind fun x4_6 => (mail_put.f K x4_6 a0.f10).bind fun x4_9 => (mail_put.f K x4_9 ([a0.f11.f0, a0.f11.f1, (a0.f11.f2.length : Int)] : List Int)).bind fun x5_12 => (mail_Encode.l34 K a0 K (x5_12, 0) : Option (List Int)).bind fun o2 : (List Int) => (mail_Encode.l21 K a0 K (o2, 0) : Option (List Int)).bind fun o7 : (List Int) => (mail_told.f K o7 a0.f11.f4).bind fun x19_4 => (mail_told.f K x19_4 a0.f12).bind fun x19_7 => some ((x19_7, 0)))
set_option maxRecDepth 100000 in
set_option maxHeartbeats 1000000 in
theorem mail_Encode.con (K : Nat) (a0 : S29) (h0 : Hd) (h1 : Hd) (h2 : Hd) (h3 : Hd) (h4 : Hd) (h5 : Hd) (h6 : Hd) (r : ((List Int) × Int)) (X : Nat → Nat → Prop) (w : World) (hS : St X w [] [] [] [] [Rd (Kd.int .i64) h0.1 h0.2 a0.f8, Rd (Kd.int .i64) h1.1 h1.2 a0.f9, Rd (Kd.int .i64) h2.1 h2.2 a0.f10, Rd (Kd.int .i64) h3.1 h3.2 a0.f11.f2, Rd Kd.bool h4.1 h4.2 a0.f11.f3, Rd kd77 h5.1 h5.2 a0.f11.f4, Rd kd77 h6.1 h6.2 a0.f12] w) (H : mail_Encode.f K a0 = some r) :
    Cn Try.prog 14 [.agg #[.int .i64 a0.f0, .int .i64 a0.f1, .int .i64 a0.f2, .int .i64 a0.f3, .int .i64 a0.f4, .int .i64 a0.f5, .int .i64 a0.f6, .int .i64 a0.f7, .slice h0.1 a0.f8.length h0.2, .slice h1.1 a0.f9.length h1.2, .slice h2.1 a0.f10.length h2.2, .int .i64 a0.f11.f0, .int .i64 a0.f11.f1, .slice h3.1 a0.f11.f2.length h3.2, .slice h4.1 a0.f11.f3.length h4.2, .slice h5.1 a0.f11.f4.length h5.2, .slice h6.1 a0.f12.length h6.2]] X w [] (fun i : Hd => .tuple #[.slice i.1 r.1.length i.2, .int .i64 r.2]) (fun i => []) (fun i => [mkRow (Kd.int .u8) 5 (.slice i.1 r.1.length i.2) r.1]) (fun i => []) := by
 refine Cn.of Try.func14 (by kernel_rfl) hS ?_
 unfold mail_Encode.f at H
 refine J.seq (by kernel_rfl) ?_
 refine J.region (by kernel_rfl) ?_
 refine O.e (some 1) (Ev.box (t := 29) (x := .tmp 0) (v := .agg #[.int .i64 a0.f0, .int .i64 a0.f1, .int .i64 a0.f2, .int .i64 a0.f3, .int .i64 a0.f4, .int .i64 a0.f5, .int .i64 a0.f6, .int .i64 a0.f7, .slice h0.1 a0.f8.length h0.2, .slice h1.1 a0.f9.length h1.2, .slice h2.1 a0.f10.length h2.2, .int .i64 a0.f11.f0, .int .i64 a0.f11.f1, .slice h3.1 a0.f11.f2.length h3.2, .slice h4.1 a0.f11.f3.length h4.2, .slice h5.1 a0.f11.f4.length h5.2, .slice h6.1 a0.f12.length h6.2]) (by kernel_rfl) (by kernel_rfl)) (by kernel_rfl) (fun p0_0 => ?_)
 refine O.pure 2 [] [1] [] (fr' := [(1, .pointer (some ⟨p0_0, 0, none⟩))]) (bx' := [⟨p0_0, [.int .i64 a0.f0, .int .i64 a0.f1, .int .i64 a0.f2, .int .i64 a0.f3, .int .i64 a0.f4, .int .i64 a0.f5, .int .i64 a0.f6, .int .i64 a0.f7, .slice h0.1 a0.f8.length h0.2, .slice h1.1 a0.f9.length h1.2, .slice h2.1 a0.f10.length h2.2, .int .i64 a0.f11.f0, .int .i64 a0.f11.f1, .slice h3.1 a0.f11.f2.length h3.2, .slice h4.1 a0.f11.f3.length h4.2, .slice h5.1 a0.f11.f4.length h5.2, .slice h6.1 a0.f12.length h6.2], 29⟩]) (by kernel_rfl) ?_
 refine O.nil (by kernel_rfl) ?_
 refine J.seq (by kernel_rfl) ?_
 refine J.seq (by kernel_rfl) ?_
 obtain ⟨x1_1, hx1_1, H⟩ := bindE H
 refine J.region (by kernel_rfl) ?_
 refine O.pure 1 [(0, 0)] [1, 10] [p0_0, 0] (fr' := [(1, .pointer (some ⟨p0_0, 0, none⟩)), (10, .agg #[.int .i64 a0.f0, .int .i64 a0.f1, .int .i64 a0.f2, .int .i64 a0.f3, .int .i64 a0.f4, .int .i64 a0.f5, .int .i64 a0.f6, .int .i64 a0.f7, .slice h0.1 a0.f8.length h0.2, .slice h1.1 a0.f9.length h1.2, .slice h2.1 a0.f10.length h2.2, .int .i64 a0.f11.f0, .int .i64 a0.f11.f1, .slice h3.1 a0.f11.f2.length h3.2, .slice h4.1 a0.f11.f3.length h4.2, .slice h5.1 a0.f11.f4.length h5.2, .slice h6.1 a0.f12.length h6.2])]) (bx' := [⟨p0_0, [.int .i64 a0.f0, .int .i64 a0.f1, .int .i64 a0.f2, .int .i64 a0.f3, .int .i64 a0.f4, .int .i64 a0.f5, .int .i64 a0.f6, .int .i64 a0.f7, .slice h0.1 a0.f8.length h0.2, .slice h1.1 a0.f9.length h1.2, .slice h2.1 a0.f10.length h2.2, .int .i64 a0.f11.f0, .int .i64 a0.f11.f1, .slice h3.1 a0.f11.f2.length h3.2, .slice h4.1 a0.f11.f3.length h4.2, .slice h5.1 a0.f11.f4.length h5.2, .slice h6.1 a0.f12.length h6.2], 29⟩]) (by kernel_rfl) ?_
 refine O.e (some 11) (Ev.call0 (xs := [.tmp 10]) [0, 1, 2, 3, 4, 5, 6] (by kernel_rfl) (by kernel_rfl) (fun w hS => mail_Right.con K a0 h0 h1 h2 h3 h4 h5 h6  _ _ w hS hx1_1)) (by kernel_rfl) (fun _ => ?_)
 refine O.pure 1 [] [1, 12] [] (fr' := [(1, .pointer (some ⟨p0_0, 0, none⟩)), (12, .bool (!x1_1))]) (bx' := [⟨p0_0, [.int .i64 a0.f0, .int .i64 a0.f1, .int .i64 a0.f2, .int .i64 a0.f3, .int .i64 a0.f4, .int .i64 a0.f5, .int .i64 a0.f6, .int .i64 a0.f7, .slice h0.1 a0.f8.length h0.2, .slice h1.1 a0.f9.length h1.2, .slice h2.1 a0.f10.length h2.2, .int .i64 a0.f11.f0, .int .i64 a0.f11.f1, .slice h3.1 a0.f11.f2.length h3.2, .slice h4.1 a0.f11.f3.length h4.2, .slice h5.1 a0.f11.f4.length h5.2, .slice h6.1 a0.f12.length h6.2], 29⟩]) (by kernel_rfl) ?_
 refine O.nil (by kernel_rfl) ?_
 rcases condE H with ⟨hc1, H⟩ | ⟨hc1, H⟩
 ·refine J.condT (x := .tmp 12) (t := (!x1_1)) (by kernel_rfl) (by kernel_rfl) hc1 ?_
  refine J.seq (by kernel_rfl) ?_
  refine J.region (by kernel_rfl) ?_
  refine O.pure 2 [] [2, 3] [] (fr' := [(2, .slice none 0 0), (3, .int .i64 1)]) (bx' := [⟨p0_0, [.int .i64 a0.f0, .int .i64 a0.f1, .int .i64 a0.f2, .int .i64 a0.f3, .int .i64 a0.f4, .int .i64 a0.f5, .int .i64 a0.f6, .int .i64 a0.f7, .slice h0.1 a0.f8.length h0.2, .slice h1.1 a0.f9.length h1.2, .slice h2.1 a0.f10.length h2.2, .int .i64 a0.f11.f0, .int .i64 a0.f11.f1, .slice h3.1 a0.f11.f2.length h3.2, .slice h4.1 a0.f11.f3.length h4.2, .slice h5.1 a0.f11.f4.length h5.2, .slice h6.1 a0.f12.length h6.2], 29⟩]) (by kernel_rfl) ?_
  refine O.nil (by kernel_rfl) ?_
  obtain rfl := Option.some.inj H
  refine J.nilrow (Kd.int .u8) 5 ?_
  exact J.doneS [] [] [] [] [0] (none, 0) (vs := [.slice none 0 0, .int .i64 1]) (by kernel_rfl) (by kernel_rfl) (by kernel_rfl) (by kernel_rfl) (by kernel_rfl) (by decide)
 ·refine J.condF (x := .tmp 12) (t := (!x1_1)) (by kernel_rfl) (by kernel_rfl) hc1 ?_
  refine J.skip (by kernel_rfl) ?_
  refine J.seq (by kernel_rfl) ?_
  obtain ⟨x3_17, hx3_17, H⟩ := bindE H
  refine J.region (by kernel_rfl) ?_
  refine O.pure 16 [(0, 0), (0, 1), (0, 2), (0, 3), (0, 4), (0, 5), (0, 6), (0, 7)] [1, 14, 16, 18, 20, 22, 24, 26, 28] [p0_0, 0, p0_0, 1, p0_0, 2, p0_0, 3, p0_0, 4, p0_0, 5, p0_0, 6, p0_0, 7] (fr' := [(1, .pointer (some ⟨p0_0, 0, none⟩)), (14, .int .i64 a0.f0), (16, .int .i64 a0.f1), (18, .int .i64 a0.f2), (20, .int .i64 a0.f3), (22, .int .i64 a0.f4), (24, .int .i64 a0.f5), (26, .int .i64 a0.f6), (28, .int .i64 a0.f7)]) (bx' := [⟨p0_0, [.int .i64 a0.f0, .int .i64 a0.f1, .int .i64 a0.f2, .int .i64 a0.f3, .int .i64 a0.f4, .int .i64 a0.f5, .int .i64 a0.f6, .int .i64 a0.f7, .slice h0.1 a0.f8.length h0.2, .slice h1.1 a0.f9.length h1.2, .slice h2.1 a0.f10.length h2.2, .int .i64 a0.f11.f0, .int .i64 a0.f11.f1, .slice h3.1 a0.f11.f2.length h3.2, .slice h4.1 a0.f11.f3.length h4.2, .slice h5.1 a0.f11.f4.length h5.2, .slice h6.1 a0.f12.length h6.2], 29⟩]) (by kernel_rfl) ?_
  refine O.e (some 29) (Ev.lit (t := 22) (len := 8) (parts := #[(0, .tmp 14), (1, .tmp 16), (2, .tmp 18), (3, .tmp 20), (4, .tmp 22), (5, .tmp 24), (6, .tmp 26), (7, .tmp 28)]) (ps := [(0, .int .i64 a0.f0), (1, .int .i64 a0.f1), (2, .int .i64 a0.f2), (3, .int .i64 a0.f3), (4, .int .i64 a0.f4), (5, .int .i64 a0.f5), (6, .int .i64 a0.f6), (7, .int .i64 a0.f7)]) (cs := [.int .i64 a0.f0, .int .i64 a0.f1, .int .i64 a0.f2, .int .i64 a0.f3, .int .i64 a0.f4, .int .i64 a0.f5, .int .i64 a0.f6, .int .i64 a0.f7]) (e := 3) (Kd.int .i64) ([a0.f0, a0.f1, a0.f2, a0.f3, a0.f4, a0.f5, a0.f6, a0.f7] : List Int) (by kernel_rfl) (by kernel_rfl) (by kernel_rfl) (by kernel_rfl) (by kernel_rfl) (by decide) (fun w' hφ => (Els.cons (c := [.int .i64 a0.f0]) (rfl) (Els.cons (c := [.int .i64 a0.f1]) (rfl) (Els.cons (c := [.int .i64 a0.f2]) (rfl) (Els.cons (c := [.int .i64 a0.f3]) (rfl) (Els.cons (c := [.int .i64 a0.f4]) (rfl) (Els.cons (c := [.int .i64 a0.f5]) (rfl) (Els.cons (c := [.int .i64 a0.f6]) (rfl) (Els.cons (c := [.int .i64 a0.f7]) (rfl) (Els.nil _ _ _))))))))))) (by kernel_rfl) (fun p3_16 => ?_)
  refine O.e (some 30) (Ev.mono (fun w hS => hS.freezeH (h := ((some ⟨p3_16, 0, none⟩, 8) : Hd)) (xs := ([a0.f0, a0.f1, a0.f2, a0.f3, a0.f4, a0.f5, a0.f6, a0.f7] : List Int))) (Ev.mono (fun w hS => hS.nilrow (Kd.int .u8) 5) (Ev.callS (xs := [.const (.slice none 0 0), .tmp 29]) (bxr := [⟨p0_0, [.int .i64 a0.f0, .int .i64 a0.f1, .int .i64 a0.f2, .int .i64 a0.f3, .int .i64 a0.f4, .int .i64 a0.f5, .int .i64 a0.f6, .int .i64 a0.f7, .slice h0.1 a0.f8.length h0.2, .slice h1.1 a0.f9.length h1.2, .slice h2.1 a0.f10.length h2.2, .int .i64 a0.f11.f0, .int .i64 a0.f11.f1, .slice h3.1 a0.f11.f2.length h3.2, .slice h4.1 a0.f11.f3.length h4.2, .slice h5.1 a0.f11.f4.length h5.2, .slice h6.1 a0.f12.length h6.2], 29⟩]) (rwr := []) [] [0] [0] [] [0] (by kernel_rfl) (by kernel_rfl) (by kernel_rfl) (by kernel_rfl) (by decide) (fun w hS => mail_put.con K ([] : List Int) ([a0.f0, a0.f1, a0.f2, a0.f3, a0.f4, a0.f5, a0.f6, a0.f7] : List Int) (none, 0) ((some ⟨p3_16, 0, none⟩, 8) : Hd)  _ _ w hS hx3_17)))) (by kernel_rfl) (fun p3_17 => ?_)
  refine O.pure 1 [] [1, 4] [] (fr' := [(1, .pointer (some ⟨p0_0, 0, none⟩)), (4, .slice p3_17.1 x3_17.length p3_17.2)]) (bx' := [⟨p0_0, [.int .i64 a0.f0, .int .i64 a0.f1, .int .i64 a0.f2, .int .i64 a0.f3, .int .i64 a0.f4, .int .i64 a0.f5, .int .i64 a0.f6, .int .i64 a0.f7, .slice h0.1 a0.f8.length h0.2, .slice h1.1 a0.f9.length h1.2, .slice h2.1 a0.f10.length h2.2, .int .i64 a0.f11.f0, .int .i64 a0.f11.f1, .slice h3.1 a0.f11.f2.length h3.2, .slice h4.1 a0.f11.f3.length h4.2, .slice h5.1 a0.f11.f4.length h5.2, .slice h6.1 a0.f12.length h6.2], 29⟩]) (by kernel_rfl) ?_
  refine O.nil (by kernel_rfl) ?_
  refine J.seq (by kernel_rfl) ?_
  obtain ⟨x4_3, hx4_3, H⟩ := bindE H
  obtain ⟨x4_6, hx4_6, H⟩ := bindE H
  obtain ⟨x4_9, hx4_9, H⟩ := bindE H
  refine J.drawS (by kernel_rfl) [(0, some 31, .slice p3_17.1 x3_17.length p3_17.2), (1, some 32, .pointer (some ⟨p0_0, 8, none⟩)), (2, some 33, .slice h0.1 a0.f8.length h0.2), (4, some 35, .pointer (some ⟨p0_0, 9, none⟩)), (5, some 36, .slice h1.1 a0.f9.length h1.2), (7, some 38, .pointer (some ⟨p0_0, 10, none⟩)), (8, some 39, .slice h2.1 a0.f10.length h2.2)] ([0, 1, 2, 4, 5, 7, 8] ++ []) (by kernel_rfl) ?_
  refine D.mid (cs := [3]) [0, 1, 2, 4, 5, 7, 8] [] [(0, 8), (0, 9), (0, 10)] [p0_0, 8, p0_0, 9, p0_0, 10] (by kernel_rfl) (by kernel_rfl) trivial (by kernel_rfl) ⟨?_, trivial⟩
  refine EvStep.mk (some 34) (new := fun p4_3 => []) ([1, 4, 5, 7, 8] ++ []) (by kernel_rfl) (Ev.callS (xs := [.tmp 31, .tmp 33]) (bxr := [⟨p0_0, [.int .i64 a0.f0, .int .i64 a0.f1, .int .i64 a0.f2, .int .i64 a0.f3, .int .i64 a0.f4, .int .i64 a0.f5, .int .i64 a0.f6, .int .i64 a0.f7, .slice h0.1 a0.f8.length h0.2, .slice h1.1 a0.f9.length h1.2, .slice h2.1 a0.f10.length h2.2, .int .i64 a0.f11.f0, .int .i64 a0.f11.f1, .slice h3.1 a0.f11.f2.length h3.2, .slice h4.1 a0.f11.f3.length h4.2, .slice h5.1 a0.f11.f4.length h5.2, .slice h6.1 a0.f12.length h6.2], 29⟩]) (rwr := []) [] [0] [0] [] [1] (by kernel_rfl) (by kernel_rfl) (by kernel_rfl) (by kernel_rfl) (by decide) (fun w hS => mail_list.con K x3_17 a0.f8 p3_17 h0  _ _ w hS hx4_3)) (fun p4_3 => by kernel_rfl) (fun p4_3 => ?_)
  refine D.mid (cs := [6]) [1, 4, 5, 7, 8] [] [(0, 9), (0, 10)] [p0_0, 9, p0_0, 10] (by kernel_rfl) (by kernel_rfl) trivial (by kernel_rfl) ⟨?_, trivial⟩
  refine EvStep.mk (some 37) (new := fun p4_6 => []) ([1, 4, 7, 8] ++ []) (by kernel_rfl) (Ev.callS (xs := [.tmp 34, .tmp 36]) (bxr := [⟨p0_0, [.int .i64 a0.f0, .int .i64 a0.f1, .int .i64 a0.f2, .int .i64 a0.f3, .int .i64 a0.f4, .int .i64 a0.f5, .int .i64 a0.f6, .int .i64 a0.f7, .slice h0.1 a0.f8.length h0.2, .slice h1.1 a0.f9.length h1.2, .slice h2.1 a0.f10.length h2.2, .int .i64 a0.f11.f0, .int .i64 a0.f11.f1, .slice h3.1 a0.f11.f2.length h3.2, .slice h4.1 a0.f11.f3.length h4.2, .slice h5.1 a0.f11.f4.length h5.2, .slice h6.1 a0.f12.length h6.2], 29⟩]) (rwr := []) [] [0] [0] [] [2] (by kernel_rfl) (by kernel_rfl) (by kernel_rfl) (by kernel_rfl) (by decide) (fun w hS => mail_list.con K x4_3 a0.f9 p4_3 h1  _ _ w hS hx4_6)) (fun p4_6 => by kernel_rfl) (fun p4_6 => ?_)
  refine D.mid (cs := [9]) [1, 4, 7, 8] [] [(0, 10)] [p0_0, 10] (by kernel_rfl) (by kernel_rfl) trivial (by kernel_rfl) ⟨?_, trivial⟩
  refine EvStep.mk (some 40) (new := fun p4_9 => [(10, some 4, .slice p4_9.1 x4_9.length p4_9.2)]) ([1, 4, 7, 10] ++ []) (by kernel_rfl) (Ev.callS (xs := [.tmp 37, .tmp 39]) (bxr := [⟨p0_0, [.int .i64 a0.f0, .int .i64 a0.f1, .int .i64 a0.f2, .int .i64 a0.f3, .int .i64 a0.f4, .int .i64 a0.f5, .int .i64 a0.f6, .int .i64 a0.f7, .slice h0.1 a0.f8.length h0.2, .slice h1.1 a0.f9.length h1.2, .slice h2.1 a0.f10.length h2.2, .int .i64 a0.f11.f0, .int .i64 a0.f11.f1, .slice h3.1 a0.f11.f2.length h3.2, .slice h4.1 a0.f11.f3.length h4.2, .slice h5.1 a0.f11.f4.length h5.2, .slice h6.1 a0.f12.length h6.2], 29⟩]) (rwr := []) [] [0] [0] [] [3] (by kernel_rfl) (by kernel_rfl) (by kernel_rfl) (by kernel_rfl) (by decide) (fun w hS => mail_put.con K x4_6 a0.f10 p4_6 h2  _ _ w hS hx4_9)) (fun p4_9 => by kernel_rfl) (fun p4_9 => ?_)
  refine D.fin (fr' := [(1, .pointer (some ⟨p0_0, 0, none⟩)), (4, .slice p4_9.1 x4_9.length p4_9.2)]) [1, 4, 7, 10] [] [] [] [1, 4] (by kernel_rfl) (by kernel_rfl) trivial (by kernel_rfl) ?_
  refine J.seq (by kernel_rfl) ?_
  obtain ⟨x5_12, hx5_12, H⟩ := bindE H
  refine J.region (by kernel_rfl) ?_
  refine O.pure 11 [(0, 11), (0, 12), (0, 13)] [1, 4, 41, 44, 47, 51] [p0_0, 11, p0_0, 12, p0_0, 13] (fr' := [(1, .pointer (some ⟨p0_0, 0, none⟩)), (4, .slice p4_9.1 x4_9.length p4_9.2), (41, .slice p4_9.1 x4_9.length p4_9.2), (44, .int .i64 a0.f11.f0), (47, .int .i64 a0.f11.f1), (51, .int .i64 (a0.f11.f2.length : Int))]) (bx' := [⟨p0_0, [.int .i64 a0.f0, .int .i64 a0.f1, .int .i64 a0.f2, .int .i64 a0.f3, .int .i64 a0.f4, .int .i64 a0.f5, .int .i64 a0.f6, .int .i64 a0.f7, .slice h0.1 a0.f8.length h0.2, .slice h1.1 a0.f9.length h1.2, .slice h2.1 a0.f10.length h2.2, .int .i64 a0.f11.f0, .int .i64 a0.f11.f1, .slice h3.1 a0.f11.f2.length h3.2, .slice h4.1 a0.f11.f3.length h4.2, .slice h5.1 a0.f11.f4.length h5.2, .slice h6.1 a0.f12.length h6.2], 29⟩]) (by kernel_rfl) ?_
  refine O.e (some 52) (Ev.lit (t := 22) (len := 3) (parts := #[(0, .tmp 44), (1, .tmp 47), (2, .tmp 51)]) (ps := [(0, .int .i64 a0.f11.f0), (1, .int .i64 a0.f11.f1), (2, .int .i64 (a0.f11.f2.length : Int))]) (cs := [.int .i64 a0.f11.f0, .int .i64 a0.f11.f1, .int .i64 (a0.f11.f2.length : Int)]) (e := 3) (Kd.int .i64) ([a0.f11.f0, a0.f11.f1, (a0.f11.f2.length : Int)] : List Int) (by kernel_rfl) (by kernel_rfl) (by kernel_rfl) (by kernel_rfl) (by kernel_rfl) (by decide) (fun w' hφ => (Els.cons (c := [.int .i64 a0.f11.f0]) (rfl) (Els.cons (c := [.int .i64 a0.f11.f1]) (rfl) (Els.cons (c := [.int .i64 (a0.f11.f2.length : Int)]) (rfl) (Els.nil _ _ _)))))) (by kernel_rfl) (fun p5_11 => ?_)
  refine O.e (some 53) (Ev.mono (fun w hS => hS.freezeH (h := ((some ⟨p5_11, 0, none⟩, 3) : Hd)) (xs := ([a0.f11.f0, a0.f11.f1, (a0.f11.f2.length : Int)] : List Int))) (Ev.callS (xs := [.tmp 41, .tmp 52]) (bxr := [⟨p0_0, [.int .i64 a0.f0, .int .i64 a0.f1, .int .i64 a0.f2, .int .i64 a0.f3, .int .i64 a0.f4, .int .i64 a0.f5, .int .i64 a0.f6, .int .i64 a0.f7, .slice h0.1 a0.f8.length h0.2, .slice h1.1 a0.f9.length h1.2, .slice h2.1 a0.f10.length h2.2, .int .i64 a0.f11.f0, .int .i64 a0.f11.f1, .slice h3.1 a0.f11.f2.length h3.2, .slice h4.1 a0.f11.f3.length h4.2, .slice h5.1 a0.f11.f4.length h5.2, .slice h6.1 a0.f12.length h6.2], 29⟩]) (rwr := []) [] [0] [0] [] [0] (by kernel_rfl) (by kernel_rfl) (by kernel_rfl) (by kernel_rfl) (by decide) (fun w hS => mail_put.con K x4_9 ([a0.f11.f0, a0.f11.f1, (a0.f11.f2.length : Int)] : List Int) p4_9 ((some ⟨p5_11, 0, none⟩, 3) : Hd)  _ _ w hS hx5_12))) (by kernel_rfl) (fun p5_12 => ?_)
  refine O.pure 1 [] [1, 4] [] (fr' := [(1, .pointer (some ⟨p0_0, 0, none⟩)), (4, .slice p5_12.1 x5_12.length p5_12.2)]) (bx' := [⟨p0_0, [.int .i64 a0.f0, .int .i64 a0.f1, .int .i64 a0.f2, .int .i64 a0.f3, .int .i64 a0.f4, .int .i64 a0.f5, .int .i64 a0.f6, .int .i64 a0.f7, .slice h0.1 a0.f8.length h0.2, .slice h1.1 a0.f9.length h1.2, .slice h2.1 a0.f10.length h2.2, .int .i64 a0.f11.f0, .int .i64 a0.f11.f1, .slice h3.1 a0.f11.f2.length h3.2, .slice h4.1 a0.f11.f3.length h4.2, .slice h5.1 a0.f11.f4.length h5.2, .slice h6.1 a0.f12.length h6.2], 29⟩]) (by kernel_rfl) ?_
  refine O.nil (by kernel_rfl) ?_
  refine J.seq (by kernel_rfl) ?_
  refine J.seq (by kernel_rfl) ?_
  refine J.region (by kernel_rfl) ?_
  refine O.pure 5 [(0, 13)] [1, 4, 56, 57, 58] [p0_0, 13] (fr' := [(1, .pointer (some ⟨p0_0, 0, none⟩)), (4, .slice p5_12.1 x5_12.length p5_12.2), (56, .slice h3.1 a0.f11.f2.length h3.2), (57, .int .i64 (a0.f11.f2.length : Int)), (58, .int .i64 0)]) (bx' := [⟨p0_0, [.int .i64 a0.f0, .int .i64 a0.f1, .int .i64 a0.f2, .int .i64 a0.f3, .int .i64 a0.f4, .int .i64 a0.f5, .int .i64 a0.f6, .int .i64 a0.f7, .slice h0.1 a0.f8.length h0.2, .slice h1.1 a0.f9.length h1.2, .slice h2.1 a0.f10.length h2.2, .int .i64 a0.f11.f0, .int .i64 a0.f11.f1, .slice h3.1 a0.f11.f2.length h3.2, .slice h4.1 a0.f11.f3.length h4.2, .slice h5.1 a0.f11.f4.length h5.2, .slice h6.1 a0.f12.length h6.2], 29⟩]) (by kernel_rfl) ?_
  refine O.nil (by kernel_rfl) ?_
  refine J.join (α := (List Int)) (γ := Hd) (fun o2 q2 => [(1, .pointer (some ⟨p0_0, 0, none⟩)), (4, .slice q2.1 o2.length q2.2)]) (fun o2 q2 => St X w [] [⟨p0_0, [.int .i64 a0.f0, .int .i64 a0.f1, .int .i64 a0.f2, .int .i64 a0.f3, .int .i64 a0.f4, .int .i64 a0.f5, .int .i64 a0.f6, .int .i64 a0.f7, .slice h0.1 a0.f8.length h0.2, .slice h1.1 a0.f9.length h1.2, .slice h2.1 a0.f10.length h2.2, .int .i64 a0.f11.f0, .int .i64 a0.f11.f1, .slice h3.1 a0.f11.f2.length h3.2, .slice h4.1 a0.f11.f3.length h4.2, .slice h5.1 a0.f11.f4.length h5.2, .slice h6.1 a0.f12.length h6.2], 29⟩] [mkRow (Kd.int .u8) 5 (.slice q2.1 o2.length q2.2) o2] [] [Rd (Kd.int .i64) h0.1 h0.2 a0.f8, Rd (Kd.int .i64) h1.1 h1.2 a0.f9, Rd (Kd.int .i64) h2.1 h2.2 a0.f10, Rd (Kd.int .i64) h3.1 h3.2 a0.f11.f2, Rd Kd.bool h4.1 h4.2 a0.f11.f3, Rd kd77 h5.1 h5.2 a0.f11.f4, Rd kd77 h6.1 h6.2 a0.f12]) H (fun o2 q2 H => ?_) (fun o2 H hj2 => ?_)
  ·refine J.seq (by kernel_rfl) ?_
   refine J.seq (by kernel_rfl) ?_
   refine J.region (by kernel_rfl) ?_
   refine O.pure 5 [(0, 14)] [1, 4, 69, 70, 71] [p0_0, 14] (fr' := [(1, .pointer (some ⟨p0_0, 0, none⟩)), (4, .slice q2.1 o2.length q2.2), (69, .slice h4.1 a0.f11.f3.length h4.2), (70, .int .i64 (a0.f11.f3.length : Int)), (71, .int .i64 0)]) (bx' := [⟨p0_0, [.int .i64 a0.f0, .int .i64 a0.f1, .int .i64 a0.f2, .int .i64 a0.f3, .int .i64 a0.f4, .int .i64 a0.f5, .int .i64 a0.f6, .int .i64 a0.f7, .slice h0.1 a0.f8.length h0.2, .slice h1.1 a0.f9.length h1.2, .slice h2.1 a0.f10.length h2.2, .int .i64 a0.f11.f0, .int .i64 a0.f11.f1, .slice h3.1 a0.f11.f2.length h3.2, .slice h4.1 a0.f11.f3.length h4.2, .slice h5.1 a0.f11.f4.length h5.2, .slice h6.1 a0.f12.length h6.2], 29⟩]) (by kernel_rfl) ?_
   refine O.nil (by kernel_rfl) ?_
   refine J.join (α := (List Int)) (γ := Hd) (fun o7 q7 => [(1, .pointer (some ⟨p0_0, 0, none⟩)), (4, .slice q7.1 o7.length q7.2)]) (fun o7 q7 => St X w [] [⟨p0_0, [.int .i64 a0.f0, .int .i64 a0.f1, .int .i64 a0.f2, .int .i64 a0.f3, .int .i64 a0.f4, .int .i64 a0.f5, .int .i64 a0.f6, .int .i64 a0.f7, .slice h0.1 a0.f8.length h0.2, .slice h1.1 a0.f9.length h1.2, .slice h2.1 a0.f10.length h2.2, .int .i64 a0.f11.f0, .int .i64 a0.f11.f1, .slice h3.1 a0.f11.f2.length h3.2, .slice h4.1 a0.f11.f3.length h4.2, .slice h5.1 a0.f11.f4.length h5.2, .slice h6.1 a0.f12.length h6.2], 29⟩] [mkRow (Kd.int .u8) 5 (.slice q7.1 o7.length q7.2) o7] [] [Rd (Kd.int .i64) h0.1 h0.2 a0.f8, Rd (Kd.int .i64) h1.1 h1.2 a0.f9, Rd (Kd.int .i64) h2.1 h2.2 a0.f10, Rd (Kd.int .i64) h3.1 h3.2 a0.f11.f2, Rd Kd.bool h4.1 h4.2 a0.f11.f3, Rd kd77 h5.1 h5.2 a0.f11.f4, Rd kd77 h6.1 h6.2 a0.f12]) H (fun o7 q7 H => ?_) (fun o7 H hj7 => ?_)
   ·refine J.seq (by kernel_rfl) ?_
    obtain ⟨x19_4, hx19_4, H⟩ := bindE H
    obtain ⟨x19_7, hx19_7, H⟩ := bindE H
    refine J.drawS (by kernel_rfl) [(0, some 81, .slice q7.1 o7.length q7.2), (1, some 82, .pointer (some ⟨p0_0, 11, none⟩)), (2, some 83, .pointer (some ⟨p0_0, 15, none⟩)), (3, some 84, .slice h5.1 a0.f11.f4.length h5.2), (5, some 86, .pointer (some ⟨p0_0, 16, none⟩)), (6, some 87, .slice h6.1 a0.f12.length h6.2)] ([0, 1, 2, 3, 5, 6] ++ []) (by kernel_rfl) ?_
    refine D.mid (cs := [4]) [0, 1, 2, 3, 5, 6] [] [(0, 15), (0, 16)] [p0_0, 15, p0_0, 16] (by kernel_rfl) (by kernel_rfl) trivial (by kernel_rfl) ⟨?_, trivial⟩
    refine EvStep.mk (some 85) (new := fun p19_4 => []) ([1, 2, 5, 6] ++ []) (by kernel_rfl) (Ev.callS (xs := [.tmp 81, .tmp 84]) (bxr := [⟨p0_0, [.int .i64 a0.f0, .int .i64 a0.f1, .int .i64 a0.f2, .int .i64 a0.f3, .int .i64 a0.f4, .int .i64 a0.f5, .int .i64 a0.f6, .int .i64 a0.f7, .slice h0.1 a0.f8.length h0.2, .slice h1.1 a0.f9.length h1.2, .slice h2.1 a0.f10.length h2.2, .int .i64 a0.f11.f0, .int .i64 a0.f11.f1, .slice h3.1 a0.f11.f2.length h3.2, .slice h4.1 a0.f11.f3.length h4.2, .slice h5.1 a0.f11.f4.length h5.2, .slice h6.1 a0.f12.length h6.2], 29⟩]) (rwr := []) [] [0] [0] [] [5] (by kernel_rfl) (by kernel_rfl) (by kernel_rfl) (by kernel_rfl) (by decide) (fun w hS => mail_told.con K o7 a0.f11.f4 q7 h5  _ _ w hS hx19_4)) (fun p19_4 => by kernel_rfl) (fun p19_4 => ?_)
    refine D.mid (cs := [7]) [1, 2, 5, 6] [] [(0, 16)] [p0_0, 16] (by kernel_rfl) (by kernel_rfl) trivial (by kernel_rfl) ⟨?_, trivial⟩
    refine EvStep.mk (some 88) (new := fun p19_7 => [(8, some 2, .slice p19_7.1 x19_7.length p19_7.2), (9, some 3, .int .i64 0)]) ([1, 2, 5, 8, 9] ++ []) (by kernel_rfl) (Ev.callS (xs := [.tmp 85, .tmp 87]) (bxr := [⟨p0_0, [.int .i64 a0.f0, .int .i64 a0.f1, .int .i64 a0.f2, .int .i64 a0.f3, .int .i64 a0.f4, .int .i64 a0.f5, .int .i64 a0.f6, .int .i64 a0.f7, .slice h0.1 a0.f8.length h0.2, .slice h1.1 a0.f9.length h1.2, .slice h2.1 a0.f10.length h2.2, .int .i64 a0.f11.f0, .int .i64 a0.f11.f1, .slice h3.1 a0.f11.f2.length h3.2, .slice h4.1 a0.f11.f3.length h4.2, .slice h5.1 a0.f11.f4.length h5.2, .slice h6.1 a0.f12.length h6.2], 29⟩]) (rwr := []) [] [0] [0] [] [6] (by kernel_rfl) (by kernel_rfl) (by kernel_rfl) (by kernel_rfl) (by decide) (fun w hS => mail_told.con K x19_4 a0.f12 p19_4 h6  _ _ w hS hx19_7)) (fun p19_7 => by kernel_rfl) (fun p19_7 => ?_)
    refine D.fin (fr' := [(2, .slice p19_7.1 x19_7.length p19_7.2), (3, .int .i64 0)]) [1, 2, 5, 8, 9] [] [] [] [2, 3] (by kernel_rfl) (by kernel_rfl) trivial (by kernel_rfl) ?_
    obtain rfl := Option.some.inj H
    exact J.doneS [] [] [] [] [0] p19_7 (vs := [.slice p19_7.1 x19_7.length p19_7.2, .int .i64 0]) (by kernel_rfl) (by kernel_rfl) (by kernel_rfl) (by kernel_rfl) (by kernel_rfl) (by decide)
   ·refine J.block (id := 2) (by kernel_rfl) ?_
    refine J.loopI (σ := (List Int) × Int) (γ := Hd) (f := fun m_ s_ => mail_Encode.l21 K a0 m_ s_) (fun s21 g21 => [(1, .pointer (some ⟨p0_0, 0, none⟩)), (4, .slice g21.1 s21.1.length g21.2), (69, .slice h4.1 a0.f11.f3.length h4.2), (70, .int .i64 (a0.f11.f3.length : Int)), (71, .int .i64 s21.2)]) (fun s21 g21 => St X w [] [⟨p0_0, [.int .i64 a0.f0, .int .i64 a0.f1, .int .i64 a0.f2, .int .i64 a0.f3, .int .i64 a0.f4, .int .i64 a0.f5, .int .i64 a0.f6, .int .i64 a0.f7, .slice h0.1 a0.f8.length h0.2, .slice h1.1 a0.f9.length h1.2, .slice h2.1 a0.f10.length h2.2, .int .i64 a0.f11.f0, .int .i64 a0.f11.f1, .slice h3.1 a0.f11.f2.length h3.2, .slice h4.1 a0.f11.f3.length h4.2, .slice h5.1 a0.f11.f4.length h5.2, .slice h6.1 a0.f12.length h6.2], 29⟩] [mkRow (Kd.int .u8) 5 (.slice g21.1 s21.1.length g21.2) s21.1] [] [Rd (Kd.int .i64) h0.1 h0.2 a0.f8, Rd (Kd.int .i64) h1.1 h1.2 a0.f9, Rd (Kd.int .i64) h2.1 h2.2 a0.f10, Rd (Kd.int .i64) h3.1 h3.2 a0.f11.f2, Rd Kd.bool h4.1 h4.2 a0.f11.f3, Rd kd77 h5.1 h5.2 a0.f11.f4, Rd kd77 h6.1 h6.2 a0.f12]) K (o2, 0) q2 (by kernel_rfl) H (fun _ => rfl) (fun m_ s21 H ih21 g21 => ?_) (fun h_ => ?_)
    ·unfold mail_Encode.l21 at H
     refine J.seq (by kernel_rfl) ?_
     refine J.region (by kernel_rfl) ?_
     refine O.pure 1 [] [1, 4, 69, 70, 71, 72] [] (fr' := [(1, .pointer (some ⟨p0_0, 0, none⟩)), (4, .slice g21.1 s21.1.length g21.2), (69, .slice h4.1 a0.f11.f3.length h4.2), (70, .int .i64 (a0.f11.f3.length : Int)), (71, .int .i64 s21.2), (72, .bool (decide (s21.2 < (a0.f11.f3.length : Int))))]) (bx' := [⟨p0_0, [.int .i64 a0.f0, .int .i64 a0.f1, .int .i64 a0.f2, .int .i64 a0.f3, .int .i64 a0.f4, .int .i64 a0.f5, .int .i64 a0.f6, .int .i64 a0.f7, .slice h0.1 a0.f8.length h0.2, .slice h1.1 a0.f9.length h1.2, .slice h2.1 a0.f10.length h2.2, .int .i64 a0.f11.f0, .int .i64 a0.f11.f1, .slice h3.1 a0.f11.f2.length h3.2, .slice h4.1 a0.f11.f3.length h4.2, .slice h5.1 a0.f11.f4.length h5.2, .slice h6.1 a0.f12.length h6.2], 29⟩]) (by kernel_rfl) ?_
     refine O.nil (by kernel_rfl) ?_
     refine J.seq (by kernel_rfl) ?_
     rcases condE H with ⟨hc30, H⟩ | ⟨hc30, H⟩
     ·refine J.condT (x := .tmp 72) (t := (decide (s21.2 < (a0.f11.f3.length : Int)))) (by kernel_rfl) (by kernel_rfl) hc30 ?_
      refine J.skip (by kernel_rfl) ?_
      refine J.seq (by kernel_rfl) ?_
      refine J.block (id := 3) (by kernel_rfl) ?_
      refine J.seq (by kernel_rfl) ?_
      obtain ⟨x13_0, hx13_0, H⟩ := bindE H
      obtain ⟨hx13_0a, hx13_0⟩ := idxE hx13_0
      refine J.region (by kernel_rfl) ?_
      refine O.open (d := Kd.bool) (h := h4) (i := s21.2) 4 rfl hx13_0 (Lay.bool _) (fun p13_0 hp13_0A => ?_)
      refine O.q (v := .pointer (some ⟨p13_0.1, p13_0.2.1 + s21.2.toNat * 1, none⟩)) (some 73) (Qu.idx (t := 24) (x := .tmp 69) (y := .tmp 71) (c := h4.2) (kk := .i64) (sz := 1) (by kernel_rfl) (by kernel_rfl) (by kernel_rfl) (by kernel_rfl) hx13_0a (idx_lt hx13_0) hp13_0A) (by kernel_rfl) ?_
      refine O.pure 2 [(1, 0)] [1, 4, 8, 69, 70, 71] [p13_0.1, p13_0.2.1 + s21.2.toNat * 1] (fr' := [(1, .pointer (some ⟨p0_0, 0, none⟩)), (4, .slice g21.1 s21.1.length g21.2), (8, .bool x13_0), (69, .slice h4.1 a0.f11.f3.length h4.2), (70, .int .i64 (a0.f11.f3.length : Int)), (71, .int .i64 s21.2)]) (bx' := [⟨p0_0, [.int .i64 a0.f0, .int .i64 a0.f1, .int .i64 a0.f2, .int .i64 a0.f3, .int .i64 a0.f4, .int .i64 a0.f5, .int .i64 a0.f6, .int .i64 a0.f7, .slice h0.1 a0.f8.length h0.2, .slice h1.1 a0.f9.length h1.2, .slice h2.1 a0.f10.length h2.2, .int .i64 a0.f11.f0, .int .i64 a0.f11.f1, .slice h3.1 a0.f11.f2.length h3.2, .slice h4.1 a0.f11.f3.length h4.2, .slice h5.1 a0.f11.f4.length h5.2, .slice h6.1 a0.f12.length h6.2], 29⟩]) (by kernel_rfl) ?_
      refine O.nil (by kernel_rfl) ?_
      refine J.seq (by kernel_rfl) ?_
      refine J.region (by kernel_rfl) ?_
      refine O.pure 1 [] [1, 4, 8, 9, 69, 70, 71] [] (fr' := [(1, .pointer (some ⟨p0_0, 0, none⟩)), (4, .slice g21.1 s21.1.length g21.2), (8, .bool x13_0), (9, .int .i64 0), (69, .slice h4.1 a0.f11.f3.length h4.2), (70, .int .i64 (a0.f11.f3.length : Int)), (71, .int .i64 s21.2)]) (bx' := [⟨p0_0, [.int .i64 a0.f0, .int .i64 a0.f1, .int .i64 a0.f2, .int .i64 a0.f3, .int .i64 a0.f4, .int .i64 a0.f5, .int .i64 a0.f6, .int .i64 a0.f7, .slice h0.1 a0.f8.length h0.2, .slice h1.1 a0.f9.length h1.2, .slice h2.1 a0.f10.length h2.2, .int .i64 a0.f11.f0, .int .i64 a0.f11.f1, .slice h3.1 a0.f11.f2.length h3.2, .slice h4.1 a0.f11.f3.length h4.2, .slice h5.1 a0.f11.f4.length h5.2, .slice h6.1 a0.f12.length h6.2], 29⟩]) (by kernel_rfl) ?_
      refine O.nil (by kernel_rfl) ?_
      refine J.seq (by kernel_rfl) ?_
      refine J.seq (by kernel_rfl) ?_
      refine J.region (by kernel_rfl) ?_
      refine O.pure 1 [] [1, 4, 9, 69, 70, 71, 75] [] (fr' := [(1, .pointer (some ⟨p0_0, 0, none⟩)), (4, .slice g21.1 s21.1.length g21.2), (9, .int .i64 0), (69, .slice h4.1 a0.f11.f3.length h4.2), (70, .int .i64 (a0.f11.f3.length : Int)), (71, .int .i64 s21.2), (75, .bool x13_0)]) (bx' := [⟨p0_0, [.int .i64 a0.f0, .int .i64 a0.f1, .int .i64 a0.f2, .int .i64 a0.f3, .int .i64 a0.f4, .int .i64 a0.f5, .int .i64 a0.f6, .int .i64 a0.f7, .slice h0.1 a0.f8.length h0.2, .slice h1.1 a0.f9.length h1.2, .slice h2.1 a0.f10.length h2.2, .int .i64 a0.f11.f0, .int .i64 a0.f11.f1, .slice h3.1 a0.f11.f2.length h3.2, .slice h4.1 a0.f11.f3.length h4.2, .slice h5.1 a0.f11.f4.length h5.2, .slice h6.1 a0.f12.length h6.2], 29⟩]) (by kernel_rfl) ?_
      refine O.nil (by kernel_rfl) ?_
      refine J.join (α := Int) (γ := Unit) (fun o31 q31 => [(1, .pointer (some ⟨p0_0, 0, none⟩)), (4, .slice g21.1 s21.1.length g21.2), (9, .int .i64 o31), (69, .slice h4.1 a0.f11.f3.length h4.2), (70, .int .i64 (a0.f11.f3.length : Int)), (71, .int .i64 s21.2)]) (fun o31 q31 => St X w [] [⟨p0_0, [.int .i64 a0.f0, .int .i64 a0.f1, .int .i64 a0.f2, .int .i64 a0.f3, .int .i64 a0.f4, .int .i64 a0.f5, .int .i64 a0.f6, .int .i64 a0.f7, .slice h0.1 a0.f8.length h0.2, .slice h1.1 a0.f9.length h1.2, .slice h2.1 a0.f10.length h2.2, .int .i64 a0.f11.f0, .int .i64 a0.f11.f1, .slice h3.1 a0.f11.f2.length h3.2, .slice h4.1 a0.f11.f3.length h4.2, .slice h5.1 a0.f11.f4.length h5.2, .slice h6.1 a0.f12.length h6.2], 29⟩] [mkRow (Kd.int .u8) 5 (.slice g21.1 s21.1.length g21.2) s21.1] [] [Rd (Kd.int .i64) h0.1 h0.2 a0.f8, Rd (Kd.int .i64) h1.1 h1.2 a0.f9, Rd (Kd.int .i64) h2.1 h2.2 a0.f10, Rd (Kd.int .i64) h3.1 h3.2 a0.f11.f2, Rd Kd.bool h4.1 h4.2 a0.f11.f3, Rd kd77 h5.1 h5.2 a0.f11.f4, Rd kd77 h6.1 h6.2 a0.f12]) H (fun o31 q31 H => ?_) (fun o31 H hj31 => ?_)
      ·obtain ⟨x17_3, hx17_3, H⟩ := bindE H
       refine J.region (by kernel_rfl) ?_
       refine O.pure 2 [] [1, 4, 69, 70, 71, 76, 77] [] (fr' := [(1, .pointer (some ⟨p0_0, 0, none⟩)), (4, .slice g21.1 s21.1.length g21.2), (69, .slice h4.1 a0.f11.f3.length h4.2), (70, .int .i64 (a0.f11.f3.length : Int)), (71, .int .i64 s21.2), (76, .slice g21.1 s21.1.length g21.2), (77, .int .i64 o31)]) (bx' := [⟨p0_0, [.int .i64 a0.f0, .int .i64 a0.f1, .int .i64 a0.f2, .int .i64 a0.f3, .int .i64 a0.f4, .int .i64 a0.f5, .int .i64 a0.f6, .int .i64 a0.f7, .slice h0.1 a0.f8.length h0.2, .slice h1.1 a0.f9.length h1.2, .slice h2.1 a0.f10.length h2.2, .int .i64 a0.f11.f0, .int .i64 a0.f11.f1, .slice h3.1 a0.f11.f2.length h3.2, .slice h4.1 a0.f11.f3.length h4.2, .slice h5.1 a0.f11.f4.length h5.2, .slice h6.1 a0.f12.length h6.2], 29⟩]) (by kernel_rfl) ?_
       refine O.e (some 78) (Ev.lit (t := 22) (len := 1) (parts := #[(0, .tmp 77)]) (ps := [(0, .int .i64 o31)]) (cs := [.int .i64 o31]) (e := 3) (Kd.int .i64) ([o31] : List Int) (by kernel_rfl) (by kernel_rfl) (by kernel_rfl) (by kernel_rfl) (by kernel_rfl) (by decide) (fun w' hφ => (Els.cons (c := [.int .i64 o31]) (rfl) (Els.nil _ _ _)))) (by kernel_rfl) (fun p17_2 => ?_)
       refine O.e (some 79) (Ev.mono (fun w hS => hS.freezeH (h := ((some ⟨p17_2, 0, none⟩, 1) : Hd)) (xs := ([o31] : List Int))) (Ev.callS (xs := [.tmp 76, .tmp 78]) (bxr := [⟨p0_0, [.int .i64 a0.f0, .int .i64 a0.f1, .int .i64 a0.f2, .int .i64 a0.f3, .int .i64 a0.f4, .int .i64 a0.f5, .int .i64 a0.f6, .int .i64 a0.f7, .slice h0.1 a0.f8.length h0.2, .slice h1.1 a0.f9.length h1.2, .slice h2.1 a0.f10.length h2.2, .int .i64 a0.f11.f0, .int .i64 a0.f11.f1, .slice h3.1 a0.f11.f2.length h3.2, .slice h4.1 a0.f11.f3.length h4.2, .slice h5.1 a0.f11.f4.length h5.2, .slice h6.1 a0.f12.length h6.2], 29⟩]) (rwr := []) [] [0] [0] [] [0] (by kernel_rfl) (by kernel_rfl) (by kernel_rfl) (by kernel_rfl) (by decide) (fun w hS => mail_put.con K s21.1 ([o31] : List Int) g21 ((some ⟨p17_2, 0, none⟩, 1) : Hd)  _ _ w hS hx17_3))) (by kernel_rfl) (fun p17_3 => ?_)
       refine O.pure 1 [] [1, 4, 69, 70, 71] [] (fr' := [(1, .pointer (some ⟨p0_0, 0, none⟩)), (4, .slice p17_3.1 x17_3.length p17_3.2), (69, .slice h4.1 a0.f11.f3.length h4.2), (70, .int .i64 (a0.f11.f3.length : Int)), (71, .int .i64 s21.2)]) (bx' := [⟨p0_0, [.int .i64 a0.f0, .int .i64 a0.f1, .int .i64 a0.f2, .int .i64 a0.f3, .int .i64 a0.f4, .int .i64 a0.f5, .int .i64 a0.f6, .int .i64 a0.f7, .slice h0.1 a0.f8.length h0.2, .slice h1.1 a0.f9.length h1.2, .slice h2.1 a0.f10.length h2.2, .int .i64 a0.f11.f0, .int .i64 a0.f11.f1, .slice h3.1 a0.f11.f2.length h3.2, .slice h4.1 a0.f11.f3.length h4.2, .slice h5.1 a0.f11.f4.length h5.2, .slice h6.1 a0.f12.length h6.2], 29⟩]) (by kernel_rfl) ?_
       refine O.nil (by kernel_rfl) ?_
       refine J.out ?_
       refine J.region (by kernel_rfl) ?_
       refine O.pure 2 [] [1, 4, 69, 70, 71] [] (fr' := [(1, .pointer (some ⟨p0_0, 0, none⟩)), (4, .slice p17_3.1 x17_3.length p17_3.2), (69, .slice h4.1 a0.f11.f3.length h4.2), (70, .int .i64 (a0.f11.f3.length : Int)), (71, .int .i64 (IntKind.wrap .i64 (s21.2 + 1)))]) (bx' := [⟨p0_0, [.int .i64 a0.f0, .int .i64 a0.f1, .int .i64 a0.f2, .int .i64 a0.f3, .int .i64 a0.f4, .int .i64 a0.f5, .int .i64 a0.f6, .int .i64 a0.f7, .slice h0.1 a0.f8.length h0.2, .slice h1.1 a0.f9.length h1.2, .slice h2.1 a0.f10.length h2.2, .int .i64 a0.f11.f0, .int .i64 a0.f11.f1, .slice h3.1 a0.f11.f2.length h3.2, .slice h4.1 a0.f11.f3.length h4.2, .slice h5.1 a0.f11.f4.length h5.2, .slice h6.1 a0.f12.length h6.2], 29⟩]) (by kernel_rfl) ?_
       refine O.nil (by kernel_rfl) ?_
       exact J.conv2 [1, 4, 69, 70, 71] [1, 2, 3, 4, 5, 6, 7] [0] [0] (by kernel_rfl) (by kernel_rfl) (by kernel_rfl) (by kernel_rfl) (by decide) (ih21 (x17_3, (IntKind.wrap .i64 (s21.2 + 1))) p17_3 H)
      ·rcases condE H with ⟨hc33, H⟩ | ⟨hc33, H⟩
       ·refine J.condT (x := .tmp 75) (t := x13_0) (by kernel_rfl) (by kernel_rfl) hc33 ?_
        refine J.region (by kernel_rfl) ?_
        refine O.pure 1 [] [1, 4, 9, 69, 70, 71] [] (fr' := [(1, .pointer (some ⟨p0_0, 0, none⟩)), (4, .slice g21.1 s21.1.length g21.2), (9, .int .i64 1), (69, .slice h4.1 a0.f11.f3.length h4.2), (70, .int .i64 (a0.f11.f3.length : Int)), (71, .int .i64 s21.2)]) (bx' := [⟨p0_0, [.int .i64 a0.f0, .int .i64 a0.f1, .int .i64 a0.f2, .int .i64 a0.f3, .int .i64 a0.f4, .int .i64 a0.f5, .int .i64 a0.f6, .int .i64 a0.f7, .slice h0.1 a0.f8.length h0.2, .slice h1.1 a0.f9.length h1.2, .slice h2.1 a0.f10.length h2.2, .int .i64 a0.f11.f0, .int .i64 a0.f11.f1, .slice h3.1 a0.f11.f2.length h3.2, .slice h4.1 a0.f11.f3.length h4.2, .slice h5.1 a0.f11.f4.length h5.2, .slice h6.1 a0.f12.length h6.2], 29⟩]) (by kernel_rfl) ?_
        refine O.nil (by kernel_rfl) ?_
        obtain rfl := Option.some.inj H
        exact J.conv2 [1, 4, 9, 69, 70, 71] [0, 1, 2, 3, 4, 5, 6] [0] [0] (by kernel_rfl) (by kernel_rfl) (by kernel_rfl) (by kernel_rfl) (by decide) (hj31 ())
       ·refine J.condF (x := .tmp 75) (t := x13_0) (by kernel_rfl) (by kernel_rfl) hc33 ?_
        refine J.skip (by kernel_rfl) ?_
        obtain rfl := Option.some.inj H
        exact J.conv2 [1, 4, 9, 69, 70, 71] [0, 1, 2, 3, 4, 5, 6] [0] [0] (by kernel_rfl) (by kernel_rfl) (by kernel_rfl) (by kernel_rfl) (by decide) (hj31 ())
     ·refine J.condF (x := .tmp 72) (t := (decide (s21.2 < (a0.f11.f3.length : Int)))) (by kernel_rfl) (by kernel_rfl) hc30 ?_
      refine J.exit (id := 2) (by kernel_rfl) rfl ?_
      obtain rfl := Option.some.inj H
      exact J.conv2 [1, 4] [0, 1, 2, 3, 4, 5, 6] [0] [0] (by kernel_rfl) (by kernel_rfl) (by kernel_rfl) (by kernel_rfl) (by decide) (hj7 g21)
    ·exact J.conv2 [1, 4, 69, 70, 71] [0, 1, 2, 3, 4, 5, 6] [0] [0] (by kernel_rfl) (by kernel_rfl) (by kernel_rfl) (by kernel_rfl) (by decide) h_
  ·refine J.block (id := 0) (by kernel_rfl) ?_
   refine J.loopI (σ := (List Int) × Int) (γ := Hd) (f := fun m_ s_ => mail_Encode.l34 K a0 m_ s_) (fun s34 g34 => [(1, .pointer (some ⟨p0_0, 0, none⟩)), (4, .slice g34.1 s34.1.length g34.2), (56, .slice h3.1 a0.f11.f2.length h3.2), (57, .int .i64 (a0.f11.f2.length : Int)), (58, .int .i64 s34.2)]) (fun s34 g34 => St X w [] [⟨p0_0, [.int .i64 a0.f0, .int .i64 a0.f1, .int .i64 a0.f2, .int .i64 a0.f3, .int .i64 a0.f4, .int .i64 a0.f5, .int .i64 a0.f6, .int .i64 a0.f7, .slice h0.1 a0.f8.length h0.2, .slice h1.1 a0.f9.length h1.2, .slice h2.1 a0.f10.length h2.2, .int .i64 a0.f11.f0, .int .i64 a0.f11.f1, .slice h3.1 a0.f11.f2.length h3.2, .slice h4.1 a0.f11.f3.length h4.2, .slice h5.1 a0.f11.f4.length h5.2, .slice h6.1 a0.f12.length h6.2], 29⟩] [mkRow (Kd.int .u8) 5 (.slice g34.1 s34.1.length g34.2) s34.1] [] [Rd (Kd.int .i64) h0.1 h0.2 a0.f8, Rd (Kd.int .i64) h1.1 h1.2 a0.f9, Rd (Kd.int .i64) h2.1 h2.2 a0.f10, Rd (Kd.int .i64) h3.1 h3.2 a0.f11.f2, Rd Kd.bool h4.1 h4.2 a0.f11.f3, Rd kd77 h5.1 h5.2 a0.f11.f4, Rd kd77 h6.1 h6.2 a0.f12]) K (x5_12, 0) p5_12 (by kernel_rfl) H (fun _ => rfl) (fun m_ s34 H ih34 g34 => ?_) (fun h_ => ?_)
   ·unfold mail_Encode.l34 at H
    refine J.seq (by kernel_rfl) ?_
    refine J.region (by kernel_rfl) ?_
    refine O.pure 1 [] [1, 4, 56, 57, 58, 59] [] (fr' := [(1, .pointer (some ⟨p0_0, 0, none⟩)), (4, .slice g34.1 s34.1.length g34.2), (56, .slice h3.1 a0.f11.f2.length h3.2), (57, .int .i64 (a0.f11.f2.length : Int)), (58, .int .i64 s34.2), (59, .bool (decide (s34.2 < (a0.f11.f2.length : Int))))]) (bx' := [⟨p0_0, [.int .i64 a0.f0, .int .i64 a0.f1, .int .i64 a0.f2, .int .i64 a0.f3, .int .i64 a0.f4, .int .i64 a0.f5, .int .i64 a0.f6, .int .i64 a0.f7, .slice h0.1 a0.f8.length h0.2, .slice h1.1 a0.f9.length h1.2, .slice h2.1 a0.f10.length h2.2, .int .i64 a0.f11.f0, .int .i64 a0.f11.f1, .slice h3.1 a0.f11.f2.length h3.2, .slice h4.1 a0.f11.f3.length h4.2, .slice h5.1 a0.f11.f4.length h5.2, .slice h6.1 a0.f12.length h6.2], 29⟩]) (by kernel_rfl) ?_
    refine O.nil (by kernel_rfl) ?_
    refine J.seq (by kernel_rfl) ?_
    rcases condE H with ⟨hc37, H⟩ | ⟨hc37, H⟩
    ·refine J.condT (x := .tmp 59) (t := (decide (s34.2 < (a0.f11.f2.length : Int)))) (by kernel_rfl) (by kernel_rfl) hc37 ?_
     refine J.skip (by kernel_rfl) ?_
     refine J.seq (by kernel_rfl) ?_
     refine J.block (id := 1) (by kernel_rfl) ?_
     refine J.seq (by kernel_rfl) ?_
     obtain ⟨x8_0, hx8_0, H⟩ := bindE H
     obtain ⟨hx8_0a, hx8_0⟩ := idxE hx8_0
     refine J.region (by kernel_rfl) ?_
     refine O.open (d := (Kd.int .i64)) (h := h3) (i := s34.2) 3 rfl hx8_0 (Lay.int _ _) (fun p8_0 hp8_0A => ?_)
     refine O.q (v := .pointer (some ⟨p8_0.1, p8_0.2.1 + s34.2.toNat * 1, none⟩)) (some 60) (Qu.idx (t := 23) (x := .tmp 56) (y := .tmp 58) (c := h3.2) (kk := .i64) (sz := 1) (by kernel_rfl) (by kernel_rfl) (by kernel_rfl) (by kernel_rfl) hx8_0a (idx_lt hx8_0) hp8_0A) (by kernel_rfl) ?_
     refine O.pure 2 [(1, 0)] [1, 4, 6, 56, 57, 58] [p8_0.1, p8_0.2.1 + s34.2.toNat * 1] (fr' := [(1, .pointer (some ⟨p0_0, 0, none⟩)), (4, .slice g34.1 s34.1.length g34.2), (6, .int .i64 x8_0), (56, .slice h3.1 a0.f11.f2.length h3.2), (57, .int .i64 (a0.f11.f2.length : Int)), (58, .int .i64 s34.2)]) (bx' := [⟨p0_0, [.int .i64 a0.f0, .int .i64 a0.f1, .int .i64 a0.f2, .int .i64 a0.f3, .int .i64 a0.f4, .int .i64 a0.f5, .int .i64 a0.f6, .int .i64 a0.f7, .slice h0.1 a0.f8.length h0.2, .slice h1.1 a0.f9.length h1.2, .slice h2.1 a0.f10.length h2.2, .int .i64 a0.f11.f0, .int .i64 a0.f11.f1, .slice h3.1 a0.f11.f2.length h3.2, .slice h4.1 a0.f11.f3.length h4.2, .slice h5.1 a0.f11.f4.length h5.2, .slice h6.1 a0.f12.length h6.2], 29⟩]) (by kernel_rfl) ?_
     refine O.nil (by kernel_rfl) ?_
     obtain ⟨x9_2, hx9_2, H⟩ := bindE H
     obtain ⟨y9_3, hy9_3, H⟩ := bindE H
     have hy9_3a := (appE hy9_3).1
     refine J.region (by kernel_rfl) ?_
     refine O.pure 2 [] [1, 4, 56, 57, 58, 62, 63] [] (fr' := [(1, .pointer (some ⟨p0_0, 0, none⟩)), (4, .slice g34.1 s34.1.length g34.2), (56, .slice h3.1 a0.f11.f2.length h3.2), (57, .int .i64 (a0.f11.f2.length : Int)), (58, .int .i64 s34.2), (62, .slice g34.1 s34.1.length g34.2), (63, .int .i64 x8_0)]) (bx' := [⟨p0_0, [.int .i64 a0.f0, .int .i64 a0.f1, .int .i64 a0.f2, .int .i64 a0.f3, .int .i64 a0.f4, .int .i64 a0.f5, .int .i64 a0.f6, .int .i64 a0.f7, .slice h0.1 a0.f8.length h0.2, .slice h1.1 a0.f9.length h1.2, .slice h2.1 a0.f10.length h2.2, .int .i64 a0.f11.f0, .int .i64 a0.f11.f1, .slice h3.1 a0.f11.f2.length h3.2, .slice h4.1 a0.f11.f3.length h4.2, .slice h5.1 a0.f11.f4.length h5.2, .slice h6.1 a0.f12.length h6.2], 29⟩]) (by kernel_rfl) ?_
     refine O.e (some 64) (Ev.call0 (xs := [.tmp 63]) [] (by kernel_rfl) (by kernel_rfl) (fun w hS => code_Num.con K x8_0  _ _ w hS hx9_2)) (by kernel_rfl) (fun p9_2 => ?_)
     refine O.e (some 65) (Ev.mono (fun w hS => hS.freezeH (h := p9_2) (xs := x9_2)) (Ev.appSl (d := (Kd.int .u8)) (ys := x9_2) (A := p9_2.1) (c := p9_2.2) (x := .tmp 62) (y := .tmp 64) (t := 36) (bytes := 1) 0 (by kernel_rfl) (by kernel_rfl) (by kernel_rfl) rfl (by kernel_rfl) (by decide) hy9_3a)) (by kernel_rfl) (fun p9_3 => ?_)
     refine O.pure 1 [] [1, 4, 56, 57, 58] [] (fr' := [(1, .pointer (some ⟨p0_0, 0, none⟩)), (4, .slice p9_3.1 (s34.1 ++ x9_2).length p9_3.2), (56, .slice h3.1 a0.f11.f2.length h3.2), (57, .int .i64 (a0.f11.f2.length : Int)), (58, .int .i64 s34.2)]) (bx' := [⟨p0_0, [.int .i64 a0.f0, .int .i64 a0.f1, .int .i64 a0.f2, .int .i64 a0.f3, .int .i64 a0.f4, .int .i64 a0.f5, .int .i64 a0.f6, .int .i64 a0.f7, .slice h0.1 a0.f8.length h0.2, .slice h1.1 a0.f9.length h1.2, .slice h2.1 a0.f10.length h2.2, .int .i64 a0.f11.f0, .int .i64 a0.f11.f1, .slice h3.1 a0.f11.f2.length h3.2, .slice h4.1 a0.f11.f3.length h4.2, .slice h5.1 a0.f11.f4.length h5.2, .slice h6.1 a0.f12.length h6.2], 29⟩]) (by kernel_rfl) ?_
     refine O.nil (by kernel_rfl) ?_
     refine J.out ?_
     refine J.region (by kernel_rfl) ?_
     refine O.pure 2 [] [1, 4, 56, 57, 58] [] (fr' := [(1, .pointer (some ⟨p0_0, 0, none⟩)), (4, .slice p9_3.1 (s34.1 ++ x9_2).length p9_3.2), (56, .slice h3.1 a0.f11.f2.length h3.2), (57, .int .i64 (a0.f11.f2.length : Int)), (58, .int .i64 (IntKind.wrap .i64 (s34.2 + 1)))]) (bx' := [⟨p0_0, [.int .i64 a0.f0, .int .i64 a0.f1, .int .i64 a0.f2, .int .i64 a0.f3, .int .i64 a0.f4, .int .i64 a0.f5, .int .i64 a0.f6, .int .i64 a0.f7, .slice h0.1 a0.f8.length h0.2, .slice h1.1 a0.f9.length h1.2, .slice h2.1 a0.f10.length h2.2, .int .i64 a0.f11.f0, .int .i64 a0.f11.f1, .slice h3.1 a0.f11.f2.length h3.2, .slice h4.1 a0.f11.f3.length h4.2, .slice h5.1 a0.f11.f4.length h5.2, .slice h6.1 a0.f12.length h6.2], 29⟩]) (by kernel_rfl) ?_
     refine O.nil (by kernel_rfl) ?_
     exact J.conv2 [1, 4, 56, 57, 58] [1, 2, 3, 4, 5, 6, 7] [0] [0] (by kernel_rfl) (by kernel_rfl) (by kernel_rfl) (by kernel_rfl) (by decide) (ih34 ((s34.1 ++ x9_2), (IntKind.wrap .i64 (s34.2 + 1))) p9_3 H)
    ·refine J.condF (x := .tmp 59) (t := (decide (s34.2 < (a0.f11.f2.length : Int)))) (by kernel_rfl) (by kernel_rfl) hc37 ?_
     refine J.exit (id := 0) (by kernel_rfl) rfl ?_
     obtain rfl := Option.some.inj H
     exact J.conv2 [1, 4] [0, 1, 2, 3, 4, 5, 6] [0] [0] (by kernel_rfl) (by kernel_rfl) (by kernel_rfl) (by kernel_rfl) (by decide) (hj2 g34)
   ·exact J.conv2 [1, 4, 56, 57, 58] [2, 3, 4, 5, 6, 7, 8] [0] [0] (by kernel_rfl) (by kernel_rfl) (by kernel_rfl) (by kernel_rfl) (by decide) h_
/-! ### haywain/code.get: function 50 -/
def code_get_f50.l1 (K : Nat) (a0 : List Int) : Nat → (Int × Int) → Option Int
  | 0, _ => none
  | k + 1, s1 => cond (decide (s1.2 < (a0.length : Int))) ((idxO a0 s1.2).bind fun x4_0 => code_get_f50.l1 K a0 k ((orI .u64 (shlI .u64 s1.1 8) (IntKind.wrap .u64 x4_0)), (IntKind.wrap .i64 (s1.2 + 1)))) (some (s1.1))
def code_get_f50.f (K : Nat) (a0 : List Int) : Option Int := code_get_f50.l1 K a0 K (0, 0)
set_option maxRecDepth 100000 in
set_option maxHeartbeats 1000000 in
theorem code_get_f50.con (K : Nat) (a0 : List Int) (h0 : Hd) (r : Int) (X : Nat → Nat → Prop) (w : World) (hS : St X w [] [] [] [] [Rd (Kd.int .u8) h0.1 h0.2 a0] w) (H : code_get_f50.f K a0 = some r) :
    Cn Try.prog 50 [.slice h0.1 a0.length h0.2] X w [] (fun i : Unit => .int .u64 r) (fun i => []) (fun i => []) (fun i => []) := by
 refine Cn.of Try.func50 (by kernel_rfl) hS ?_
 unfold code_get_f50.f at H
 refine J.seq (by kernel_rfl) ?_
 refine J.region (by kernel_rfl) ?_
 refine O.pure 1 [] [0] [] (fr' := [(0, .slice h0.1 a0.length h0.2)]) (bx' := []) (by kernel_rfl) ?_
 refine O.nil (by kernel_rfl) ?_
 refine J.seq (by kernel_rfl) ?_
 refine J.region (by kernel_rfl) ?_
 refine O.pure 1 [] [0, 3] [] (fr' := [(0, .slice h0.1 a0.length h0.2), (3, .int .u64 0)]) (bx' := []) (by kernel_rfl) ?_
 refine O.nil (by kernel_rfl) ?_
 refine J.seq (by kernel_rfl) ?_
 refine J.seq (by kernel_rfl) ?_
 refine J.region (by kernel_rfl) ?_
 refine O.pure 3 [] [3, 6, 7, 8] [] (fr' := [(3, .int .u64 0), (6, .slice h0.1 a0.length h0.2), (7, .int .i64 (a0.length : Int)), (8, .int .i64 0)]) (bx' := []) (by kernel_rfl) ?_
 refine O.nil (by kernel_rfl) ?_
 refine J.block (id := 0) (by kernel_rfl) ?_
 refine J.loopI (σ := Int × Int) (γ := Unit) (f := fun m_ s_ => code_get_f50.l1 K a0 m_ s_) (fun s1 g1 => [(3, .int .u64 s1.1), (6, .slice h0.1 a0.length h0.2), (7, .int .i64 (a0.length : Int)), (8, .int .i64 s1.2)]) (fun s1 g1 => St X w [] [] [] [] [Rd (Kd.int .u8) h0.1 h0.2 a0]) K (0, 0) () (by kernel_rfl) H (fun _ => rfl) (fun m_ s1 H ih1 g1 => ?_) (fun h_ => ?_)
 ·unfold code_get_f50.l1 at H
  refine J.seq (by kernel_rfl) ?_
  refine J.region (by kernel_rfl) ?_
  refine O.pure 1 [] [3, 6, 7, 8, 9] [] (fr' := [(3, .int .u64 s1.1), (6, .slice h0.1 a0.length h0.2), (7, .int .i64 (a0.length : Int)), (8, .int .i64 s1.2), (9, .bool (decide (s1.2 < (a0.length : Int))))]) (bx' := []) (by kernel_rfl) ?_
  refine O.nil (by kernel_rfl) ?_
  refine J.seq (by kernel_rfl) ?_
  rcases condE H with ⟨hc4, H⟩ | ⟨hc4, H⟩
  ·refine J.condT (x := .tmp 9) (t := (decide (s1.2 < (a0.length : Int)))) (by kernel_rfl) (by kernel_rfl) hc4 ?_
   refine J.skip (by kernel_rfl) ?_
   refine J.seq (by kernel_rfl) ?_
   refine J.block (id := 1) (by kernel_rfl) ?_
   refine J.seq (by kernel_rfl) ?_
   obtain ⟨x4_0, hx4_0, H⟩ := bindE H
   obtain ⟨hx4_0a, hx4_0⟩ := idxE hx4_0
   refine J.region (by kernel_rfl) ?_
   refine O.open (d := (Kd.int .u8)) (h := h0) (i := s1.2) 0 rfl hx4_0 (Lay.int _ _) (fun p4_0 hp4_0A => ?_)
   refine O.q (v := .pointer (some ⟨p4_0.1, p4_0.2.1 + s1.2.toNat * 1, none⟩)) (some 10) (Qu.idx (t := 36) (x := .tmp 6) (y := .tmp 8) (c := h0.2) (kk := .i64) (sz := 1) (by kernel_rfl) (by kernel_rfl) (by kernel_rfl) (by kernel_rfl) hx4_0a (idx_lt hx4_0) hp4_0A) (by kernel_rfl) ?_
   refine O.pure 2 [(0, 0)] [3, 5, 6, 7, 8] [p4_0.1, p4_0.2.1 + s1.2.toNat * 1] (fr' := [(3, .int .u64 s1.1), (5, .int .u8 x4_0), (6, .slice h0.1 a0.length h0.2), (7, .int .i64 (a0.length : Int)), (8, .int .i64 s1.2)]) (bx' := []) (by kernel_rfl) ?_
   refine O.nil (by kernel_rfl) ?_
   refine J.region (by kernel_rfl) ?_
   refine O.pure 1 [] [3, 5, 6, 7, 8, 12] [] (fr' := [(3, .int .u64 s1.1), (5, .int .u8 x4_0), (6, .slice h0.1 a0.length h0.2), (7, .int .i64 (a0.length : Int)), (8, .int .i64 s1.2), (12, .int .u64 s1.1)]) (bx' := []) (by kernel_rfl) ?_
   refine O.q (v := .int .u64 (shlI .u64 s1.1 8)) (some 13) (Qu.shl (t := 80) (t' := 47) (x := .tmp 12) (y := .const (.int .u64 8)) (k := .u64) (k' := .u64) (a := s1.1) (b := 8) (by kernel_rfl) (by kernel_rfl) (by kernel_rfl) (by decide)) (by kernel_rfl) ?_
   refine O.pure 4 [] [3, 6, 7, 8] [] (fr' := [(3, .int .u64 (orI .u64 (shlI .u64 s1.1 8) (IntKind.wrap .u64 x4_0))), (6, .slice h0.1 a0.length h0.2), (7, .int .i64 (a0.length : Int)), (8, .int .i64 s1.2)]) (bx' := []) (by kernel_rfl) ?_
   refine O.nil (by kernel_rfl) ?_
   refine J.out ?_
   refine J.region (by kernel_rfl) ?_
   refine O.pure 2 [] [3, 6, 7, 8] [] (fr' := [(3, .int .u64 (orI .u64 (shlI .u64 s1.1 8) (IntKind.wrap .u64 x4_0))), (6, .slice h0.1 a0.length h0.2), (7, .int .i64 (a0.length : Int)), (8, .int .i64 (IntKind.wrap .i64 (s1.2 + 1)))]) (bx' := []) (by kernel_rfl) ?_
   refine O.nil (by kernel_rfl) ?_
   exact J.conv2 [3, 6, 7, 8] [0] [] [] (by kernel_rfl) (by kernel_rfl) (by kernel_rfl) (by kernel_rfl) (by decide) (ih1 ((orI .u64 (shlI .u64 s1.1 8) (IntKind.wrap .u64 x4_0)), (IntKind.wrap .i64 (s1.2 + 1))) () H)
  ·refine J.condF (x := .tmp 9) (t := (decide (s1.2 < (a0.length : Int)))) (by kernel_rfl) (by kernel_rfl) hc4 ?_
   refine J.exit (id := 0) (by kernel_rfl) rfl ?_
   refine J.seq (by kernel_rfl) ?_
   refine J.region (by kernel_rfl) ?_
   refine O.pure 2 [] [2] [] (fr' := [(2, .int .u64 s1.1)]) (bx' := []) (by kernel_rfl) ?_
   refine O.nil (by kernel_rfl) ?_
   obtain rfl := Option.some.inj H
   exact J.doneS [] [] [] [] [] () (vs := [.int .u64 s1.1]) (by kernel_rfl) (by kernel_rfl) (by kernel_rfl) (by kernel_rfl) (by kernel_rfl) (by decide)
 ·exact J.conv2 [3, 6, 7, 8] [0] [] [] (by kernel_rfl) (by kernel_rfl) (by kernel_rfl) (by kernel_rfl) (by decide) h_
/-! ### haywain/code.rest: function 51 -/
def code_rest_f51.f (K : Nat) (a0 : List Int) : Option (List Int) := (appO 1 ([] : List Int) a0).bind fun y1_2 => some ((([] : List Int) ++ a0))
set_option maxRecDepth 100000 in
set_option maxHeartbeats 1000000 in
theorem code_rest_f51.con (K : Nat) (a0 : List Int) (h0 : Hd) (r : (List Int)) (X : Nat → Nat → Prop) (w : World) (hS : St X w [] [] [] [] [Rd (Kd.int .u8) h0.1 h0.2 a0] w) (H : code_rest_f51.f K a0 = some r) :
    Cn Try.prog 51 [.slice h0.1 a0.length h0.2] X w [] (fun i : Hd => .slice i.1 r.length i.2) (fun i => []) (fun i => [mkRow (Kd.int .u8) 5 (.slice i.1 r.length i.2) r]) (fun i => []) := by
 refine Cn.of Try.func51 (by kernel_rfl) hS ?_
 unfold code_rest_f51.f at H
 refine J.seq (by kernel_rfl) ?_
 refine J.region (by kernel_rfl) ?_
 refine O.pure 1 [] [0] [] (fr' := [(0, .slice h0.1 a0.length h0.2)]) (bx' := []) (by kernel_rfl) ?_
 refine O.nil (by kernel_rfl) ?_
 refine J.seq (by kernel_rfl) ?_
 obtain ⟨y1_2, hy1_2, H⟩ := bindE H
 have hy1_2a := (appE hy1_2).1
 refine J.region (by kernel_rfl) ?_
 refine O.e (some 3) (Ev.lit (t := 36) (len := 0) (parts := #[]) (ps := []) (cs := []) (e := 5) (Kd.int .u8) ([] : List Int) (by kernel_rfl) (by kernel_rfl) (by kernel_rfl) (by kernel_rfl) (by kernel_rfl) (by decide) (fun w' hφ => (Els.nil _ _ _))) (by kernel_rfl) (fun p1_0 => ?_)
 refine O.pure 1 [] [3, 4] [] (fr' := [(3, .slice ((some ⟨p1_0, 0, none⟩, 0) : Hd).1 ([] : List Int).length ((some ⟨p1_0, 0, none⟩, 0) : Hd).2), (4, .slice h0.1 a0.length h0.2)]) (bx' := []) (by kernel_rfl) ?_
 refine O.e (some 5) (Ev.appSl (d := (Kd.int .u8)) (ys := a0) (A := h0.1) (c := h0.2) (x := .tmp 3) (y := .tmp 4) (t := 36) (bytes := 1) 0 (by kernel_rfl) (by kernel_rfl) (by kernel_rfl) rfl (by kernel_rfl) (by decide) hy1_2a) (by kernel_rfl) (fun p1_2 => ?_)
 refine O.pure 1 [] [2] [] (fr' := [(2, .slice p1_2.1 (([] : List Int) ++ a0).length p1_2.2)]) (bx' := []) (by kernel_rfl) ?_
 refine O.nil (by kernel_rfl) ?_
 obtain rfl := Option.some.inj H
 exact J.doneS [] [] [] [] [0] p1_2 (vs := [.slice p1_2.1 (([] : List Int) ++ a0).length p1_2.2]) (by kernel_rfl) (by kernel_rfl) (by kernel_rfl) (by kernel_rfl) (by kernel_rfl) (by decide)
/-! ### haywain/code.TakeNum: function 44 -/
def code_TakeNum_f44.f (K : Nat) (a0 : List Int) : Option (Int × (List Int) × Int) := cond (decide ((a0.length : Int) < 8)) (some ((0, ([] : List Int), 2))) ((cutO a0 0 8).bind fun y3_1 => (code_get_f50.f K (cutL a0 ((0 : Int).toNat) ((8 : Int).toNat))).bind fun x3_2 => (cutO a0 8 (a0.length : Int)).bind fun y3_5 => (code_rest_f51.f K (cutL a0 ((8 : Int).toNat) (((a0.length : Int) : Int).toNat))).bind fun x3_6 => some (((IntKind.wrap .i64 x3_2), x3_6, 0)))
set_option maxRecDepth 100000 in
set_option maxHeartbeats 1000000 in
theorem code_TakeNum_f44.con (K : Nat) (a0 : List Int) (h0 : Hd) (r : (Int × (List Int) × Int)) (X : Nat → Nat → Prop) (w : World) (hS : St X w [] [] [] [] [Rd (Kd.int .u8) h0.1 h0.2 a0] w) (H : code_TakeNum_f44.f K a0 = some r) :
    Cn Try.prog 44 [.slice h0.1 a0.length h0.2] X w [] (fun i : Hd => .tuple #[.int .i64 r.1, .slice i.1 r.2.1.length i.2, .int .i64 r.2.2]) (fun i => []) (fun i => [mkRow (Kd.int .u8) 5 (.slice i.1 r.2.1.length i.2) r.2.1]) (fun i => []) := by
 refine Cn.of Try.func44 (by kernel_rfl) hS ?_
 unfold code_TakeNum_f44.f at H
 refine J.seq (by kernel_rfl) ?_
 refine J.region (by kernel_rfl) ?_
 refine O.pure 3 [] [0] [] (fr' := [(0, .slice h0.1 a0.length h0.2)]) (bx' := []) (by kernel_rfl) ?_
 refine O.nil (by kernel_rfl) ?_
 refine J.seq (by kernel_rfl) ?_
 refine J.seq (by kernel_rfl) ?_
 refine J.region (by kernel_rfl) ?_
 refine O.pure 3 [] [0, 7] [] (fr' := [(0, .slice h0.1 a0.length h0.2), (7, .bool (decide ((a0.length : Int) < 8)))]) (bx' := []) (by kernel_rfl) ?_
 refine O.nil (by kernel_rfl) ?_
 rcases condE H with ⟨hc1, H⟩ | ⟨hc1, H⟩
 ·refine J.condT (x := .tmp 7) (t := (decide ((a0.length : Int) < 8))) (by kernel_rfl) (by kernel_rfl) hc1 ?_
  refine J.seq (by kernel_rfl) ?_
  refine J.region (by kernel_rfl) ?_
  refine O.pure 3 [] [2, 3, 4] [] (fr' := [(2, .int .i64 0), (3, .slice none 0 0), (4, .int .i64 2)]) (bx' := []) (by kernel_rfl) ?_
  refine O.nil (by kernel_rfl) ?_
  obtain rfl := Option.some.inj H
  refine J.nilrow (Kd.int .u8) 5 ?_
  exact J.doneS [] [] [] [] [0] (none, 0) (vs := [.int .i64 0, .slice none 0 0, .int .i64 2]) (by kernel_rfl) (by kernel_rfl) (by kernel_rfl) (by kernel_rfl) (by kernel_rfl) (by decide)
 ·refine J.condF (x := .tmp 7) (t := (decide ((a0.length : Int) < 8))) (by kernel_rfl) (by kernel_rfl) hc1 ?_
  refine J.skip (by kernel_rfl) ?_
  refine J.seq (by kernel_rfl) ?_
  obtain ⟨y3_1, hy3_1, H⟩ := bindE H
  obtain ⟨hy3_1a, hy3_1b, hy3_1c, -⟩ := cutE hy3_1
  obtain ⟨x3_2, hx3_2, H⟩ := bindE H
  obtain ⟨y3_5, hy3_5, H⟩ := bindE H
  obtain ⟨hy3_5a, hy3_5b, hy3_5c, -⟩ := cutE hy3_5
  obtain ⟨x3_6, hx3_6, H⟩ := bindE H
  refine J.cutAt (γ := Hd × Hd × Hd) (fun q_ => [(2, .int .i64 (IntKind.wrap .i64 x3_2)), (3, .slice q_.2.2.1 x3_6.length q_.2.2.2), (4, .int .i64 0)]) (fun q_ => St X w [] [] [mkRow (Kd.int .u8) 5 (.slice q_.2.2.1 x3_6.length q_.2.2.2) x3_6] [] [Rd (Kd.int .u8) q_.2.1.1 q_.2.1.2 (cutL a0 ((8 : Int).toNat) (((a0.length : Int) : Int).toNat)), Rd (Kd.int .u8) q_.1.1 q_.1.2 (cutL a0 ((0 : Int).toNat) ((8 : Int).toNat)), Rd (Kd.int .u8) h0.1 h0.2 a0]) (fun q_ => ?_) (fun hk_ => ?_)
  ·obtain ⟨p3_1, p3_5, p3_6⟩ := q_
   obtain rfl := Option.some.inj H
   exact J.doneS [] [] [] [] [0] p3_6 (vs := [.int .i64 (IntKind.wrap .i64 x3_2), .slice p3_6.1 x3_6.length p3_6.2, .int .i64 0]) (by kernel_rfl) (by kernel_rfl) (by kernel_rfl) (by kernel_rfl) (by kernel_rfl) (by decide)
  ·refine J.drawS (by kernel_rfl) [(0, some 8, .slice h0.1 a0.length h0.2), (4, some 12, .slice h0.1 a0.length h0.2)] ([0, 4] ++ []) (by kernel_rfl) ?_
   refine D.mid (cs := [1, 5]) [0, 4] [] [] [] (by kernel_rfl) (by kernel_rfl) trivial (by kernel_rfl) ⟨?_, ?_, trivial⟩
   ·refine EvStep.mk (some 9) (new := fun p3_1 => []) ([4] ++ []) (by kernel_rfl) (Ev.cut (d := (Kd.int .u8)) (xs := a0) (t := 36) (x := .tmp 8) (lo := none) (hi := (some (.const (.int .i64 8)))) (vlo := none) (vhi := (some (.int .i64 8))) (A := h0.1) (c := h0.2) (l := (0 : Int).toNat) (h := (8 : Int).toNat) 0 (by kernel_rfl) (by kernel_rfl) (by kernel_rfl) (by kernel_rfl) (by kernel_rfl) (Bd.dflt _) (Bd.val _ _ _ (by omega)) (by omega) (by omega) rfl) (fun p3_1 => by kernel_rfl) (fun p3_1 => ?_)
    refine D.mid (cs := [2, 5]) [4] [] [] [] (by kernel_rfl) (by kernel_rfl) trivial (by kernel_rfl) ⟨?_, ?_, trivial⟩
    ·refine EvStep.mk (some 10) (new := fun _ => [(3, some 11, .int .i64 (IntKind.wrap .i64 x3_2))]) ([4, 3] ++ []) (by kernel_rfl) (Ev.call0 (xs := [.tmp 9]) [0] (by kernel_rfl) (by kernel_rfl) (fun w hS => code_get_f50.con K (cutL a0 ((0 : Int).toNat) ((8 : Int).toNat)) p3_1  _ _ w hS hx3_2)) (fun _ => by kernel_rfl) (fun _ => ?_)
     refine D.mid (cs := [5]) [4, 3] [] [] [] (by kernel_rfl) (by kernel_rfl) trivial (by kernel_rfl) ⟨?_, trivial⟩
     refine EvStep.mk (some 13) (new := fun p3_5 => []) ([3] ++ []) (by kernel_rfl) (Ev.cut (d := (Kd.int .u8)) (xs := a0) (t := 36) (x := .tmp 12) (lo := (some (.const (.int .i64 8)))) (hi := none) (vlo := (some (.int .i64 8))) (vhi := none) (A := h0.1) (c := h0.2) (l := (8 : Int).toNat) (h := ((a0.length : Int) : Int).toNat) 1 (by kernel_rfl) (by kernel_rfl) (by kernel_rfl) (by kernel_rfl) (by kernel_rfl) (Bd.val _ _ _ (by omega)) (Bd.dflt _) (by omega) (by omega) rfl) (fun p3_5 => by kernel_rfl) (fun p3_5 => ?_)
     refine D.mid (cs := [6]) [3] [] [] [] (by kernel_rfl) (by kernel_rfl) trivial (by kernel_rfl) ⟨?_, trivial⟩
     refine EvStep.mk (some 14) (new := fun p3_6 => [(7, some 2, .int .i64 (IntKind.wrap .i64 x3_2)), (8, some 3, .slice p3_6.1 x3_6.length p3_6.2), (9, some 4, .int .i64 0)]) ([3, 7, 8, 9] ++ []) (by kernel_rfl) (Ev.call0 (xs := [.tmp 13]) [0] (by kernel_rfl) (by kernel_rfl) (fun w hS => code_rest_f51.con K (cutL a0 ((8 : Int).toNat) (((a0.length : Int) : Int).toNat)) p3_5  _ _ w hS hx3_6)) (fun p3_6 => by kernel_rfl) (fun p3_6 => ?_)
     refine D.fin (fr' := [(2, .int .i64 (IntKind.wrap .i64 x3_2)), (3, .slice p3_6.1 x3_6.length p3_6.2), (4, .int .i64 0)]) [3, 7, 8, 9] [] [] [] [2, 3, 4] (by kernel_rfl) (by kernel_rfl) trivial (by kernel_rfl) ?_
     exact J.conv2 [2, 3, 4] [0, 1, 2] [] [0] (by kernel_rfl) (by kernel_rfl) (by kernel_rfl) (by kernel_rfl) (by decide) (hk_ (p3_1, p3_5, p3_6))
    ·refine EvStep.mk (some 13) (new := fun p3_5 => []) ([] ++ []) (by kernel_rfl) (Ev.cut (d := (Kd.int .u8)) (xs := a0) (t := 36) (x := .tmp 12) (lo := (some (.const (.int .i64 8)))) (hi := none) (vlo := (some (.int .i64 8))) (vhi := none) (A := h0.1) (c := h0.2) (l := (8 : Int).toNat) (h := ((a0.length : Int) : Int).toNat) 1 (by kernel_rfl) (by kernel_rfl) (by kernel_rfl) (by kernel_rfl) (by kernel_rfl) (Bd.val _ _ _ (by omega)) (Bd.dflt _) (by omega) (by omega) rfl) (fun p3_5 => by kernel_rfl) (fun p3_5 => ?_)
     refine D.mid (cs := [2]) [] [] [] [] (by kernel_rfl) (by kernel_rfl) trivial (by kernel_rfl) ⟨?_, trivial⟩
     refine EvStep.mk (some 10) (new := fun _ => [(3, some 11, .int .i64 (IntKind.wrap .i64 x3_2))]) ([3] ++ []) (by kernel_rfl) (Ev.call0 (xs := [.tmp 9]) [1] (by kernel_rfl) (by kernel_rfl) (fun w hS => code_get_f50.con K (cutL a0 ((0 : Int).toNat) ((8 : Int).toNat)) p3_1  _ _ w hS hx3_2)) (fun _ => by kernel_rfl) (fun _ => ?_)
     refine D.mid (cs := [6]) [3] [] [] [] (by kernel_rfl) (by kernel_rfl) trivial (by kernel_rfl) ⟨?_, trivial⟩
     refine EvStep.mk (some 14) (new := fun p3_6 => [(7, some 2, .int .i64 (IntKind.wrap .i64 x3_2)), (8, some 3, .slice p3_6.1 x3_6.length p3_6.2), (9, some 4, .int .i64 0)]) ([3, 7, 8, 9] ++ []) (by kernel_rfl) (Ev.call0 (xs := [.tmp 13]) [0] (by kernel_rfl) (by kernel_rfl) (fun w hS => code_rest_f51.con K (cutL a0 ((8 : Int).toNat) (((a0.length : Int) : Int).toNat)) p3_5  _ _ w hS hx3_6)) (fun p3_6 => by kernel_rfl) (fun p3_6 => ?_)
     refine D.fin (fr' := [(2, .int .i64 (IntKind.wrap .i64 x3_2)), (3, .slice p3_6.1 x3_6.length p3_6.2), (4, .int .i64 0)]) [3, 7, 8, 9] [] [] [] [2, 3, 4] (by kernel_rfl) (by kernel_rfl) trivial (by kernel_rfl) ?_
     exact J.conv2 [2, 3, 4] [0, 1, 2] [] [0] (by kernel_rfl) (by kernel_rfl) (by kernel_rfl) (by kernel_rfl) (by decide) (hk_ (p3_1, p3_5, p3_6))
   ·refine EvStep.mk (some 13) (new := fun p3_5 => []) ([0] ++ []) (by kernel_rfl) (Ev.cut (d := (Kd.int .u8)) (xs := a0) (t := 36) (x := .tmp 12) (lo := (some (.const (.int .i64 8)))) (hi := none) (vlo := (some (.int .i64 8))) (vhi := none) (A := h0.1) (c := h0.2) (l := (8 : Int).toNat) (h := ((a0.length : Int) : Int).toNat) 0 (by kernel_rfl) (by kernel_rfl) (by kernel_rfl) (by kernel_rfl) (by kernel_rfl) (Bd.val _ _ _ (by omega)) (Bd.dflt _) (by omega) (by omega) rfl) (fun p3_5 => by kernel_rfl) (fun p3_5 => ?_)
    refine D.mid (cs := [1]) [0] [] [] [] (by kernel_rfl) (by kernel_rfl) trivial (by kernel_rfl) ⟨?_, trivial⟩
    refine EvStep.mk (some 9) (new := fun p3_1 => []) ([] ++ []) (by kernel_rfl) (Ev.cut (d := (Kd.int .u8)) (xs := a0) (t := 36) (x := .tmp 8) (lo := none) (hi := (some (.const (.int .i64 8)))) (vlo := none) (vhi := (some (.int .i64 8))) (A := h0.1) (c := h0.2) (l := (0 : Int).toNat) (h := (8 : Int).toNat) 1 (by kernel_rfl) (by kernel_rfl) (by kernel_rfl) (by kernel_rfl) (by kernel_rfl) (Bd.dflt _) (Bd.val _ _ _ (by omega)) (by omega) (by omega) rfl) (fun p3_1 => by kernel_rfl) (fun p3_1 => ?_)
    refine D.mid (cs := [2]) [] [] [] [] (by kernel_rfl) (by kernel_rfl) trivial (by kernel_rfl) ⟨?_, trivial⟩
    refine EvStep.mk (some 10) (new := fun _ => [(3, some 11, .int .i64 (IntKind.wrap .i64 x3_2))]) ([3] ++ []) (by kernel_rfl) (Ev.call0 (xs := [.tmp 9]) [0] (by kernel_rfl) (by kernel_rfl) (fun w hS => code_get_f50.con K (cutL a0 ((0 : Int).toNat) ((8 : Int).toNat)) p3_1  _ _ w hS hx3_2)) (fun _ => by kernel_rfl) (fun _ => ?_)
    refine D.mid (cs := [6]) [3] [] [] [] (by kernel_rfl) (by kernel_rfl) trivial (by kernel_rfl) ⟨?_, trivial⟩
    refine EvStep.mk (some 14) (new := fun p3_6 => [(7, some 2, .int .i64 (IntKind.wrap .i64 x3_2)), (8, some 3, .slice p3_6.1 x3_6.length p3_6.2), (9, some 4, .int .i64 0)]) ([3, 7, 8, 9] ++ []) (by kernel_rfl) (Ev.call0 (xs := [.tmp 13]) [1] (by kernel_rfl) (by kernel_rfl) (fun w hS => code_rest_f51.con K (cutL a0 ((8 : Int).toNat) (((a0.length : Int) : Int).toNat)) p3_5  _ _ w hS hx3_6)) (fun p3_6 => by kernel_rfl) (fun p3_6 => ?_)
    refine D.fin (fr' := [(2, .int .i64 (IntKind.wrap .i64 x3_2)), (3, .slice p3_6.1 x3_6.length p3_6.2), (4, .int .i64 0)]) [3, 7, 8, 9] [] [] [] [2, 3, 4] (by kernel_rfl) (by kernel_rfl) trivial (by kernel_rfl) ?_
    exact J.conv2 [2, 3, 4] [1, 0, 2] [] [0] (by kernel_rfl) (by kernel_rfl) (by kernel_rfl) (by kernel_rfl) (by decide) (hk_ (p3_1, p3_5, p3_6))
/-! ### (*haywain/mail.reader).long: function 31 -/
def mail_reader__long_f31.f (K : Nat) (a0 : S60) : Option (S60 × Int) := (code_TakeNum_f44.f K a0.f0).bind fun x1_4 => cond a0.f1 (some (((⟨x1_4.2.1, true⟩ : S60), x1_4.1))) (some (((⟨x1_4.2.1, (x1_4.2.2 != 0)⟩ : S60), x1_4.1)))
set_option maxRecDepth 100000 in
set_option maxHeartbeats 1000000 in
theorem mail_reader__long_f31.con (K : Nat) (a0 : S60) (g0_ t0_ : Nat) (h0 : Hd) (r : (S60 × Int)) (X : Nat → Nat → Prop) (w : World) (hS : St X w (keys [⟨g0_, [.slice h0.1 a0.f0.length h0.2, .bool a0.f1], t0_⟩] []) [⟨g0_, [.slice h0.1 a0.f0.length h0.2, .bool a0.f1], t0_⟩] [] [] [Rd (Kd.int .u8) h0.1 h0.2 a0.f0] w) (H : mail_reader__long_f31.f K a0 = some r) :
    Cn Try.prog 31 [.pointer (some ⟨g0_, 0, none⟩)] X w (keys [⟨g0_, [.slice h0.1 a0.f0.length h0.2, .bool a0.f1], t0_⟩] []) (fun i : Hd => .int .i64 r.2) (fun i => [⟨g0_, [.slice i.1 r.1.f0.length i.2, .bool r.1.f1], t0_⟩]) (fun i => []) (fun i => [Rd (Kd.int .u8) i.1 i.2 r.1.f0]) := by
 refine Cn.of Try.func31 (by kernel_rfl) hS ?_
 unfold mail_reader__long_f31.f at H
 refine J.seq (by kernel_rfl) ?_
 refine J.region (by kernel_rfl) ?_
 refine O.pure 1 [] [0] [] (fr' := [(0, .pointer (some ⟨g0_, 0, none⟩))]) (bx' := [⟨g0_, [.slice h0.1 a0.f0.length h0.2, .bool a0.f1], t0_⟩]) (by kernel_rfl) ?_
 refine O.nil (by kernel_rfl) ?_
 refine J.seq (by kernel_rfl) ?_
 obtain ⟨x1_4, hx1_4, H⟩ := bindE H
 refine J.region (by kernel_rfl) ?_
 refine O.pure 4 [(0, 0)] [0, 10] [g0_, 0] (fr' := [(0, .pointer (some ⟨g0_, 0, none⟩)), (10, .slice h0.1 a0.f0.length h0.2)]) (bx' := [⟨g0_, [.slice h0.1 a0.f0.length h0.2, .bool a0.f1], t0_⟩]) (by kernel_rfl) ?_
 refine O.e (some 11) (Ev.call0 (xs := [.tmp 10]) [0] (by kernel_rfl) (by kernel_rfl) (fun w hS => code_TakeNum_f44.con K a0.f0 h0  _ _ w hS hx1_4)) (by kernel_rfl) (fun p1_4 => ?_)
 refine O.pure 7 [] [0, 3, 4, 5] [] (fr' := [(0, .pointer (some ⟨g0_, 0, none⟩)), (3, .int .i64 x1_4.1), (4, .slice p1_4.1 x1_4.2.1.length p1_4.2), (5, .int .i64 x1_4.2.2)]) (bx' := [⟨g0_, [.slice h0.1 a0.f0.length h0.2, .bool a0.f1], t0_⟩]) (by kernel_rfl) ?_
 refine O.nil (by kernel_rfl) ?_
 refine J.seq (by kernel_rfl) ?_
 rcases condE H with ⟨hc1, H⟩ | ⟨hc1, H⟩
 ·refine J.region (by kernel_rfl) ?_
  refine O.pure 6 [] [3, 5, 15, 16, 17, 20] [] (fr' := [(3, .int .i64 x1_4.1), (5, .int .i64 x1_4.2.2), (15, .pointer (some ⟨g0_, 0, none⟩)), (16, .pointer (some ⟨g0_, 0, none⟩)), (17, .slice p1_4.1 x1_4.2.1.length p1_4.2), (20, .pointer (some ⟨g0_, 1, none⟩))]) (bx' := [⟨g0_, [.slice h0.1 a0.f0.length h0.2, .bool a0.f1], t0_⟩]) (by kernel_rfl) ?_
  refine O.q (v := .bool true) (some 21) (Qu.eqv (u := .bool a0.f1) (v := .bool true) (0, 1) [g0_, 1] (by kernel_rfl) (congrArg Value.bool hc1)) (by kernel_rfl) ?_
  refine O.pure 10 [(0, 0), (0, 1)] [3] [g0_, 0, g0_, 1] (fr' := [(3, .int .i64 x1_4.1)]) (bx' := [⟨g0_, [.slice p1_4.1 x1_4.2.1.length p1_4.2, .bool true], t0_⟩]) (by kernel_rfl) ?_
  refine O.nil (by kernel_rfl) ?_
  refine J.seq (by kernel_rfl) ?_
  refine J.region (by kernel_rfl) ?_
  refine O.pure 2 [] [2] [] (fr' := [(2, .int .i64 x1_4.1)]) (bx' := [⟨g0_, [.slice p1_4.1 x1_4.2.1.length p1_4.2, .bool true], t0_⟩]) (by kernel_rfl) ?_
  refine O.nil (by kernel_rfl) ?_
  obtain rfl := Option.some.inj H
  refine J.mono (fun w hS => hS.freezeH (h := p1_4) (xs := x1_4.2.1)) ?_
  exact J.doneS [] [] [0] [0] [] p1_4 (vs := [.int .i64 x1_4.1]) (by kernel_rfl) (by kernel_rfl) (by kernel_rfl) (by kernel_rfl) (by kernel_rfl) (by decide)
 ·refine J.region (by kernel_rfl) ?_
  refine O.pure 6 [] [3, 5, 15, 16, 17, 20] [] (fr' := [(3, .int .i64 x1_4.1), (5, .int .i64 x1_4.2.2), (15, .pointer (some ⟨g0_, 0, none⟩)), (16, .pointer (some ⟨g0_, 0, none⟩)), (17, .slice p1_4.1 x1_4.2.1.length p1_4.2), (20, .pointer (some ⟨g0_, 1, none⟩))]) (bx' := [⟨g0_, [.slice h0.1 a0.f0.length h0.2, .bool a0.f1], t0_⟩]) (by kernel_rfl) ?_
  refine O.q (v := .bool false) (some 21) (Qu.eqv (u := .bool a0.f1) (v := .bool false) (0, 1) [g0_, 1] (by kernel_rfl) (congrArg Value.bool hc1)) (by kernel_rfl) ?_
  refine O.pure 10 [(0, 0), (0, 1)] [3] [g0_, 0, g0_, 1] (fr' := [(3, .int .i64 x1_4.1)]) (bx' := [⟨g0_, [.slice p1_4.1 x1_4.2.1.length p1_4.2, .bool (x1_4.2.2 != 0)], t0_⟩]) (by kernel_rfl) ?_
  refine O.nil (by kernel_rfl) ?_
  refine J.seq (by kernel_rfl) ?_
  refine J.region (by kernel_rfl) ?_
  refine O.pure 2 [] [2] [] (fr' := [(2, .int .i64 x1_4.1)]) (bx' := [⟨g0_, [.slice p1_4.1 x1_4.2.1.length p1_4.2, .bool (x1_4.2.2 != 0)], t0_⟩]) (by kernel_rfl) ?_
  refine O.nil (by kernel_rfl) ?_
  obtain rfl := Option.some.inj H
  refine J.mono (fun w hS => hS.freezeH (h := p1_4) (xs := x1_4.2.1)) ?_
  exact J.doneS [] [] [0] [0] [] p1_4 (vs := [.int .i64 x1_4.1]) (by kernel_rfl) (by kernel_rfl) (by kernel_rfl) (by kernel_rfl) (by kernel_rfl) (by decide)
/-! ### (*haywain/mail.reader).num: function 30 -/
def mail_reader__num_f30.f (K : Nat) (a0 : S60) (a1 : Int) : Option (S60 × Int) := (mail_reader__long_f31.f K a0).bind fun x1_1 => cond (decide (x1_1.2 < 0)) (some (((⟨x1_1.1.f0, true⟩ : S60), 0))) (cond (decide (x1_1.2 > a1)) (some (((⟨x1_1.1.f0, true⟩ : S60), 0))) (some ((x1_1.1, x1_1.2))))
set_option maxRecDepth 100000 in
set_option maxHeartbeats 1000000 in
theorem mail_reader__num_f30.con (K : Nat) (a0 : S60) (a1 : Int) (g0_ t0_ : Nat) (h0 : Hd) (r : (S60 × Int)) (X : Nat → Nat → Prop) (w : World) (hS : St X w (keys [⟨g0_, [.slice h0.1 a0.f0.length h0.2, .bool a0.f1], t0_⟩] []) [⟨g0_, [.slice h0.1 a0.f0.length h0.2, .bool a0.f1], t0_⟩] [] [] [Rd (Kd.int .u8) h0.1 h0.2 a0.f0] w) (H : mail_reader__num_f30.f K a0 a1 = some r) :
    Cn Try.prog 30 [.pointer (some ⟨g0_, 0, none⟩), .int .i64 a1] X w (keys [⟨g0_, [.slice h0.1 a0.f0.length h0.2, .bool a0.f1], t0_⟩] []) (fun i : Hd => .int .i64 r.2) (fun i => [⟨g0_, [.slice i.1 r.1.f0.length i.2, .bool r.1.f1], t0_⟩]) (fun i => []) (fun i => [Rd (Kd.int .u8) i.1 i.2 r.1.f0]) := by
 refine Cn.of Try.func30 (by kernel_rfl) hS ?_
 unfold mail_reader__num_f30.f at H
 refine J.seq (by kernel_rfl) ?_
 refine J.region (by kernel_rfl) ?_
 refine O.pure 1 [] [0, 1] [] (fr' := [(0, .pointer (some ⟨g0_, 0, none⟩)), (1, .int .i64 a1)]) (bx' := [⟨g0_, [.slice h0.1 a0.f0.length h0.2, .bool a0.f1], t0_⟩]) (by kernel_rfl) ?_
 refine O.nil (by kernel_rfl) ?_
 refine J.seq (by kernel_rfl) ?_
 obtain ⟨x1_1, hx1_1, H⟩ := bindE H
 refine J.region (by kernel_rfl) ?_
 refine O.pure 1 [] [0, 1, 6] [] (fr' := [(0, .pointer (some ⟨g0_, 0, none⟩)), (1, .int .i64 a1), (6, .pointer (some ⟨g0_, 0, none⟩))]) (bx' := [⟨g0_, [.slice h0.1 a0.f0.length h0.2, .bool a0.f1], t0_⟩]) (by kernel_rfl) ?_
 refine O.e (some 7) (Ev.callS (xs := [.tmp 6]) (bxr := []) (rwr := []) [0] [] [] [] [0] (by kernel_rfl) (by kernel_rfl) (by kernel_rfl) (by kernel_rfl) (by decide) (fun w hS => mail_reader__long_f31.con K a0 g0_ t0_ h0  _ _ w hS hx1_1)) (by kernel_rfl) (fun p1_1 => ?_)
 refine O.pure 1 [] [0, 1, 5] [] (fr' := [(0, .pointer (some ⟨g0_, 0, none⟩)), (1, .int .i64 a1), (5, .int .i64 x1_1.2)]) (bx' := [⟨g0_, [.slice p1_1.1 x1_1.1.f0.length p1_1.2, .bool x1_1.1.f1], t0_⟩]) (by kernel_rfl) ?_
 refine O.nil (by kernel_rfl) ?_
 refine J.seq (by kernel_rfl) ?_
 refine J.seq (by kernel_rfl) ?_
 rcases condE H with ⟨hc1, H⟩ | ⟨hc1, H⟩
 ·refine J.region (by kernel_rfl) ?_
  refine O.pure 1 [] [0, 1, 5, 8] [] (fr' := [(0, .pointer (some ⟨g0_, 0, none⟩)), (1, .int .i64 a1), (5, .int .i64 x1_1.2), (8, .int .i64 x1_1.2)]) (bx' := [⟨g0_, [.slice p1_1.1 x1_1.1.f0.length p1_1.2, .bool x1_1.1.f1], t0_⟩]) (by kernel_rfl) ?_
  refine O.q (v := .bool true) (some 9) (Qu.eqv (u := .bool (decide (x1_1.2 < 0))) (v := .bool true) (0, 0) [] (by kernel_rfl) (congrArg Value.bool hc1)) (by kernel_rfl) ?_
  refine O.pure 5 [] [0, 5, 14] [] (fr' := [(0, .pointer (some ⟨g0_, 0, none⟩)), (5, .int .i64 x1_1.2), (14, .bool true)]) (bx' := [⟨g0_, [.slice p1_1.1 x1_1.1.f0.length p1_1.2, .bool x1_1.1.f1], t0_⟩]) (by kernel_rfl) ?_
  refine O.nil (by kernel_rfl) ?_
  refine J.cond (o := .tmp 14) true (by kernel_rfl) (by kernel_rfl) ?_
  refine J.seq (by kernel_rfl) ?_
  refine J.region (by kernel_rfl) ?_
  refine O.pure 4 [(0, 1)] [] [g0_, 1] (fr' := []) (bx' := [⟨g0_, [.slice p1_1.1 x1_1.1.f0.length p1_1.2, .bool true], t0_⟩]) (by kernel_rfl) ?_
  refine O.nil (by kernel_rfl) ?_
  refine J.seq (by kernel_rfl) ?_
  refine J.region (by kernel_rfl) ?_
  refine O.pure 1 [] [4] [] (fr' := [(4, .int .i64 0)]) (bx' := [⟨g0_, [.slice p1_1.1 x1_1.1.f0.length p1_1.2, .bool true], t0_⟩]) (by kernel_rfl) ?_
  refine O.nil (by kernel_rfl) ?_
  obtain rfl := Option.some.inj H
  exact J.doneS [] [] [0] [0] [] p1_1 (vs := [.int .i64 0]) (by kernel_rfl) (by kernel_rfl) (by kernel_rfl) (by kernel_rfl) (by kernel_rfl) (by decide)
 ·refine J.region (by kernel_rfl) ?_
  refine O.pure 1 [] [0, 1, 5, 8] [] (fr' := [(0, .pointer (some ⟨g0_, 0, none⟩)), (1, .int .i64 a1), (5, .int .i64 x1_1.2), (8, .int .i64 x1_1.2)]) (bx' := [⟨g0_, [.slice p1_1.1 x1_1.1.f0.length p1_1.2, .bool x1_1.1.f1], t0_⟩]) (by kernel_rfl) ?_
  refine O.q (v := .bool false) (some 9) (Qu.eqv (u := .bool (decide (x1_1.2 < 0))) (v := .bool false) (0, 0) [] (by kernel_rfl) (congrArg Value.bool hc1)) (by kernel_rfl) ?_
  refine O.pure 5 [] [0, 5, 14] [] (fr' := [(0, .pointer (some ⟨g0_, 0, none⟩)), (5, .int .i64 x1_1.2), (14, .bool (decide (x1_1.2 > a1)))]) (bx' := [⟨g0_, [.slice p1_1.1 x1_1.1.f0.length p1_1.2, .bool x1_1.1.f1], t0_⟩]) (by kernel_rfl) ?_
  refine O.nil (by kernel_rfl) ?_
  rcases condE H with ⟨hc2, H⟩ | ⟨hc2, H⟩
  ·refine J.condT (x := .tmp 14) (t := (decide (x1_1.2 > a1))) (by kernel_rfl) (by kernel_rfl) hc2 ?_
   refine J.seq (by kernel_rfl) ?_
   refine J.region (by kernel_rfl) ?_
   refine O.pure 4 [(0, 1)] [] [g0_, 1] (fr' := []) (bx' := [⟨g0_, [.slice p1_1.1 x1_1.1.f0.length p1_1.2, .bool true], t0_⟩]) (by kernel_rfl) ?_
   refine O.nil (by kernel_rfl) ?_
   refine J.seq (by kernel_rfl) ?_
   refine J.region (by kernel_rfl) ?_
   refine O.pure 1 [] [4] [] (fr' := [(4, .int .i64 0)]) (bx' := [⟨g0_, [.slice p1_1.1 x1_1.1.f0.length p1_1.2, .bool true], t0_⟩]) (by kernel_rfl) ?_
   refine O.nil (by kernel_rfl) ?_
   obtain rfl := Option.some.inj H
   exact J.doneS [] [] [0] [0] [] p1_1 (vs := [.int .i64 0]) (by kernel_rfl) (by kernel_rfl) (by kernel_rfl) (by kernel_rfl) (by kernel_rfl) (by decide)
  ·refine J.condF (x := .tmp 14) (t := (decide (x1_1.2 > a1))) (by kernel_rfl) (by kernel_rfl) hc2 ?_
   refine J.skip (by kernel_rfl) ?_
   refine J.seq (by kernel_rfl) ?_
   refine J.region (by kernel_rfl) ?_
   refine O.pure 2 [] [4] [] (fr' := [(4, .int .i64 x1_1.2)]) (bx' := [⟨g0_, [.slice p1_1.1 x1_1.1.f0.length p1_1.2, .bool x1_1.1.f1], t0_⟩]) (by kernel_rfl) ?_
   refine O.nil (by kernel_rfl) ?_
   obtain rfl := Option.some.inj H
   exact J.doneS [] [] [0] [0] [] p1_1 (vs := [.int .i64 x1_1.2]) (by kernel_rfl) (by kernel_rfl) (by kernel_rfl) (by kernel_rfl) (by kernel_rfl) (by decide)
/-! ### (*haywain/mail.lists).some: function 29 -/
def mail_lists_some.l1 (K : Nat) (a1 : Int) : Nat → ((List Int) × Int × (List Int) × Bool) → Option (S62 × (List Int))
  | 0, _ => none
  | k + 1, s1 => cond (decide (s1.2.1 < a1)) (cond (!s1.2.2.2) ((mail_reader__num_f30.f K (⟨s1.2.2.1, s1.2.2.2⟩ : S60) 1099511627776).bind fun x5_4 => (appO 8 s1.1 ([x5_4.2] : List Int)).bind fun y5_6 => mail_lists_some.l1 K a1 k ((s1.1 ++ ([x5_4.2] : List Int)), (IntKind.wrap .i64 (s1.2.1 + 1)), x5_4.1.f0, x5_4.1.f1)) (some (((⟨(⟨s1.2.2.1, s1.2.2.2⟩ : S60)⟩ : S62), s1.1)))) (some (((⟨(⟨s1.2.2.1, s1.2.2.2⟩ : S60)⟩ : S62), s1.1)))
def mail_lists_some.f (K : Nat) (a0 : S62) (a1 : Int) : Option (S62 × (List Int)) := mail_lists_some.l1 K a1 K (([] : List Int), 0, a0.f0.f0, a0.f0.f1)
set_option maxRecDepth 100000 in
set_option maxHeartbeats 1000000 in
theorem mail_lists_some.con (K : Nat) (a0 : S62) (a1 : Int) (g0_ t0_ : Nat) (h0 : Hd) (r : (S62 × (List Int))) (X : Nat → Nat → Prop) (w : World) (hS : St X w (keys [⟨g0_, [.slice h0.1 a0.f0.f0.length h0.2, .bool a0.f0.f1], t0_⟩] []) [⟨g0_, [.slice h0.1 a0.f0.f0.length h0.2, .bool a0.f0.f1], t0_⟩] [] [] [Rd (Kd.int .u8) h0.1 h0.2 a0.f0.f0] w) (H : mail_lists_some.f K a0 a1 = some r) :
    Cn Try.prog 29 [.pointer (some ⟨g0_, 0, none⟩), .int .i64 a1] X w (keys [⟨g0_, [.slice h0.1 a0.f0.f0.length h0.2, .bool a0.f0.f1], t0_⟩] []) (fun i : Hd × Hd => .slice i.2.1 r.2.length i.2.2) (fun i => [⟨g0_, [.slice i.1.1 r.1.f0.f0.length i.1.2, .bool r.1.f0.f1], t0_⟩]) (fun i => [mkRow (Kd.int .i64) 3 (.slice i.2.1 r.2.length i.2.2) r.2]) (fun i => [Rd (Kd.int .u8) i.1.1 i.1.2 r.1.f0.f0]) := by
 refine Cn.of Try.func29 (by kernel_rfl) hS ?_
 unfold mail_lists_some.f at H
 refine J.seq (by kernel_rfl) ?_
 refine J.region (by kernel_rfl) ?_
 refine O.pure 1 [] [0, 1] [] (fr' := [(0, .pointer (some ⟨g0_, 0, none⟩)), (1, .int .i64 a1)]) (bx' := [⟨g0_, [.slice h0.1 a0.f0.f0.length h0.2, .bool a0.f0.f1], t0_⟩]) (by kernel_rfl) ?_
 refine O.nil (by kernel_rfl) ?_
 refine J.seq (by kernel_rfl) ?_
 refine J.region (by kernel_rfl) ?_
 refine O.pure 1 [] [0, 1, 5] [] (fr' := [(0, .pointer (some ⟨g0_, 0, none⟩)), (1, .int .i64 a1), (5, .slice none 0 0)]) (bx' := [⟨g0_, [.slice h0.1 a0.f0.f0.length h0.2, .bool a0.f0.f1], t0_⟩]) (by kernel_rfl) ?_
 refine O.nil (by kernel_rfl) ?_
 refine J.seq (by kernel_rfl) ?_
 refine J.seq (by kernel_rfl) ?_
 refine J.region (by kernel_rfl) ?_
 refine O.pure 1 [] [0, 1, 5, 6] [] (fr' := [(0, .pointer (some ⟨g0_, 0, none⟩)), (1, .int .i64 a1), (5, .slice none 0 0), (6, .int .i64 0)]) (bx' := [⟨g0_, [.slice h0.1 a0.f0.f0.length h0.2, .bool a0.f0.f1], t0_⟩]) (by kernel_rfl) ?_
 refine O.nil (by kernel_rfl) ?_
 refine J.block (id := 0) (by kernel_rfl) ?_
 refine J.loopI (σ := (List Int) × Int × (List Int) × Bool) (γ := Hd × Hd) (f := fun m_ s_ => mail_lists_some.l1 K a1 m_ s_) (fun s1 g1 => [(0, .pointer (some ⟨g0_, 0, none⟩)), (1, .int .i64 a1), (5, .slice g1.1.1 s1.1.length g1.1.2), (6, .int .i64 s1.2.1)]) (fun s1 g1 => St X w (keys [⟨g0_, [.slice h0.1 a0.f0.f0.length h0.2, .bool a0.f0.f1], t0_⟩] []) [⟨g0_, [.slice g1.2.1 s1.2.2.1.length g1.2.2, .bool s1.2.2.2], t0_⟩] [mkRow (Kd.int .i64) 3 (.slice g1.1.1 s1.1.length g1.1.2) s1.1] [] [Rd (Kd.int .u8) g1.2.1 g1.2.2 s1.2.2.1]) K (([] : List Int), 0, a0.f0.f0, a0.f0.f1) ((none, 0), h0) (by kernel_rfl) H (fun _ => rfl) (fun m_ s1 H ih1 g1 => ?_) (fun h_ => ?_)
 ·unfold mail_lists_some.l1 at H
  refine J.seq (by kernel_rfl) ?_
  refine J.seq (by kernel_rfl) ?_
  rcases condE H with ⟨hc6, H⟩ | ⟨hc6, H⟩
  ·refine J.region (by kernel_rfl) ?_
   refine O.pure 2 [] [0, 1, 5, 6, 7, 8] [] (fr' := [(0, .pointer (some ⟨g0_, 0, none⟩)), (1, .int .i64 a1), (5, .slice g1.1.1 s1.1.length g1.1.2), (6, .int .i64 s1.2.1), (7, .int .i64 s1.2.1), (8, .int .i64 a1)]) (bx' := [⟨g0_, [.slice g1.2.1 s1.2.2.1.length g1.2.2, .bool s1.2.2.2], t0_⟩]) (by kernel_rfl) ?_
   refine O.q (v := .bool true) (some 9) (Qu.eqv (u := .bool (decide (s1.2.1 < a1))) (v := .bool true) (0, 0) [] (by kernel_rfl) (congrArg Value.bool hc6)) (by kernel_rfl) ?_
   refine O.pure 8 [(0, 1)] [0, 1, 5, 6, 11, 12, 13, 14, 15, 16, 17] [g0_, 1] (fr' := [(0, .pointer (some ⟨g0_, 0, none⟩)), (1, .int .i64 a1), (5, .slice g1.1.1 s1.1.length g1.1.2), (6, .int .i64 s1.2.1), (11, .pointer (some ⟨g0_, 0, none⟩)), (12, .pointer (some ⟨g0_, 0, none⟩)), (13, .pointer (some ⟨g0_, 0, none⟩)), (14, .pointer (some ⟨g0_, 1, none⟩)), (15, .bool s1.2.2.2), (16, .bool (!s1.2.2.2)), (17, .bool (!s1.2.2.2))]) (bx' := [⟨g0_, [.slice g1.2.1 s1.2.2.1.length g1.2.2, .bool s1.2.2.2], t0_⟩]) (by kernel_rfl) ?_
   refine O.nil (by kernel_rfl) ?_
   rcases condE H with ⟨hc7, H⟩ | ⟨hc7, H⟩
   ·refine J.condT (x := .tmp 17) (t := (!s1.2.2.2)) (by kernel_rfl) (by kernel_rfl) hc7 ?_
    refine J.skip (by kernel_rfl) ?_
    refine J.seq (by kernel_rfl) ?_
    refine J.block (id := 1) (by kernel_rfl) ?_
    obtain ⟨x5_4, hx5_4, H⟩ := bindE H
    obtain ⟨y5_6, hy5_6, H⟩ := bindE H
    have hy5_6a := (appE hy5_6).1
    refine J.region (by kernel_rfl) ?_
    refine O.pure 4 [] [0, 1, 5, 6, 11, 12, 13, 14, 15, 16, 20, 23] [] (fr' := [(0, .pointer (some ⟨g0_, 0, none⟩)), (1, .int .i64 a1), (5, .slice g1.1.1 s1.1.length g1.1.2), (6, .int .i64 s1.2.1), (11, .pointer (some ⟨g0_, 0, none⟩)), (12, .pointer (some ⟨g0_, 0, none⟩)), (13, .pointer (some ⟨g0_, 0, none⟩)), (14, .pointer (some ⟨g0_, 1, none⟩)), (15, .bool s1.2.2.2), (16, .bool (!s1.2.2.2)), (20, .slice g1.1.1 s1.1.length g1.1.2), (23, .pointer (some ⟨g0_, 0, none⟩))]) (bx' := [⟨g0_, [.slice g1.2.1 s1.2.2.1.length g1.2.2, .bool s1.2.2.2], t0_⟩]) (by kernel_rfl) ?_
    refine O.e (some 24) (Ev.callS (xs := [.tmp 23, .const (.int .i64 1099511627776)]) (bxr := []) (rwr := [mkRow (Kd.int .i64) 3 (.slice g1.1.1 s1.1.length g1.1.2) s1.1]) [0] [] [] [0] [0] (by kernel_rfl) (by kernel_rfl) (by kernel_rfl) (by kernel_rfl) (by decide) (fun w hS => mail_reader__num_f30.con K (⟨s1.2.2.1, s1.2.2.2⟩ : S60) 1099511627776 g0_ t0_ g1.2  _ _ w hS hx5_4)) (by kernel_rfl) (fun p5_4 => ?_)
    refine O.e (some 25) (Ev.lit (t := 22) (len := 1) (parts := #[(0, .tmp 24)]) (ps := [(0, .int .i64 x5_4.2)]) (cs := [.int .i64 x5_4.2]) (e := 3) (Kd.int .i64) ([x5_4.2] : List Int) (by kernel_rfl) (by kernel_rfl) (by kernel_rfl) (by kernel_rfl) (by kernel_rfl) (by decide) (fun w' hφ => (Els.cons (c := [.int .i64 x5_4.2]) (rfl) (Els.nil _ _ _)))) (by kernel_rfl) (fun p5_5 => ?_)
    refine O.e (some 26) (Ev.appLit (x := .tmp 20) (y := .tmp 25) (t := 22) (bytes := 8) (by kernel_rfl) (by kernel_rfl) (by kernel_rfl) (by kernel_rfl) (by kernel_rfl) (by decide) hy5_6a) (by kernel_rfl) (fun p5_6 => ?_)
    refine O.pure 1 [] [0, 1, 5, 6, 11, 12, 13, 14, 15, 16] [] (fr' := [(0, .pointer (some ⟨g0_, 0, none⟩)), (1, .int .i64 a1), (5, .slice p5_6.1 (s1.1 ++ ([x5_4.2] : List Int)).length p5_6.2), (6, .int .i64 s1.2.1), (11, .pointer (some ⟨g0_, 0, none⟩)), (12, .pointer (some ⟨g0_, 0, none⟩)), (13, .pointer (some ⟨g0_, 0, none⟩)), (14, .pointer (some ⟨g0_, 1, none⟩)), (15, .bool s1.2.2.2), (16, .bool (!s1.2.2.2))]) (bx' := [⟨g0_, [.slice p5_4.1 x5_4.1.f0.length p5_4.2, .bool x5_4.1.f1], t0_⟩]) (by kernel_rfl) ?_
    refine O.nil (by kernel_rfl) ?_
    refine J.out ?_
    refine J.region (by kernel_rfl) ?_
    refine O.pure 3 [] [0, 1, 5, 6, 11, 12, 13, 14, 15, 16] [] (fr' := [(0, .pointer (some ⟨g0_, 0, none⟩)), (1, .int .i64 a1), (5, .slice p5_6.1 (s1.1 ++ ([x5_4.2] : List Int)).length p5_6.2), (6, .int .i64 (IntKind.wrap .i64 (s1.2.1 + 1))), (11, .pointer (some ⟨g0_, 0, none⟩)), (12, .pointer (some ⟨g0_, 0, none⟩)), (13, .pointer (some ⟨g0_, 0, none⟩)), (14, .pointer (some ⟨g0_, 1, none⟩)), (15, .bool s1.2.2.2), (16, .bool (!s1.2.2.2))]) (bx' := [⟨g0_, [.slice p5_4.1 x5_4.1.f0.length p5_4.2, .bool x5_4.1.f1], t0_⟩]) (by kernel_rfl) ?_
    refine O.nil (by kernel_rfl) ?_
    exact J.conv2 [0, 1, 5, 6] [0] [0] [0] (by kernel_rfl) (by kernel_rfl) (by kernel_rfl) (by kernel_rfl) (by decide) (ih1 ((s1.1 ++ ([x5_4.2] : List Int)), (IntKind.wrap .i64 (s1.2.1 + 1)), x5_4.1.f0, x5_4.1.f1) (p5_6, p5_4) H)
   ·refine J.condF (x := .tmp 17) (t := (!s1.2.2.2)) (by kernel_rfl) (by kernel_rfl) hc7 ?_
    refine J.exit (id := 0) (by kernel_rfl) rfl ?_
    refine J.seq (by kernel_rfl) ?_
    refine J.region (by kernel_rfl) ?_
    refine O.pure 2 [] [4] [] (fr' := [(4, .slice g1.1.1 s1.1.length g1.1.2)]) (bx' := [⟨g0_, [.slice g1.2.1 s1.2.2.1.length g1.2.2, .bool s1.2.2.2], t0_⟩]) (by kernel_rfl) ?_
    refine O.nil (by kernel_rfl) ?_
    obtain rfl := Option.some.inj H
    exact J.doneS [] [] [0] [0] [0] (g1.2, g1.1) (vs := [.slice g1.1.1 s1.1.length g1.1.2]) (by kernel_rfl) (by kernel_rfl) (by kernel_rfl) (by kernel_rfl) (by kernel_rfl) (by decide)
  ·refine J.region (by kernel_rfl) ?_
   refine O.pure 2 [] [0, 1, 5, 6, 7, 8] [] (fr' := [(0, .pointer (some ⟨g0_, 0, none⟩)), (1, .int .i64 a1), (5, .slice g1.1.1 s1.1.length g1.1.2), (6, .int .i64 s1.2.1), (7, .int .i64 s1.2.1), (8, .int .i64 a1)]) (bx' := [⟨g0_, [.slice g1.2.1 s1.2.2.1.length g1.2.2, .bool s1.2.2.2], t0_⟩]) (by kernel_rfl) ?_
   refine O.q (v := .bool false) (some 9) (Qu.eqv (u := .bool (decide (s1.2.1 < a1))) (v := .bool false) (0, 0) [] (by kernel_rfl) (congrArg Value.bool hc6)) (by kernel_rfl) ?_
   refine O.pure 8 [] [0, 1, 5, 6, 11, 12, 13, 14, 15, 16, 17] [] (fr' := [(0, .pointer (some ⟨g0_, 0, none⟩)), (1, .int .i64 a1), (5, .slice g1.1.1 s1.1.length g1.1.2), (6, .int .i64 s1.2.1), (11, undef), (12, undef), (13, undef), (14, undef), (15, undef), (16, undef), (17, .bool false)]) (bx' := [⟨g0_, [.slice g1.2.1 s1.2.2.1.length g1.2.2, .bool s1.2.2.2], t0_⟩]) (by kernel_rfl) ?_
   refine O.nil (by kernel_rfl) ?_
   refine J.cond (o := .tmp 17) false (by kernel_rfl) (by kernel_rfl) ?_
   refine J.exit (id := 0) (by kernel_rfl) rfl ?_
   refine J.seq (by kernel_rfl) ?_
   refine J.region (by kernel_rfl) ?_
   refine O.pure 2 [] [4] [] (fr' := [(4, .slice g1.1.1 s1.1.length g1.1.2)]) (bx' := [⟨g0_, [.slice g1.2.1 s1.2.2.1.length g1.2.2, .bool s1.2.2.2], t0_⟩]) (by kernel_rfl) ?_
   refine O.nil (by kernel_rfl) ?_
   obtain rfl := Option.some.inj H
   exact J.doneS [] [] [0] [0] [0] (g1.2, g1.1) (vs := [.slice g1.1.1 s1.1.length g1.1.2]) (by kernel_rfl) (by kernel_rfl) (by kernel_rfl) (by kernel_rfl) (by kernel_rfl) (by decide)
 ·refine J.nilrow (Kd.int .i64) 3 ?_
  exact J.conv2 [0, 1, 5, 6] [0] [0] [0] (by kernel_rfl) (by kernel_rfl) (by kernel_rfl) (by kernel_rfl) (by decide) h_
/-! ### (*haywain/mail.lists).msgs: function 32 -/
def mail_lists_msgs.l1 (K : Nat) : Nat → ((List S77) × Int × (List Int) × Bool) → Option (S62 × (List S77))
  | 0, _ => none
  | k + 1, s1 => cond (decide (s1.2.1 > 0)) (cond (!s1.2.2.2) ((mail_reader__num_f30.f K (⟨s1.2.2.1, s1.2.2.2⟩ : S60) 1099511627776).bind fun x5_3 => (mail_reader__long_f31.f K x5_3.1).bind fun x6_5 => (appO 16 s1.1 ([(⟨x5_3.2, x6_5.2⟩ : S77)] : List S77)).bind fun y6_8 => mail_lists_msgs.l1 K k ((s1.1 ++ ([(⟨x5_3.2, x6_5.2⟩ : S77)] : List S77)), (IntKind.wrap .i64 (s1.2.1 - 1)), x6_5.1.f0, x6_5.1.f1)) (some (((⟨(⟨s1.2.2.1, s1.2.2.2⟩ : S60)⟩ : S62), s1.1)))) (some (((⟨(⟨s1.2.2.1, s1.2.2.2⟩ : S60)⟩ : S62), s1.1)))
def mail_lists_msgs.f (K : Nat) (a0 : S62) : Option (S62 × (List S77)) := (mail_reader__num_f30.f K a0.f0 24).bind fun x2_3 => mail_lists_msgs.l1 K K (([] : List S77), x2_3.2, x2_3.1.f0, x2_3.1.f1)
set_option maxRecDepth 100000 in
set_option maxHeartbeats 1000000 in
theorem mail_lists_msgs.con (K : Nat) (a0 : S62) (g0_ t0_ : Nat) (h0 : Hd) (r : (S62 × (List S77))) (X : Nat → Nat → Prop) (w : World) (hS : St X w (keys [⟨g0_, [.slice h0.1 a0.f0.f0.length h0.2, .bool a0.f0.f1], t0_⟩] []) [⟨g0_, [.slice h0.1 a0.f0.f0.length h0.2, .bool a0.f0.f1], t0_⟩] [] [] [Rd (Kd.int .u8) h0.1 h0.2 a0.f0.f0] w) (H : mail_lists_msgs.f K a0 = some r) :
    Cn Try.prog 32 [.pointer (some ⟨g0_, 0, none⟩)] X w (keys [⟨g0_, [.slice h0.1 a0.f0.f0.length h0.2, .bool a0.f0.f1], t0_⟩] []) (fun i : Hd × Hd => .slice i.2.1 r.2.length i.2.2) (fun i => [⟨g0_, [.slice i.1.1 r.1.f0.f0.length i.1.2, .bool r.1.f0.f1], t0_⟩]) (fun i => [mkRow kd77 77 (.slice i.2.1 r.2.length i.2.2) r.2]) (fun i => [Rd (Kd.int .u8) i.1.1 i.1.2 r.1.f0.f0]) := by
 refine Cn.of Try.func32 (by kernel_rfl) hS ?_
 unfold mail_lists_msgs.f at H
 refine J.seq (by kernel_rfl) ?_
 refine J.region (by kernel_rfl) ?_
 refine O.pure 1 [] [0] [] (fr' := [(0, .pointer (some ⟨g0_, 0, none⟩))]) (bx' := [⟨g0_, [.slice h0.1 a0.f0.f0.length h0.2, .bool a0.f0.f1], t0_⟩]) (by kernel_rfl) ?_
 refine O.nil (by kernel_rfl) ?_
 refine J.seq (by kernel_rfl) ?_
 refine J.region (by kernel_rfl) ?_
 refine O.pure 1 [] [0, 3] [] (fr' := [(0, .pointer (some ⟨g0_, 0, none⟩)), (3, .slice none 0 0)]) (bx' := [⟨g0_, [.slice h0.1 a0.f0.f0.length h0.2, .bool a0.f0.f1], t0_⟩]) (by kernel_rfl) ?_
 refine O.nil (by kernel_rfl) ?_
 refine J.seq (by kernel_rfl) ?_
 refine J.seq (by kernel_rfl) ?_
 obtain ⟨x2_3, hx2_3, H⟩ := bindE H
 refine J.region (by kernel_rfl) ?_
 refine O.pure 3 [] [0, 3, 8] [] (fr' := [(0, .pointer (some ⟨g0_, 0, none⟩)), (3, .slice none 0 0), (8, .pointer (some ⟨g0_, 0, none⟩))]) (bx' := [⟨g0_, [.slice h0.1 a0.f0.f0.length h0.2, .bool a0.f0.f1], t0_⟩]) (by kernel_rfl) ?_
 refine O.e (some 9) (Ev.callS (xs := [.tmp 8, .const (.int .i64 24)]) (bxr := []) (rwr := []) [0] [] [] [] [0] (by kernel_rfl) (by kernel_rfl) (by kernel_rfl) (by kernel_rfl) (by decide) (fun w hS => mail_reader__num_f30.con K a0.f0 24 g0_ t0_ h0  _ _ w hS hx2_3)) (by kernel_rfl) (fun p2_3 => ?_)
 refine O.pure 1 [] [0, 3, 4] [] (fr' := [(0, .pointer (some ⟨g0_, 0, none⟩)), (3, .slice none 0 0), (4, .int .i64 x2_3.2)]) (bx' := [⟨g0_, [.slice p2_3.1 x2_3.1.f0.length p2_3.2, .bool x2_3.1.f1], t0_⟩]) (by kernel_rfl) ?_
 refine O.nil (by kernel_rfl) ?_
 refine J.block (id := 0) (by kernel_rfl) ?_
 refine J.loopI (σ := (List S77) × Int × (List Int) × Bool) (γ := Hd × Hd) (f := fun m_ s_ => mail_lists_msgs.l1 K m_ s_) (fun s1 g1 => [(0, .pointer (some ⟨g0_, 0, none⟩)), (3, .slice g1.1.1 s1.1.length g1.1.2), (4, .int .i64 s1.2.1)]) (fun s1 g1 => St X w (keys [⟨g0_, [.slice h0.1 a0.f0.f0.length h0.2, .bool a0.f0.f1], t0_⟩] []) [⟨g0_, [.slice g1.2.1 s1.2.2.1.length g1.2.2, .bool s1.2.2.2], t0_⟩] [mkRow kd77 77 (.slice g1.1.1 s1.1.length g1.1.2) s1.1] [] [Rd (Kd.int .u8) g1.2.1 g1.2.2 s1.2.2.1]) K (([] : List S77), x2_3.2, x2_3.1.f0, x2_3.1.f1) ((none, 0), p2_3) (by kernel_rfl) H (fun _ => rfl) (fun m_ s1 H ih1 g1 => ?_) (fun h_ => ?_)
 ·unfold mail_lists_msgs.l1 at H
  refine J.seq (by kernel_rfl) ?_
  refine J.seq (by kernel_rfl) ?_
  rcases condE H with ⟨hc6, H⟩ | ⟨hc6, H⟩
  ·refine J.region (by kernel_rfl) ?_
   refine O.pure 1 [] [0, 3, 4, 10] [] (fr' := [(0, .pointer (some ⟨g0_, 0, none⟩)), (3, .slice g1.1.1 s1.1.length g1.1.2), (4, .int .i64 s1.2.1), (10, .int .i64 s1.2.1)]) (bx' := [⟨g0_, [.slice g1.2.1 s1.2.2.1.length g1.2.2, .bool s1.2.2.2], t0_⟩]) (by kernel_rfl) ?_
   refine O.q (v := .bool true) (some 11) (Qu.eqv (u := .bool (decide (s1.2.1 > 0))) (v := .bool true) (0, 0) [] (by kernel_rfl) (congrArg Value.bool hc6)) (by kernel_rfl) ?_
   refine O.pure 8 [(0, 1)] [0, 3, 4, 13, 14, 15, 16, 17, 18, 19] [g0_, 1] (fr' := [(0, .pointer (some ⟨g0_, 0, none⟩)), (3, .slice g1.1.1 s1.1.length g1.1.2), (4, .int .i64 s1.2.1), (13, .pointer (some ⟨g0_, 0, none⟩)), (14, .pointer (some ⟨g0_, 0, none⟩)), (15, .pointer (some ⟨g0_, 0, none⟩)), (16, .pointer (some ⟨g0_, 1, none⟩)), (17, .bool s1.2.2.2), (18, .bool (!s1.2.2.2)), (19, .bool (!s1.2.2.2))]) (bx' := [⟨g0_, [.slice g1.2.1 s1.2.2.1.length g1.2.2, .bool s1.2.2.2], t0_⟩]) (by kernel_rfl) ?_
   refine O.nil (by kernel_rfl) ?_
   rcases condE H with ⟨hc7, H⟩ | ⟨hc7, H⟩
   ·refine J.condT (x := .tmp 19) (t := (!s1.2.2.2)) (by kernel_rfl) (by kernel_rfl) hc7 ?_
    refine J.skip (by kernel_rfl) ?_
    refine J.seq (by kernel_rfl) ?_
    refine J.block (id := 1) (by kernel_rfl) ?_
    refine J.seq (by kernel_rfl) ?_
    obtain ⟨x5_3, hx5_3, H⟩ := bindE H
    refine J.region (by kernel_rfl) ?_
    refine O.pure 3 [] [0, 3, 4, 13, 14, 15, 16, 17, 18, 24] [] (fr' := [(0, .pointer (some ⟨g0_, 0, none⟩)), (3, .slice g1.1.1 s1.1.length g1.1.2), (4, .int .i64 s1.2.1), (13, .pointer (some ⟨g0_, 0, none⟩)), (14, .pointer (some ⟨g0_, 0, none⟩)), (15, .pointer (some ⟨g0_, 0, none⟩)), (16, .pointer (some ⟨g0_, 1, none⟩)), (17, .bool s1.2.2.2), (18, .bool (!s1.2.2.2)), (24, .pointer (some ⟨g0_, 0, none⟩))]) (bx' := [⟨g0_, [.slice g1.2.1 s1.2.2.1.length g1.2.2, .bool s1.2.2.2], t0_⟩]) (by kernel_rfl) ?_
    refine O.e (some 25) (Ev.callS (xs := [.tmp 24, .const (.int .i64 1099511627776)]) (bxr := []) (rwr := [mkRow kd77 77 (.slice g1.1.1 s1.1.length g1.1.2) s1.1]) [0] [] [] [0] [0] (by kernel_rfl) (by kernel_rfl) (by kernel_rfl) (by kernel_rfl) (by decide) (fun w hS => mail_reader__num_f30.con K (⟨s1.2.2.1, s1.2.2.2⟩ : S60) 1099511627776 g0_ t0_ g1.2  _ _ w hS hx5_3)) (by kernel_rfl) (fun p5_3 => ?_)
    refine O.pure 1 [] [0, 3, 4, 5, 13, 14, 15, 16, 17, 18] [] (fr' := [(0, .pointer (some ⟨g0_, 0, none⟩)), (3, .slice g1.1.1 s1.1.length g1.1.2), (4, .int .i64 s1.2.1), (5, .int .i64 x5_3.2), (13, .pointer (some ⟨g0_, 0, none⟩)), (14, .pointer (some ⟨g0_, 0, none⟩)), (15, .pointer (some ⟨g0_, 0, none⟩)), (16, .pointer (some ⟨g0_, 1, none⟩)), (17, .bool s1.2.2.2), (18, .bool (!s1.2.2.2))]) (bx' := [⟨g0_, [.slice p5_3.1 x5_3.1.f0.length p5_3.2, .bool x5_3.1.f1], t0_⟩]) (by kernel_rfl) ?_
    refine O.nil (by kernel_rfl) ?_
    obtain ⟨x6_5, hx6_5, H⟩ := bindE H
    obtain ⟨y6_8, hy6_8, H⟩ := bindE H
    have hy6_8a := (appE hy6_8).1
    refine J.region (by kernel_rfl) ?_
    refine O.pure 5 [] [0, 3, 4, 13, 14, 15, 16, 17, 18, 26, 27, 30] [] (fr' := [(0, .pointer (some ⟨g0_, 0, none⟩)), (3, .slice g1.1.1 s1.1.length g1.1.2), (4, .int .i64 s1.2.1), (13, .pointer (some ⟨g0_, 0, none⟩)), (14, .pointer (some ⟨g0_, 0, none⟩)), (15, .pointer (some ⟨g0_, 0, none⟩)), (16, .pointer (some ⟨g0_, 1, none⟩)), (17, .bool s1.2.2.2), (18, .bool (!s1.2.2.2)), (26, .slice g1.1.1 s1.1.length g1.1.2), (27, .int .i64 x5_3.2), (30, .pointer (some ⟨g0_, 0, none⟩))]) (bx' := [⟨g0_, [.slice p5_3.1 x5_3.1.f0.length p5_3.2, .bool x5_3.1.f1], t0_⟩]) (by kernel_rfl) ?_
    refine O.e (some 31) (Ev.callS (xs := [.tmp 30]) (bxr := []) (rwr := [mkRow kd77 77 (.slice g1.1.1 s1.1.length g1.1.2) s1.1]) [0] [] [] [0] [0] (by kernel_rfl) (by kernel_rfl) (by kernel_rfl) (by kernel_rfl) (by decide) (fun w hS => mail_reader__long_f31.con K x5_3.1 g0_ t0_ p5_3  _ _ w hS hx6_5)) (by kernel_rfl) (fun p6_5 => ?_)
    refine O.pure 1 [] [0, 3, 4, 13, 14, 15, 16, 17, 18, 26, 32] [] (fr' := [(0, .pointer (some ⟨g0_, 0, none⟩)), (3, .slice g1.1.1 s1.1.length g1.1.2), (4, .int .i64 s1.2.1), (13, .pointer (some ⟨g0_, 0, none⟩)), (14, .pointer (some ⟨g0_, 0, none⟩)), (15, .pointer (some ⟨g0_, 0, none⟩)), (16, .pointer (some ⟨g0_, 1, none⟩)), (17, .bool s1.2.2.2), (18, .bool (!s1.2.2.2)), (26, .slice g1.1.1 s1.1.length g1.1.2), (32, .agg #[.int .i64 x5_3.2, .int .i64 x6_5.2])]) (bx' := [⟨g0_, [.slice p6_5.1 x6_5.1.f0.length p6_5.2, .bool x6_5.1.f1], t0_⟩]) (by kernel_rfl) ?_
    refine O.e (some 33) (Ev.lit (t := 25) (len := 1) (parts := #[(0, .tmp 32)]) (ps := [(0, .agg #[.int .i64 x5_3.2, .int .i64 x6_5.2])]) (cs := [.int .i64 x5_3.2, .int .i64 x6_5.2]) (e := 77) kd77 ([(⟨x5_3.2, x6_5.2⟩ : S77)] : List S77) (by kernel_rfl) (by kernel_rfl) (by kernel_rfl) (by kernel_rfl) (by kernel_rfl) (by decide) (fun w' hφ => (Els.cons (c := [.int .i64 x5_3.2, .int .i64 x6_5.2]) (rfl) (Els.nil _ _ _)))) (by kernel_rfl) (fun p6_7 => ?_)
    refine O.e (some 34) (Ev.appLit (x := .tmp 26) (y := .tmp 33) (t := 25) (bytes := 16) (by kernel_rfl) (by kernel_rfl) (by kernel_rfl) (by kernel_rfl) (by kernel_rfl) (by decide) hy6_8a) (by kernel_rfl) (fun p6_8 => ?_)
    refine O.pure 1 [] [0, 3, 4, 13, 14, 15, 16, 17, 18] [] (fr' := [(0, .pointer (some ⟨g0_, 0, none⟩)), (3, .slice p6_8.1 (s1.1 ++ ([(⟨x5_3.2, x6_5.2⟩ : S77)] : List S77)).length p6_8.2), (4, .int .i64 s1.2.1), (13, .pointer (some ⟨g0_, 0, none⟩)), (14, .pointer (some ⟨g0_, 0, none⟩)), (15, .pointer (some ⟨g0_, 0, none⟩)), (16, .pointer (some ⟨g0_, 1, none⟩)), (17, .bool s1.2.2.2), (18, .bool (!s1.2.2.2))]) (bx' := [⟨g0_, [.slice p6_5.1 x6_5.1.f0.length p6_5.2, .bool x6_5.1.f1], t0_⟩]) (by kernel_rfl) ?_
    refine O.nil (by kernel_rfl) ?_
    refine J.out ?_
    refine J.region (by kernel_rfl) ?_
    refine O.pure 3 [] [0, 3, 4, 13, 14, 15, 16, 17, 18] [] (fr' := [(0, .pointer (some ⟨g0_, 0, none⟩)), (3, .slice p6_8.1 (s1.1 ++ ([(⟨x5_3.2, x6_5.2⟩ : S77)] : List S77)).length p6_8.2), (4, .int .i64 (IntKind.wrap .i64 (s1.2.1 - 1))), (13, .pointer (some ⟨g0_, 0, none⟩)), (14, .pointer (some ⟨g0_, 0, none⟩)), (15, .pointer (some ⟨g0_, 0, none⟩)), (16, .pointer (some ⟨g0_, 1, none⟩)), (17, .bool s1.2.2.2), (18, .bool (!s1.2.2.2))]) (bx' := [⟨g0_, [.slice p6_5.1 x6_5.1.f0.length p6_5.2, .bool x6_5.1.f1], t0_⟩]) (by kernel_rfl) ?_
    refine O.nil (by kernel_rfl) ?_
    exact J.conv2 [0, 3, 4] [0] [0] [0] (by kernel_rfl) (by kernel_rfl) (by kernel_rfl) (by kernel_rfl) (by decide) (ih1 ((s1.1 ++ ([(⟨x5_3.2, x6_5.2⟩ : S77)] : List S77)), (IntKind.wrap .i64 (s1.2.1 - 1)), x6_5.1.f0, x6_5.1.f1) (p6_8, p6_5) H)
   ·refine J.condF (x := .tmp 19) (t := (!s1.2.2.2)) (by kernel_rfl) (by kernel_rfl) hc7 ?_
    refine J.exit (id := 0) (by kernel_rfl) rfl ?_
    refine J.seq (by kernel_rfl) ?_
    refine J.region (by kernel_rfl) ?_
    refine O.pure 2 [] [2] [] (fr' := [(2, .slice g1.1.1 s1.1.length g1.1.2)]) (bx' := [⟨g0_, [.slice g1.2.1 s1.2.2.1.length g1.2.2, .bool s1.2.2.2], t0_⟩]) (by kernel_rfl) ?_
    refine O.nil (by kernel_rfl) ?_
    obtain rfl := Option.some.inj H
    exact J.doneS [] [] [0] [0] [0] (g1.2, g1.1) (vs := [.slice g1.1.1 s1.1.length g1.1.2]) (by kernel_rfl) (by kernel_rfl) (by kernel_rfl) (by kernel_rfl) (by kernel_rfl) (by decide)
  ·refine J.region (by kernel_rfl) ?_
   refine O.pure 1 [] [0, 3, 4, 10] [] (fr' := [(0, .pointer (some ⟨g0_, 0, none⟩)), (3, .slice g1.1.1 s1.1.length g1.1.2), (4, .int .i64 s1.2.1), (10, .int .i64 s1.2.1)]) (bx' := [⟨g0_, [.slice g1.2.1 s1.2.2.1.length g1.2.2, .bool s1.2.2.2], t0_⟩]) (by kernel_rfl) ?_
   refine O.q (v := .bool false) (some 11) (Qu.eqv (u := .bool (decide (s1.2.1 > 0))) (v := .bool false) (0, 0) [] (by kernel_rfl) (congrArg Value.bool hc6)) (by kernel_rfl) ?_
   refine O.pure 8 [] [0, 3, 4, 13, 14, 15, 16, 17, 18, 19] [] (fr' := [(0, .pointer (some ⟨g0_, 0, none⟩)), (3, .slice g1.1.1 s1.1.length g1.1.2), (4, .int .i64 s1.2.1), (13, undef), (14, undef), (15, undef), (16, undef), (17, undef), (18, undef), (19, .bool false)]) (bx' := [⟨g0_, [.slice g1.2.1 s1.2.2.1.length g1.2.2, .bool s1.2.2.2], t0_⟩]) (by kernel_rfl) ?_
   refine O.nil (by kernel_rfl) ?_
   refine J.cond (o := .tmp 19) false (by kernel_rfl) (by kernel_rfl) ?_
   refine J.exit (id := 0) (by kernel_rfl) rfl ?_
   refine J.seq (by kernel_rfl) ?_
   refine J.region (by kernel_rfl) ?_
   refine O.pure 2 [] [2] [] (fr' := [(2, .slice g1.1.1 s1.1.length g1.1.2)]) (bx' := [⟨g0_, [.slice g1.2.1 s1.2.2.1.length g1.2.2, .bool s1.2.2.2], t0_⟩]) (by kernel_rfl) ?_
   refine O.nil (by kernel_rfl) ?_
   obtain rfl := Option.some.inj H
   exact J.doneS [] [] [0] [0] [0] (g1.2, g1.1) (vs := [.slice g1.1.1 s1.1.length g1.1.2]) (by kernel_rfl) (by kernel_rfl) (by kernel_rfl) (by kernel_rfl) (by kernel_rfl) (by decide)
 ·refine J.nilrow kd77 77 ?_
  exact J.conv2 [0, 3, 4] [0] [0] [0] (by kernel_rfl) (by kernel_rfl) (by kernel_rfl) (by kernel_rfl) (by decide) h_
end Go.Proofs.Ytlcbgmaajijbjaa.G
