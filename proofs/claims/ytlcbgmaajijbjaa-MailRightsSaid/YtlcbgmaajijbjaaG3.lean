/- Functions of the program as plain Lean, with their contracts (part 3); printed by a program of this session. -/
import Derived.Test.YtlcbgmaajijbjaaG2
set_option linter.unusedVariables false
set_option linter.unusedSimpArgs false
namespace Go.Proofs.Ytlcbgmaajijbjaa.G
open Go Go.RowKit Go.Hw
/-! ### haywain/haywainref15.Decode: function 17 -/
def haywainref15_Decode.l16 (K : Nat) (a0 : List Int) : Nat → ((List Int) × Int) → Option (List Int)
  | 0, _ => none
  | k + 1, s16 => cond (decide (s16.2 < (a0.length : Int))) ((cutO a0 s16.2 (a0.length : Int)).bind fun y7_2 => (haywainref02_TakeNum.f K (cutL a0 ((s16.2 : Int).toNat) (((a0.length : Int) : Int).toNat))).bind fun x7_3 => (appO 8 s16.1 ([x7_3.1] : List Int)).bind fun y8_3 => haywainref15_Decode.l16 K a0 k ((s16.1 ++ ([x7_3.1] : List Int)), (IntKind.wrap .i64 (s16.2 + 8)))) (some (s16.1))
def haywainref15_Decode.f (K : Nat) (a0 : List Int) : Option (S34 × Bool) := (remO (a0.length : Int) 8).bind fun z1_2 => cond (((a0.length : Int).tmod 8) != 0) (some (((⟨0, 0, 0, 0, 0, 0, 0, 0, ([] : List Int), ([] : List Int), ([] : List Int), (⟨0, 0, ([] : List Int), ([] : List Bool), ([] : List S77)⟩ : S27), ([] : List S77)⟩ : S34), false))) (cond (decide ((a0.length : Int) > 2400)) (some (((⟨0, 0, 0, 0, 0, 0, 0, 0, ([] : List Int), ([] : List Int), ([] : List Int), (⟨0, 0, ([] : List Int), ([] : List Bool), ([] : List S77)⟩ : S27), ([] : List S77)⟩ : S34), false))) ((haywainref15_Decode.l16 K a0 K (([] : List Int), 0) : Option (List Int)).bind fun o3 : (List Int) => (haywainref15_some.f K o3 0 8).bind fun x9_1 => (haywainref15_small.f K o3 8 6).bind fun x10_1 => cond (!x9_1.2) (some (((⟨0, 0, 0, 0, 0, 0, 0, 0, ([] : List Int), ([] : List Int), ([] : List Int), (⟨0, 0, ([] : List Int), ([] : List Bool), ([] : List S77)⟩ : S27), ([] : List S77)⟩ : S34), false))) (cond (decide (x10_1 < 0)) (some (((⟨0, 0, 0, 0, 0, 0, 0, 0, ([] : List Int), ([] : List Int), ([] : List Int), (⟨0, 0, ([] : List Int), ([] : List Bool), ([] : List S77)⟩ : S27), ([] : List S77)⟩ : S34), false))) ((idxO x9_1.1 0).bind fun x13_1 => (idxO x9_1.1 1).bind fun x13_4 => (idxO x9_1.1 2).bind fun x13_7 => (idxO x9_1.1 3).bind fun x13_10 => (idxO x9_1.1 4).bind fun x13_13 => (idxO x9_1.1 5).bind fun x13_16 => (idxO x9_1.1 6).bind fun x13_19 => (idxO x9_1.1 7).bind fun x13_22 => (haywainref15_some.f K o3 9 x10_1).bind fun x14_2 => (haywainref15_small.f K o3 (IntKind.wrap .i64 (9 + x10_1)) 5).bind fun x15_3 => cond (!x14_2.2) (some (((⟨0, 0, 0, 0, 0, 0, 0, 0, ([] : List Int), ([] : List Int), ([] : List Int), (⟨0, 0, ([] : List Int), ([] : List Bool), ([] : List S77)⟩ : S27), ([] : List S77)⟩ : S34), false))) (cond (decide (x15_3 < 0)) (some (((⟨0, 0, 0, 0, 0, 0, 0, 0, ([] : List Int), ([] : List Int), ([] : List Int), (⟨0, 0, ([] : List Int), ([] : List Bool), ([] : List S77)⟩ : S27), ([] : List S77)⟩ : S34), false))) ((haywainref15_some.f K o3 (IntKind.wrap .i64 (10 + x10_1)) x15_3).bind fun x18_4 => (haywainref15_some.f K o3 (IntKind.wrap .i64 ((IntKind.wrap .i64 (10 + x10_1)) + x15_3)) x15_3).bind fun x19_6 => cond (!x18_4.2) (some (((⟨0, 0, 0, 0, 0, 0, 0, 0, ([] : List Int), ([] : List Int), ([] : List Int), (⟨0, 0, ([] : List Int), ([] : List Bool), ([] : List S77)⟩ : S27), ([] : List S77)⟩ : S34), false))) (cond (!x19_6.2) (some (((⟨0, 0, 0, 0, 0, 0, 0, 0, ([] : List Int), ([] : List Int), ([] : List Int), (⟨0, 0, ([] : List Int), ([] : List Bool), ([] : List S77)⟩ : S27), ([] : List S77)⟩ : S34), false))) ((haywainref15_body.f K o3 (IntKind.wrap .i64 ((IntKind.wrap .i64 (10 + x10_1)) + (IntKind.wrap .i64 (2 * x15_3)))) (⟨x13_1, x13_4, x13_7, x13_10, x13_13, x13_16, x13_19, x13_22, x14_2.1, x18_4.1, x19_6.1, (⟨0, 0, ([] : List Int), ([] : List Bool), ([] : List S77)⟩ : S27), ([] : List S77)⟩ : S34)).bind fun x23_7 => cond (!x23_7.2) (some (((⟨0, 0, 0, 0, 0, 0, 0, 0, ([] : List Int), ([] : List Int), ([] : List Int), (⟨0, 0, ([] : List Int), ([] : List Bool), ([] : List S77)⟩ : S27), ([] : List S77)⟩ : S34), false))) ((haywainref15_Right.f K x23_7.1).bind fun x24_4 => cond (!x24_4) (some (((⟨0, 0, 0, 0, 0, 0, 0, 0, ([] : List Int), ([] : List Int), ([] : List Int), (⟨0, 0, ([] : List Int), ([] : List Bool), ([] : List S77)⟩ : S27), ([] : List S77)⟩ : S34), false))) (some ((x23_7.1, true))))))))))))
set_option maxRecDepth 100000 in
set_option maxHeartbeats 1000000 in
theorem haywainref15_Decode.con (K : Nat) (a0 : List Int) (h0 : Hd) (r : (S34 × Bool)) (X : Nat → Nat → Prop) (w : World) (hS : St X w [] [] [] [] [Rd (Kd.int .u8) h0.1 h0.2 a0] w) (H : haywainref15_Decode.f K a0 = some r) :
    Cn Try.prog 17 [.slice h0.1 a0.length h0.2] X w [] (fun i : Hd × Hd × Hd × Hd × Hd × Hd × Hd => .tuple #[.agg #[.int .i64 r.1.f0, .int .i64 r.1.f1, .int .i64 r.1.f2, .int .i64 r.1.f3, .int .i64 r.1.f4, .int .i64 r.1.f5, .int .i64 r.1.f6, .int .i64 r.1.f7, .slice i.1.1 r.1.f8.length i.1.2, .slice i.2.1.1 r.1.f9.length i.2.1.2, .slice i.2.2.1.1 r.1.f10.length i.2.2.1.2, .int .i64 r.1.f11.f0, .int .i64 r.1.f11.f1, .slice i.2.2.2.1.1 r.1.f11.f2.length i.2.2.2.1.2, .slice i.2.2.2.2.1.1 r.1.f11.f3.length i.2.2.2.2.1.2, .slice i.2.2.2.2.2.1.1 r.1.f11.f4.length i.2.2.2.2.2.1.2, .slice i.2.2.2.2.2.2.1 r.1.f12.length i.2.2.2.2.2.2.2], .bool r.2]) (fun i => []) (fun i => [mkRow (Kd.int .i64) 2 (.slice i.2.2.2.1.1 r.1.f11.f2.length i.2.2.2.1.2) r.1.f11.f2, mkRow Kd.bool 4 (.slice i.2.2.2.2.1.1 r.1.f11.f3.length i.2.2.2.2.1.2) r.1.f11.f3, mkRow kd77 77 (.slice i.2.2.2.2.2.1.1 r.1.f11.f4.length i.2.2.2.2.2.1.2) r.1.f11.f4, mkRow kd77 77 (.slice i.2.2.2.2.2.2.1 r.1.f12.length i.2.2.2.2.2.2.2) r.1.f12]) (fun i => [Rd (Kd.int .i64) i.1.1 i.1.2 r.1.f8, Rd (Kd.int .i64) i.2.1.1 i.2.1.2 r.1.f9, Rd (Kd.int .i64) i.2.2.1.1 i.2.2.1.2 r.1.f10]) := by
  refine Cn.of Try.func17 (by kernel_rfl) hS ?_
  unfold haywainref15_Decode.f at H
  refine J.seq (by kernel_rfl) ?_
  refine J.region (by kernel_rfl) ?_
  refine O.e (some 2) (Ev.alloc (t := 34) (z := .agg #[.int .i64 0, .int .i64 0, .int .i64 0, .int .i64 0, .int .i64 0, .int .i64 0, .int .i64 0, .int .i64 0, .slice none 0 0, .slice none 0 0, .slice none 0 0, .int .i64 0, .int .i64 0, .slice none 0 0, .slice none 0 0, .slice none 0 0, .slice none 0 0]) (by kernel_rfl) (by kernel_rfl)) (by kernel_rfl) (fun p0_0 => ?_)
  refine O.pure 1 [] [0, 2] [] (fr' := [(0, .slice h0.1 a0.length h0.2), (2, .pointer (some ⟨p0_0, 0, none⟩))]) (bx' := [⟨p0_0, [.int .i64 0, .int .i64 0, .int .i64 0, .int .i64 0, .int .i64 0, .int .i64 0, .int .i64 0, .int .i64 0, .slice none 0 0, .slice none 0 0, .slice none 0 0, .int .i64 0, .int .i64 0, .slice none 0 0, .slice none 0 0, .slice none 0 0, .slice none 0 0], 34⟩]) (by kernel_rfl) ?_
  refine O.nil (by kernel_rfl) ?_
  refine J.seq (by kernel_rfl) ?_
  refine J.seq (by kernel_rfl) ?_
  obtain ⟨z1_2, hz1_2, H⟩ := bindE H
  have hz1_2a := (remE hz1_2).1
  rcases condE H with ⟨hc1, H⟩ | ⟨hc1, H⟩
  · refine J.region (by kernel_rfl) ?_
    refine O.pure 2 [] [0, 2, 22] [] (fr' := [(0, .slice h0.1 a0.length h0.2), (2, .pointer (some ⟨p0_0, 0, none⟩)), (22, .int .i64 (a0.length : Int))]) (bx' := [⟨p0_0, [.int .i64 0, .int .i64 0, .int .i64 0, .int .i64 0, .int .i64 0, .int .i64 0, .int .i64 0, .int .i64 0, .slice none 0 0, .slice none 0 0, .slice none 0 0, .int .i64 0, .int .i64 0, .slice none 0 0, .slice none 0 0, .slice none 0 0, .slice none 0 0], 34⟩]) (by kernel_rfl) ?_
    refine O.q (v := .int .i64 ((a0.length : Int).tmod 8)) (some 23) (Qu.rem (t := 3) (t' := 3) (x := .tmp 22) (y := .const (.int .i64 8)) (a := (a0.length : Int)) (b := 8) (by kernel_rfl) (by kernel_rfl) (by kernel_rfl) hz1_2a) (by kernel_rfl) ?_
    refine O.q (v := .bool true) (some 24) (Qu.eqv (u := .bool (((a0.length : Int).tmod 8) != 0)) (v := .bool true) (0, 0) [] (by kernel_rfl) (congrArg Value.bool hc1)) (by kernel_rfl) ?_
    refine O.pure 5 [] [0, 2, 29] [] (fr' := [(0, .slice h0.1 a0.length h0.2), (2, .pointer (some ⟨p0_0, 0, none⟩)), (29, .bool true)]) (bx' := [⟨p0_0, [.int .i64 0, .int .i64 0, .int .i64 0, .int .i64 0, .int .i64 0, .int .i64 0, .int .i64 0, .int .i64 0, .slice none 0 0, .slice none 0 0, .slice none 0 0, .int .i64 0, .int .i64 0, .slice none 0 0, .slice none 0 0, .slice none 0 0, .slice none 0 0], 34⟩]) (by kernel_rfl) ?_
    refine O.nil (by kernel_rfl) ?_
    refine J.cond (o := .tmp 29) true (by kernel_rfl) (by kernel_rfl) ?_
    refine J.seq (by kernel_rfl) ?_
    refine J.region (by kernel_rfl) ?_
    refine O.pure 3 [(0, 0)] [2, 3] [p0_0, 0] (fr' := [(2, .pointer (some ⟨p0_0, 0, none⟩)), (3, .bool false)]) (bx' := [⟨p0_0, [.int .i64 0, .int .i64 0, .int .i64 0, .int .i64 0, .int .i64 0, .int .i64 0, .int .i64 0, .int .i64 0, .slice none 0 0, .slice none 0 0, .slice none 0 0, .int .i64 0, .int .i64 0, .slice none 0 0, .slice none 0 0, .slice none 0 0, .slice none 0 0], 34⟩]) (by kernel_rfl) ?_
    refine O.nil (by kernel_rfl) ?_
    obtain rfl := Option.some.inj H
    refine J.nilF (Kd.int .i64) ?_
    refine J.nilrow (Kd.int .i64) 2 ?_
    refine J.nilrow Kd.bool 4 ?_
    refine J.nilrow kd77 77 ?_
    refine J.nilrow kd77 77 ?_
    exact J.doneS [(0, 0)] [p0_0, 0] [0, 0, 0] [] [3, 2, 1, 0] ((none, 0), (none, 0), (none, 0), (none, 0), (none, 0), (none, 0), (none, 0)) (vs := [.agg #[.int .i64 0, .int .i64 0, .int .i64 0, .int .i64 0, .int .i64 0, .int .i64 0, .int .i64 0, .int .i64 0, .slice none 0 0, .slice none 0 0, .slice none 0 0, .int .i64 0, .int .i64 0, .slice none 0 0, .slice none 0 0, .slice none 0 0, .slice none 0 0], .bool false]) (by kernel_rfl) (by kernel_rfl) (by kernel_rfl) (by kernel_rfl) (by kernel_rfl) (by decide)
  · refine J.region (by kernel_rfl) ?_
    refine O.pure 2 [] [0, 2, 22] [] (fr' := [(0, .slice h0.1 a0.length h0.2), (2, .pointer (some ⟨p0_0, 0, none⟩)), (22, .int .i64 (a0.length : Int))]) (bx' := [⟨p0_0, [.int .i64 0, .int .i64 0, .int .i64 0, .int .i64 0, .int .i64 0, .int .i64 0, .int .i64 0, .int .i64 0, .slice none 0 0, .slice none 0 0, .slice none 0 0, .int .i64 0, .int .i64 0, .slice none 0 0, .slice none 0 0, .slice none 0 0, .slice none 0 0], 34⟩]) (by kernel_rfl) ?_
    refine O.q (v := .int .i64 ((a0.length : Int).tmod 8)) (some 23) (Qu.rem (t := 3) (t' := 3) (x := .tmp 22) (y := .const (.int .i64 8)) (a := (a0.length : Int)) (b := 8) (by kernel_rfl) (by kernel_rfl) (by kernel_rfl) hz1_2a) (by kernel_rfl) ?_
    refine O.q (v := .bool false) (some 24) (Qu.eqv (u := .bool (((a0.length : Int).tmod 8) != 0)) (v := .bool false) (0, 0) [] (by kernel_rfl) (congrArg Value.bool hc1)) (by kernel_rfl) ?_
    refine O.pure 5 [] [0, 2, 29] [] (fr' := [(0, .slice h0.1 a0.length h0.2), (2, .pointer (some ⟨p0_0, 0, none⟩)), (29, .bool (decide ((a0.length : Int) > 2400)))]) (bx' := [⟨p0_0, [.int .i64 0, .int .i64 0, .int .i64 0, .int .i64 0, .int .i64 0, .int .i64 0, .int .i64 0, .int .i64 0, .slice none 0 0, .slice none 0 0, .slice none 0 0, .int .i64 0, .int .i64 0, .slice none 0 0, .slice none 0 0, .slice none 0 0, .slice none 0 0], 34⟩]) (by kernel_rfl) ?_
    refine O.nil (by kernel_rfl) ?_
    rcases condE H with ⟨hc2, H⟩ | ⟨hc2, H⟩
    · refine J.condT (x := .tmp 29) (t := (decide ((a0.length : Int) > 2400))) (by kernel_rfl) (by kernel_rfl) hc2 ?_
      refine J.seq (by kernel_rfl) ?_
      refine J.region (by kernel_rfl) ?_
      refine O.pure 3 [(0, 0)] [2, 3] [p0_0, 0] (fr' := [(2, .pointer (some ⟨p0_0, 0, none⟩)), (3, .bool false)]) (bx' := [⟨p0_0, [.int .i64 0, .int .i64 0, .int .i64 0, .int .i64 0, .int .i64 0, .int .i64 0, .int .i64 0, .int .i64 0, .slice none 0 0, .slice none 0 0, .slice none 0 0, .int .i64 0, .int .i64 0, .slice none 0 0, .slice none 0 0, .slice none 0 0, .slice none 0 0], 34⟩]) (by kernel_rfl) ?_
      refine O.nil (by kernel_rfl) ?_
      obtain rfl := Option.some.inj H
      refine J.nilF (Kd.int .i64) ?_
      refine J.nilrow (Kd.int .i64) 2 ?_
      refine J.nilrow Kd.bool 4 ?_
      refine J.nilrow kd77 77 ?_
      refine J.nilrow kd77 77 ?_
      exact J.doneS [(0, 0)] [p0_0, 0] [0, 0, 0] [] [3, 2, 1, 0] ((none, 0), (none, 0), (none, 0), (none, 0), (none, 0), (none, 0), (none, 0)) (vs := [.agg #[.int .i64 0, .int .i64 0, .int .i64 0, .int .i64 0, .int .i64 0, .int .i64 0, .int .i64 0, .int .i64 0, .slice none 0 0, .slice none 0 0, .slice none 0 0, .int .i64 0, .int .i64 0, .slice none 0 0, .slice none 0 0, .slice none 0 0, .slice none 0 0], .bool false]) (by kernel_rfl) (by kernel_rfl) (by kernel_rfl) (by kernel_rfl) (by kernel_rfl) (by decide)
    · refine J.condF (x := .tmp 29) (t := (decide ((a0.length : Int) > 2400))) (by kernel_rfl) (by kernel_rfl) hc2 ?_
      refine J.skip (by kernel_rfl) ?_
      refine J.seq (by kernel_rfl) ?_
      refine J.region (by kernel_rfl) ?_
      refine O.pure 1 [] [0, 2, 4] [] (fr' := [(0, .slice h0.1 a0.length h0.2), (2, .pointer (some ⟨p0_0, 0, none⟩)), (4, .slice none 0 0)]) (bx' := [⟨p0_0, [.int .i64 0, .int .i64 0, .int .i64 0, .int .i64 0, .int .i64 0, .int .i64 0, .int .i64 0, .int .i64 0, .slice none 0 0, .slice none 0 0, .slice none 0 0, .int .i64 0, .int .i64 0, .slice none 0 0, .slice none 0 0, .slice none 0 0, .slice none 0 0], 34⟩]) (by kernel_rfl) ?_
      refine O.nil (by kernel_rfl) ?_
      refine J.seq (by kernel_rfl) ?_
      refine J.seq (by kernel_rfl) ?_
      refine J.region (by kernel_rfl) ?_
      refine O.pure 1 [] [0, 2, 4, 5] [] (fr' := [(0, .slice h0.1 a0.length h0.2), (2, .pointer (some ⟨p0_0, 0, none⟩)), (4, .slice none 0 0), (5, .int .i64 0)]) (bx' := [⟨p0_0, [.int .i64 0, .int .i64 0, .int .i64 0, .int .i64 0, .int .i64 0, .int .i64 0, .int .i64 0, .int .i64 0, .slice none 0 0, .slice none 0 0, .slice none 0 0, .int .i64 0, .int .i64 0, .slice none 0 0, .slice none 0 0, .slice none 0 0, .slice none 0 0], 34⟩]) (by kernel_rfl) ?_
      refine O.nil (by kernel_rfl) ?_
      refine J.join (α := (List Int)) (γ := Hd) (fun o3 q3 => [(2, .pointer (some ⟨p0_0, 0, none⟩)), (4, .slice q3.1 o3.length q3.2)]) (fun o3 q3 => St X w [] [⟨p0_0, [.int .i64 0, .int .i64 0, .int .i64 0, .int .i64 0, .int .i64 0, .int .i64 0, .int .i64 0, .int .i64 0, .slice none 0 0, .slice none 0 0, .slice none 0 0, .int .i64 0, .int .i64 0, .slice none 0 0, .slice none 0 0, .slice none 0 0, .slice none 0 0], 34⟩] [mkRow (Kd.int .i64) 2 (.slice q3.1 o3.length q3.2) o3] [] [Rd (Kd.int .u8) h0.1 h0.2 a0]) H (fun o3 q3 H => ?_) (fun o3 H hj3 => ?_)
      · refine J.seq (by kernel_rfl) ?_
        obtain ⟨x9_1, hx9_1, H⟩ := bindE H
        refine J.region (by kernel_rfl) ?_
        refine O.pure 1 [] [2, 4, 49] [] (fr' := [(2, .pointer (some ⟨p0_0, 0, none⟩)), (4, .slice q3.1 o3.length q3.2), (49, .slice q3.1 o3.length q3.2)]) (bx' := [⟨p0_0, [.int .i64 0, .int .i64 0, .int .i64 0, .int .i64 0, .int .i64 0, .int .i64 0, .int .i64 0, .int .i64 0, .slice none 0 0, .slice none 0 0, .slice none 0 0, .int .i64 0, .int .i64 0, .slice none 0 0, .slice none 0 0, .slice none 0 0, .slice none 0 0], 34⟩]) (by kernel_rfl) ?_
        refine O.e (some 50) (Ev.callLb (xs1 := [.tmp 49, .const (.int .i64 0), .const (.int .i64 8)]) [0] (fun w hS => (hS.rowsel [0] rfl (by decide)).freezeL (hh := q3) (m := o3.length) (xs := o3) rfl) (by kernel_rfl) (by kernel_rfl) (fun _ q hq _ _ _ h => by obtain rfl := List.mem_singleton.1 hq; exact h) (fun w hS => haywainref15_some.con K o3 0 8 q3  _ _ w hS hx9_1)) (by kernel_rfl) (fun p9_1 => ?_)
        refine O.pure 5 [] [2, 4, 8, 9] [] (fr' := [(2, .pointer (some ⟨p0_0, 0, none⟩)), (4, .slice q3.1 o3.length q3.2), (8, .slice p9_1.1 x9_1.1.length p9_1.2), (9, .bool x9_1.2)]) (bx' := [⟨p0_0, [.int .i64 0, .int .i64 0, .int .i64 0, .int .i64 0, .int .i64 0, .int .i64 0, .int .i64 0, .int .i64 0, .slice none 0 0, .slice none 0 0, .slice none 0 0, .int .i64 0, .int .i64 0, .slice none 0 0, .slice none 0 0, .slice none 0 0, .slice none 0 0], 34⟩]) (by kernel_rfl) ?_
        refine O.nil (by kernel_rfl) ?_
        refine J.seq (by kernel_rfl) ?_
        obtain ⟨x10_1, hx10_1, H⟩ := bindE H
        refine J.region (by kernel_rfl) ?_
        refine O.pure 1 [] [2, 4, 8, 9, 53] [] (fr' := [(2, .pointer (some ⟨p0_0, 0, none⟩)), (4, .slice q3.1 o3.length q3.2), (8, .slice p9_1.1 x9_1.1.length p9_1.2), (9, .bool x9_1.2), (53, .slice q3.1 o3.length q3.2)]) (bx' := [⟨p0_0, [.int .i64 0, .int .i64 0, .int .i64 0, .int .i64 0, .int .i64 0, .int .i64 0, .int .i64 0, .int .i64 0, .slice none 0 0, .slice none 0 0, .slice none 0 0, .int .i64 0, .int .i64 0, .slice none 0 0, .slice none 0 0, .slice none 0 0, .slice none 0 0], 34⟩]) (by kernel_rfl) ?_
        refine O.e (some 54) (Ev.callLb (xs1 := [.tmp 53, .const (.int .i64 8), .const (.int .i64 6)]) [0] (fun w hS => (hS.rowsel [1, 0] rfl (by decide)).freezeL (hh := q3) (m := o3.length) (xs := o3) rfl) (by kernel_rfl) (by kernel_rfl) (fun _ q hq => by cases hq) (fun w hS => haywainref15_small.con K o3 8 6 q3  _ _ w hS hx10_1)) (by kernel_rfl) (fun _ => ?_)
        refine O.pure 1 [] [2, 4, 8, 9, 10] [] (fr' := [(2, .pointer (some ⟨p0_0, 0, none⟩)), (4, .slice q3.1 o3.length q3.2), (8, .slice p9_1.1 x9_1.1.length p9_1.2), (9, .bool x9_1.2), (10, .int .i64 x10_1)]) (bx' := [⟨p0_0, [.int .i64 0, .int .i64 0, .int .i64 0, .int .i64 0, .int .i64 0, .int .i64 0, .int .i64 0, .int .i64 0, .slice none 0 0, .slice none 0 0, .slice none 0 0, .int .i64 0, .int .i64 0, .slice none 0 0, .slice none 0 0, .slice none 0 0, .slice none 0 0], 34⟩]) (by kernel_rfl) ?_
        refine O.nil (by kernel_rfl) ?_
        refine J.seq (by kernel_rfl) ?_
        refine J.seq (by kernel_rfl) ?_
        rcases condE H with ⟨hc8, H⟩ | ⟨hc8, H⟩
        · refine J.region (by kernel_rfl) ?_
          refine O.pure 1 [] [2, 4, 8, 10, 55] [] (fr' := [(2, .pointer (some ⟨p0_0, 0, none⟩)), (4, .slice q3.1 o3.length q3.2), (8, .slice p9_1.1 x9_1.1.length p9_1.2), (10, .int .i64 x10_1), (55, .bool x9_1.2)]) (bx' := [⟨p0_0, [.int .i64 0, .int .i64 0, .int .i64 0, .int .i64 0, .int .i64 0, .int .i64 0, .int .i64 0, .int .i64 0, .slice none 0 0, .slice none 0 0, .slice none 0 0, .int .i64 0, .int .i64 0, .slice none 0 0, .slice none 0 0, .slice none 0 0, .slice none 0 0], 34⟩]) (by kernel_rfl) ?_
          refine O.q (v := .bool true) (some 56) (Qu.eqv (u := .bool (!x9_1.2)) (v := .bool true) (0, 0) [] (by kernel_rfl) (congrArg Value.bool hc8)) (by kernel_rfl) ?_
          refine O.pure 4 [] [2, 4, 8, 10, 60] [] (fr' := [(2, .pointer (some ⟨p0_0, 0, none⟩)), (4, .slice q3.1 o3.length q3.2), (8, .slice p9_1.1 x9_1.1.length p9_1.2), (10, .int .i64 x10_1), (60, .bool true)]) (bx' := [⟨p0_0, [.int .i64 0, .int .i64 0, .int .i64 0, .int .i64 0, .int .i64 0, .int .i64 0, .int .i64 0, .int .i64 0, .slice none 0 0, .slice none 0 0, .slice none 0 0, .int .i64 0, .int .i64 0, .slice none 0 0, .slice none 0 0, .slice none 0 0, .slice none 0 0], 34⟩]) (by kernel_rfl) ?_
          refine O.nil (by kernel_rfl) ?_
          refine J.cond (o := .tmp 60) true (by kernel_rfl) (by kernel_rfl) ?_
          refine J.seq (by kernel_rfl) ?_
          refine J.region (by kernel_rfl) ?_
          refine O.pure 3 [(0, 0)] [2, 3] [p0_0, 0] (fr' := [(2, .pointer (some ⟨p0_0, 0, none⟩)), (3, .bool false)]) (bx' := [⟨p0_0, [.int .i64 0, .int .i64 0, .int .i64 0, .int .i64 0, .int .i64 0, .int .i64 0, .int .i64 0, .int .i64 0, .slice none 0 0, .slice none 0 0, .slice none 0 0, .int .i64 0, .int .i64 0, .slice none 0 0, .slice none 0 0, .slice none 0 0, .slice none 0 0], 34⟩]) (by kernel_rfl) ?_
          refine O.nil (by kernel_rfl) ?_
          obtain rfl := Option.some.inj H
          refine J.nilF (Kd.int .i64) ?_
          refine J.nilrow (Kd.int .i64) 2 ?_
          refine J.nilrow Kd.bool 4 ?_
          refine J.nilrow kd77 77 ?_
          refine J.nilrow kd77 77 ?_
          exact J.doneS [(0, 0)] [p0_0, 0] [0, 0, 0] [] [3, 2, 1, 0] ((none, 0), (none, 0), (none, 0), (none, 0), (none, 0), (none, 0), (none, 0)) (vs := [.agg #[.int .i64 0, .int .i64 0, .int .i64 0, .int .i64 0, .int .i64 0, .int .i64 0, .int .i64 0, .int .i64 0, .slice none 0 0, .slice none 0 0, .slice none 0 0, .int .i64 0, .int .i64 0, .slice none 0 0, .slice none 0 0, .slice none 0 0, .slice none 0 0], .bool false]) (by kernel_rfl) (by kernel_rfl) (by kernel_rfl) (by kernel_rfl) (by kernel_rfl) (by decide)
        · refine J.region (by kernel_rfl) ?_
          refine O.pure 1 [] [2, 4, 8, 10, 55] [] (fr' := [(2, .pointer (some ⟨p0_0, 0, none⟩)), (4, .slice q3.1 o3.length q3.2), (8, .slice p9_1.1 x9_1.1.length p9_1.2), (10, .int .i64 x10_1), (55, .bool x9_1.2)]) (bx' := [⟨p0_0, [.int .i64 0, .int .i64 0, .int .i64 0, .int .i64 0, .int .i64 0, .int .i64 0, .int .i64 0, .int .i64 0, .slice none 0 0, .slice none 0 0, .slice none 0 0, .int .i64 0, .int .i64 0, .slice none 0 0, .slice none 0 0, .slice none 0 0, .slice none 0 0], 34⟩]) (by kernel_rfl) ?_
          refine O.q (v := .bool false) (some 56) (Qu.eqv (u := .bool (!x9_1.2)) (v := .bool false) (0, 0) [] (by kernel_rfl) (congrArg Value.bool hc8)) (by kernel_rfl) ?_
          refine O.pure 4 [] [2, 4, 8, 10, 60] [] (fr' := [(2, .pointer (some ⟨p0_0, 0, none⟩)), (4, .slice q3.1 o3.length q3.2), (8, .slice p9_1.1 x9_1.1.length p9_1.2), (10, .int .i64 x10_1), (60, .bool (decide (x10_1 < 0)))]) (bx' := [⟨p0_0, [.int .i64 0, .int .i64 0, .int .i64 0, .int .i64 0, .int .i64 0, .int .i64 0, .int .i64 0, .int .i64 0, .slice none 0 0, .slice none 0 0, .slice none 0 0, .int .i64 0, .int .i64 0, .slice none 0 0, .slice none 0 0, .slice none 0 0, .slice none 0 0], 34⟩]) (by kernel_rfl) ?_
          refine O.nil (by kernel_rfl) ?_
          rcases condE H with ⟨hc9, H⟩ | ⟨hc9, H⟩
          · refine J.condT (x := .tmp 60) (t := (decide (x10_1 < 0))) (by kernel_rfl) (by kernel_rfl) hc9 ?_
            refine J.seq (by kernel_rfl) ?_
            refine J.region (by kernel_rfl) ?_
            refine O.pure 3 [(0, 0)] [2, 3] [p0_0, 0] (fr' := [(2, .pointer (some ⟨p0_0, 0, none⟩)), (3, .bool false)]) (bx' := [⟨p0_0, [.int .i64 0, .int .i64 0, .int .i64 0, .int .i64 0, .int .i64 0, .int .i64 0, .int .i64 0, .int .i64 0, .slice none 0 0, .slice none 0 0, .slice none 0 0, .int .i64 0, .int .i64 0, .slice none 0 0, .slice none 0 0, .slice none 0 0, .slice none 0 0], 34⟩]) (by kernel_rfl) ?_
            refine O.nil (by kernel_rfl) ?_
            obtain rfl := Option.some.inj H
            refine J.nilF (Kd.int .i64) ?_
            refine J.nilrow (Kd.int .i64) 2 ?_
            refine J.nilrow Kd.bool 4 ?_
            refine J.nilrow kd77 77 ?_
            refine J.nilrow kd77 77 ?_
            exact J.doneS [(0, 0)] [p0_0, 0] [0, 0, 0] [] [3, 2, 1, 0] ((none, 0), (none, 0), (none, 0), (none, 0), (none, 0), (none, 0), (none, 0)) (vs := [.agg #[.int .i64 0, .int .i64 0, .int .i64 0, .int .i64 0, .int .i64 0, .int .i64 0, .int .i64 0, .int .i64 0, .slice none 0 0, .slice none 0 0, .slice none 0 0, .int .i64 0, .int .i64 0, .slice none 0 0, .slice none 0 0, .slice none 0 0, .slice none 0 0], .bool false]) (by kernel_rfl) (by kernel_rfl) (by kernel_rfl) (by kernel_rfl) (by kernel_rfl) (by decide)
          · refine J.condF (x := .tmp 60) (t := (decide (x10_1 < 0))) (by kernel_rfl) (by kernel_rfl) hc9 ?_
            refine J.skip (by kernel_rfl) ?_
            refine J.seq (by kernel_rfl) ?_
            obtain ⟨x13_1, hx13_1, H⟩ := bindE H
            obtain ⟨hx13_1a, hx13_1⟩ := idxE hx13_1
            obtain ⟨x13_4, hx13_4, H⟩ := bindE H
            obtain ⟨hx13_4a, hx13_4⟩ := idxE hx13_4
            obtain ⟨x13_7, hx13_7, H⟩ := bindE H
            obtain ⟨hx13_7a, hx13_7⟩ := idxE hx13_7
            obtain ⟨x13_10, hx13_10, H⟩ := bindE H
            obtain ⟨hx13_10a, hx13_10⟩ := idxE hx13_10
            obtain ⟨x13_13, hx13_13, H⟩ := bindE H
            obtain ⟨hx13_13a, hx13_13⟩ := idxE hx13_13
            obtain ⟨x13_16, hx13_16, H⟩ := bindE H
            obtain ⟨hx13_16a, hx13_16⟩ := idxE hx13_16
            obtain ⟨x13_19, hx13_19, H⟩ := bindE H
            obtain ⟨hx13_19a, hx13_19⟩ := idxE hx13_19
            obtain ⟨x13_22, hx13_22, H⟩ := bindE H
            obtain ⟨hx13_22a, hx13_22⟩ := idxE hx13_22
            refine J.mono (fun w hS => hS.freezeH (h := p9_1) (xs := x9_1.1)) ?_
            refine J.open (d := (Kd.int .i64)) (h := p9_1) (i := 0) 0 rfl hx13_1 (Lay.int _ _) (fun p13_1 hp13_1A => ?_)
            refine J.open (d := (Kd.int .i64)) (h := p9_1) (i := 1) 0 rfl hx13_4 (Lay.int _ _) (fun p13_4 hp13_4A => ?_)
            refine J.open (d := (Kd.int .i64)) (h := p9_1) (i := 2) 0 rfl hx13_7 (Lay.int _ _) (fun p13_7 hp13_7A => ?_)
            refine J.open (d := (Kd.int .i64)) (h := p9_1) (i := 3) 0 rfl hx13_10 (Lay.int _ _) (fun p13_10 hp13_10A => ?_)
            refine J.open (d := (Kd.int .i64)) (h := p9_1) (i := 4) 0 rfl hx13_13 (Lay.int _ _) (fun p13_13 hp13_13A => ?_)
            refine J.open (d := (Kd.int .i64)) (h := p9_1) (i := 5) 0 rfl hx13_16 (Lay.int _ _) (fun p13_16 hp13_16A => ?_)
            refine J.open (d := (Kd.int .i64)) (h := p9_1) (i := 6) 0 rfl hx13_19 (Lay.int _ _) (fun p13_19 hp13_19A => ?_)
            refine J.open (d := (Kd.int .i64)) (h := p9_1) (i := 7) 0 rfl hx13_22 (Lay.int _ _) (fun p13_22 hp13_22A => ?_)
            refine J.drawS (by kernel_rfl) [(0, some 62, .slice p9_1.1 x9_1.1.length p9_1.2), (2, some 64, .int .i64 x13_1), (3, some 65, .slice p9_1.1 x9_1.1.length p9_1.2), (5, some 67, .int .i64 x13_4), (6, some 68, .slice p9_1.1 x9_1.1.length p9_1.2), (8, some 70, .int .i64 x13_7), (9, some 71, .slice p9_1.1 x9_1.1.length p9_1.2), (11, some 73, .int .i64 x13_10), (12, some 74, .slice p9_1.1 x9_1.1.length p9_1.2), (14, some 76, .int .i64 x13_13), (15, some 77, .slice p9_1.1 x9_1.1.length p9_1.2), (17, some 79, .int .i64 x13_16), (18, some 80, .slice p9_1.1 x9_1.1.length p9_1.2), (20, some 82, .int .i64 x13_19), (21, some 83, .slice p9_1.1 x9_1.1.length p9_1.2), (23, some 85, .int .i64 x13_22), (24, some 86, .agg #[.int .i64 x13_1, .int .i64 x13_4, .int .i64 x13_7, .int .i64 x13_10, .int .i64 x13_13, .int .i64 x13_16, .int .i64 x13_19, .int .i64 x13_22, .slice none 0 0, .slice none 0 0, .slice none 0 0, .int .i64 0, .int .i64 0, .slice none 0 0, .slice none 0 0, .slice none 0 0, .slice none 0 0]), (1, some 63, .pointer (some ⟨p13_1.1, p13_1.2.1 + (0 : Int).toNat * 1, none⟩)), (4, some 66, .pointer (some ⟨p13_4.1, p13_4.2.1 + (1 : Int).toNat * 1, none⟩)), (7, some 69, .pointer (some ⟨p13_7.1, p13_7.2.1 + (2 : Int).toNat * 1, none⟩)), (10, some 72, .pointer (some ⟨p13_10.1, p13_10.2.1 + (3 : Int).toNat * 1, none⟩)), (13, some 75, .pointer (some ⟨p13_13.1, p13_13.2.1 + (4 : Int).toNat * 1, none⟩)), (16, some 78, .pointer (some ⟨p13_16.1, p13_16.2.1 + (5 : Int).toNat * 1, none⟩)), (19, some 81, .pointer (some ⟨p13_19.1, p13_19.2.1 + (6 : Int).toNat * 1, none⟩)), (22, some 84, .pointer (some ⟨p13_22.1, p13_22.2.1 + (7 : Int).toNat * 1, none⟩))] ([0, 2, 3, 5, 6, 8, 9, 11, 12, 14, 15, 17, 18, 20, 21, 23, 24] ++ [1, 4, 7, 10, 13, 16, 19, 22]) (by kernel_rfl) ?_
            refine D.mid (cs := [25]) [0, 2, 3, 5, 6, 8, 9, 11, 12, 14, 15, 17, 18, 20, 21, 23, 24] [1, 4, 7, 10, 13, 16, 19, 22] [(8, 0), (7, 0), (6, 0), (5, 0), (4, 0), (3, 0), (2, 0), (1, 0)] [p13_1.1, p13_1.2.1 + (0 : Int).toNat * 1, p13_4.1, p13_4.2.1 + (1 : Int).toNat * 1, p13_7.1, p13_7.2.1 + (2 : Int).toNat * 1, p13_10.1, p13_10.2.1 + (3 : Int).toNat * 1, p13_13.1, p13_13.2.1 + (4 : Int).toNat * 1, p13_16.1, p13_16.2.1 + (5 : Int).toNat * 1, p13_19.1, p13_19.2.1 + (6 : Int).toNat * 1, p13_22.1, p13_22.2.1 + (7 : Int).toNat * 1] (by kernel_rfl) (by kernel_rfl) (⟨QuAt.mk (v := .pointer (some ⟨p13_1.1, p13_1.2.1 + (0 : Int).toNat * 1, none⟩)) (some 63) (by kernel_rfl) (by kernel_rfl) (Qu.idx (t := 22) (x := .tmp 62) (y := .const (.int .i64 0)) (c := p9_1.2) (kk := .i64) (sz := 1) (by kernel_rfl) (by kernel_rfl) (by kernel_rfl) (by kernel_rfl) hx13_1a (idx_lt hx13_1) hp13_1A), QuAt.mk (v := .pointer (some ⟨p13_4.1, p13_4.2.1 + (1 : Int).toNat * 1, none⟩)) (some 66) (by kernel_rfl) (by kernel_rfl) (Qu.idx (t := 22) (x := .tmp 65) (y := .const (.int .i64 1)) (c := p9_1.2) (kk := .i64) (sz := 1) (by kernel_rfl) (by kernel_rfl) (by kernel_rfl) (by kernel_rfl) hx13_4a (idx_lt hx13_4) hp13_4A), QuAt.mk (v := .pointer (some ⟨p13_7.1, p13_7.2.1 + (2 : Int).toNat * 1, none⟩)) (some 69) (by kernel_rfl) (by kernel_rfl) (Qu.idx (t := 22) (x := .tmp 68) (y := .const (.int .i64 2)) (c := p9_1.2) (kk := .i64) (sz := 1) (by kernel_rfl) (by kernel_rfl) (by kernel_rfl) (by kernel_rfl) hx13_7a (idx_lt hx13_7) hp13_7A), QuAt.mk (v := .pointer (some ⟨p13_10.1, p13_10.2.1 + (3 : Int).toNat * 1, none⟩)) (some 72) (by kernel_rfl) (by kernel_rfl) (Qu.idx (t := 22) (x := .tmp 71) (y := .const (.int .i64 3)) (c := p9_1.2) (kk := .i64) (sz := 1) (by kernel_rfl) (by kernel_rfl) (by kernel_rfl) (by kernel_rfl) hx13_10a (idx_lt hx13_10) hp13_10A), QuAt.mk (v := .pointer (some ⟨p13_13.1, p13_13.2.1 + (4 : Int).toNat * 1, none⟩)) (some 75) (by kernel_rfl) (by kernel_rfl) (Qu.idx (t := 22) (x := .tmp 74) (y := .const (.int .i64 4)) (c := p9_1.2) (kk := .i64) (sz := 1) (by kernel_rfl) (by kernel_rfl) (by kernel_rfl) (by kernel_rfl) hx13_13a (idx_lt hx13_13) hp13_13A), QuAt.mk (v := .pointer (some ⟨p13_16.1, p13_16.2.1 + (5 : Int).toNat * 1, none⟩)) (some 78) (by kernel_rfl) (by kernel_rfl) (Qu.idx (t := 22) (x := .tmp 77) (y := .const (.int .i64 5)) (c := p9_1.2) (kk := .i64) (sz := 1) (by kernel_rfl) (by kernel_rfl) (by kernel_rfl) (by kernel_rfl) hx13_16a (idx_lt hx13_16) hp13_16A), QuAt.mk (v := .pointer (some ⟨p13_19.1, p13_19.2.1 + (6 : Int).toNat * 1, none⟩)) (some 81) (by kernel_rfl) (by kernel_rfl) (Qu.idx (t := 22) (x := .tmp 80) (y := .const (.int .i64 6)) (c := p9_1.2) (kk := .i64) (sz := 1) (by kernel_rfl) (by kernel_rfl) (by kernel_rfl) (by kernel_rfl) hx13_19a (idx_lt hx13_19) hp13_19A), QuAt.mk (v := .pointer (some ⟨p13_22.1, p13_22.2.1 + (7 : Int).toNat * 1, none⟩)) (some 84) (by kernel_rfl) (by kernel_rfl) (Qu.idx (t := 22) (x := .tmp 83) (y := .const (.int .i64 7)) (c := p9_1.2) (kk := .i64) (sz := 1) (by kernel_rfl) (by kernel_rfl) (by kernel_rfl) (by kernel_rfl) hx13_22a (idx_lt hx13_22) hp13_22A), trivial⟩) (by kernel_rfl) ⟨?_, trivial⟩
            refine EvStep.mk (some 11) (new := fun p13_25 => []) ([0, 2, 3, 5, 6, 8, 9, 11, 12, 14, 15, 17, 18, 20, 21, 23, 24] ++ [1, 4, 7, 10, 13, 16, 19, 22]) (by kernel_rfl) (Ev.alloc (t := 34) (z := .agg #[.int .i64 0, .int .i64 0, .int .i64 0, .int .i64 0, .int .i64 0, .int .i64 0, .int .i64 0, .int .i64 0, .slice none 0 0, .slice none 0 0, .slice none 0 0, .int .i64 0, .int .i64 0, .slice none 0 0, .slice none 0 0, .slice none 0 0, .slice none 0 0]) (by kernel_rfl) (by kernel_rfl)) (fun p13_25 => by kernel_rfl) (fun p13_25 => ?_)
            refine D.mid (cs := [26]) [0, 2, 3, 5, 6, 8, 9, 11, 12, 14, 15, 17, 18, 20, 21, 23, 24] [1, 4, 7, 10, 13, 16, 19, 22] [(9, 0), (8, 0), (7, 0), (6, 0), (5, 0), (4, 0), (3, 0), (2, 0)] [p13_1.1, p13_1.2.1 + (0 : Int).toNat * 1, p13_4.1, p13_4.2.1 + (1 : Int).toNat * 1, p13_7.1, p13_7.2.1 + (2 : Int).toNat * 1, p13_10.1, p13_10.2.1 + (3 : Int).toNat * 1, p13_13.1, p13_13.2.1 + (4 : Int).toNat * 1, p13_16.1, p13_16.2.1 + (5 : Int).toNat * 1, p13_19.1, p13_19.2.1 + (6 : Int).toNat * 1, p13_22.1, p13_22.2.1 + (7 : Int).toNat * 1] (by kernel_rfl) (by kernel_rfl) (⟨QuAt.mk (v := .pointer (some ⟨p13_1.1, p13_1.2.1 + (0 : Int).toNat * 1, none⟩)) (some 63) (by kernel_rfl) (by kernel_rfl) (Qu.idx (t := 22) (x := .tmp 62) (y := .const (.int .i64 0)) (c := p9_1.2) (kk := .i64) (sz := 1) (by kernel_rfl) (by kernel_rfl) (by kernel_rfl) (by kernel_rfl) hx13_1a (idx_lt hx13_1) hp13_1A), QuAt.mk (v := .pointer (some ⟨p13_4.1, p13_4.2.1 + (1 : Int).toNat * 1, none⟩)) (some 66) (by kernel_rfl) (by kernel_rfl) (Qu.idx (t := 22) (x := .tmp 65) (y := .const (.int .i64 1)) (c := p9_1.2) (kk := .i64) (sz := 1) (by kernel_rfl) (by kernel_rfl) (by kernel_rfl) (by kernel_rfl) hx13_4a (idx_lt hx13_4) hp13_4A), QuAt.mk (v := .pointer (some ⟨p13_7.1, p13_7.2.1 + (2 : Int).toNat * 1, none⟩)) (some 69) (by kernel_rfl) (by kernel_rfl) (Qu.idx (t := 22) (x := .tmp 68) (y := .const (.int .i64 2)) (c := p9_1.2) (kk := .i64) (sz := 1) (by kernel_rfl) (by kernel_rfl) (by kernel_rfl) (by kernel_rfl) hx13_7a (idx_lt hx13_7) hp13_7A), QuAt.mk (v := .pointer (some ⟨p13_10.1, p13_10.2.1 + (3 : Int).toNat * 1, none⟩)) (some 72) (by kernel_rfl) (by kernel_rfl) (Qu.idx (t := 22) (x := .tmp 71) (y := .const (.int .i64 3)) (c := p9_1.2) (kk := .i64) (sz := 1) (by kernel_rfl) (by kernel_rfl) (by kernel_rfl) (by kernel_rfl) hx13_10a (idx_lt hx13_10) hp13_10A), QuAt.mk (v := .pointer (some ⟨p13_13.1, p13_13.2.1 + (4 : Int).toNat * 1, none⟩)) (some 75) (by kernel_rfl) (by kernel_rfl) (Qu.idx (t := 22) (x := .tmp 74) (y := .const (.int .i64 4)) (c := p9_1.2) (kk := .i64) (sz := 1) (by kernel_rfl) (by kernel_rfl) (by kernel_rfl) (by kernel_rfl) hx13_13a (idx_lt hx13_13) hp13_13A), QuAt.mk (v := .pointer (some ⟨p13_16.1, p13_16.2.1 + (5 : Int).toNat * 1, none⟩)) (some 78) (by kernel_rfl) (by kernel_rfl) (Qu.idx (t := 22) (x := .tmp 77) (y := .const (.int .i64 5)) (c := p9_1.2) (kk := .i64) (sz := 1) (by kernel_rfl) (by kernel_rfl) (by kernel_rfl) (by kernel_rfl) hx13_16a (idx_lt hx13_16) hp13_16A), QuAt.mk (v := .pointer (some ⟨p13_19.1, p13_19.2.1 + (6 : Int).toNat * 1, none⟩)) (some 81) (by kernel_rfl) (by kernel_rfl) (Qu.idx (t := 22) (x := .tmp 80) (y := .const (.int .i64 6)) (c := p9_1.2) (kk := .i64) (sz := 1) (by kernel_rfl) (by kernel_rfl) (by kernel_rfl) (by kernel_rfl) hx13_19a (idx_lt hx13_19) hp13_19A), QuAt.mk (v := .pointer (some ⟨p13_22.1, p13_22.2.1 + (7 : Int).toNat * 1, none⟩)) (some 84) (by kernel_rfl) (by kernel_rfl) (Qu.idx (t := 22) (x := .tmp 83) (y := .const (.int .i64 7)) (c := p9_1.2) (kk := .i64) (sz := 1) (by kernel_rfl) (by kernel_rfl) (by kernel_rfl) (by kernel_rfl) hx13_22a (idx_lt hx13_22) hp13_22A), trivial⟩) (by kernel_rfl) ⟨?_, trivial⟩
            refine EvStep.mk none (new := fun _ => []) ([] ++ []) (by kernel_rfl) (Ev.store (kk := 0) (cs := [.int .i64 x13_1, .int .i64 x13_4, .int .i64 x13_7, .int .i64 x13_10, .int .i64 x13_13, .int .i64 x13_16, .int .i64 x13_19, .int .i64 x13_22, .slice none 0 0, .slice none 0 0, .slice none 0 0, .int .i64 0, .int .i64 0, .slice none 0 0, .slice none 0 0, .slice none 0 0, .slice none 0 0]) (0, 0) [p13_25, 0] (by kernel_rfl)) (fun _ => by kernel_rfl) (fun _ => ?_)
            refine D.fin (fr' := [(2, .pointer (some ⟨p0_0, 0, none⟩)), (4, .slice q3.1 o3.length q3.2), (10, .int .i64 x10_1), (11, .pointer (some ⟨p13_25, 0, none⟩))]) [] [] [] [] [2, 4, 10, 11] (by kernel_rfl) (by kernel_rfl) trivial (by kernel_rfl) ?_
            refine J.seq (by kernel_rfl) ?_
            obtain ⟨x14_2, hx14_2, H⟩ := bindE H
            refine J.region (by kernel_rfl) ?_
            refine O.pure 2 [] [2, 4, 10, 11, 88, 89] [] (fr' := [(2, .pointer (some ⟨p0_0, 0, none⟩)), (4, .slice q3.1 o3.length q3.2), (10, .int .i64 x10_1), (11, .pointer (some ⟨p13_25, 0, none⟩)), (88, .slice q3.1 o3.length q3.2), (89, .int .i64 x10_1)]) (bx' := [⟨p13_25, [.int .i64 x13_1, .int .i64 x13_4, .int .i64 x13_7, .int .i64 x13_10, .int .i64 x13_13, .int .i64 x13_16, .int .i64 x13_19, .int .i64 x13_22, .slice none 0 0, .slice none 0 0, .slice none 0 0, .int .i64 0, .int .i64 0, .slice none 0 0, .slice none 0 0, .slice none 0 0, .slice none 0 0], 34⟩, ⟨p0_0, [.int .i64 0, .int .i64 0, .int .i64 0, .int .i64 0, .int .i64 0, .int .i64 0, .int .i64 0, .int .i64 0, .slice none 0 0, .slice none 0 0, .slice none 0 0, .int .i64 0, .int .i64 0, .slice none 0 0, .slice none 0 0, .slice none 0 0, .slice none 0 0], 34⟩]) (by kernel_rfl) ?_
            refine O.e (some 90) (Ev.callLb (xs1 := [.tmp 88, .const (.int .i64 9), .tmp 89]) [0] (fun w hS => (hS.rowsel [0] rfl (by decide)).freezeL (hh := q3) (m := o3.length) (xs := o3) rfl) (by kernel_rfl) (by kernel_rfl) (fun _ q hq _ _ _ h => by obtain rfl := List.mem_singleton.1 hq; exact h) (fun w hS => haywainref15_some.con K o3 9 x10_1 q3  _ _ w hS hx14_2)) (by kernel_rfl) (fun p14_2 => ?_)
            refine O.pure 5 [] [2, 4, 10, 11, 12, 13] [] (fr' := [(2, .pointer (some ⟨p0_0, 0, none⟩)), (4, .slice q3.1 o3.length q3.2), (10, .int .i64 x10_1), (11, .pointer (some ⟨p13_25, 0, none⟩)), (12, .slice p14_2.1 x14_2.1.length p14_2.2), (13, .bool x14_2.2)]) (bx' := [⟨p13_25, [.int .i64 x13_1, .int .i64 x13_4, .int .i64 x13_7, .int .i64 x13_10, .int .i64 x13_13, .int .i64 x13_16, .int .i64 x13_19, .int .i64 x13_22, .slice none 0 0, .slice none 0 0, .slice none 0 0, .int .i64 0, .int .i64 0, .slice none 0 0, .slice none 0 0, .slice none 0 0, .slice none 0 0], 34⟩, ⟨p0_0, [.int .i64 0, .int .i64 0, .int .i64 0, .int .i64 0, .int .i64 0, .int .i64 0, .int .i64 0, .int .i64 0, .slice none 0 0, .slice none 0 0, .slice none 0 0, .int .i64 0, .int .i64 0, .slice none 0 0, .slice none 0 0, .slice none 0 0, .slice none 0 0], 34⟩]) (by kernel_rfl) ?_
            refine O.nil (by kernel_rfl) ?_
            refine J.seq (by kernel_rfl) ?_
            obtain ⟨x15_3, hx15_3, H⟩ := bindE H
            refine J.region (by kernel_rfl) ?_
            refine O.pure 3 [] [2, 4, 10, 11, 12, 13, 93, 95] [] (fr' := [(2, .pointer (some ⟨p0_0, 0, none⟩)), (4, .slice q3.1 o3.length q3.2), (10, .int .i64 x10_1), (11, .pointer (some ⟨p13_25, 0, none⟩)), (12, .slice p14_2.1 x14_2.1.length p14_2.2), (13, .bool x14_2.2), (93, .slice q3.1 o3.length q3.2), (95, .int .i64 (IntKind.wrap .i64 (9 + x10_1)))]) (bx' := [⟨p13_25, [.int .i64 x13_1, .int .i64 x13_4, .int .i64 x13_7, .int .i64 x13_10, .int .i64 x13_13, .int .i64 x13_16, .int .i64 x13_19, .int .i64 x13_22, .slice none 0 0, .slice none 0 0, .slice none 0 0, .int .i64 0, .int .i64 0, .slice none 0 0, .slice none 0 0, .slice none 0 0, .slice none 0 0], 34⟩, ⟨p0_0, [.int .i64 0, .int .i64 0, .int .i64 0, .int .i64 0, .int .i64 0, .int .i64 0, .int .i64 0, .int .i64 0, .slice none 0 0, .slice none 0 0, .slice none 0 0, .int .i64 0, .int .i64 0, .slice none 0 0, .slice none 0 0, .slice none 0 0, .slice none 0 0], 34⟩]) (by kernel_rfl) ?_
            refine O.e (some 96) (Ev.callLb (xs1 := [.tmp 93, .tmp 95, .const (.int .i64 5)]) [0] (fun w hS => (hS.rowsel [1, 0] rfl (by decide)).freezeL (hh := q3) (m := o3.length) (xs := o3) rfl) (by kernel_rfl) (by kernel_rfl) (fun _ q hq => by cases hq) (fun w hS => haywainref15_small.con K o3 (IntKind.wrap .i64 (9 + x10_1)) 5 q3  _ _ w hS hx15_3)) (by kernel_rfl) (fun _ => ?_)
            refine O.pure 1 [] [2, 4, 10, 11, 12, 13, 14] [] (fr' := [(2, .pointer (some ⟨p0_0, 0, none⟩)), (4, .slice q3.1 o3.length q3.2), (10, .int .i64 x10_1), (11, .pointer (some ⟨p13_25, 0, none⟩)), (12, .slice p14_2.1 x14_2.1.length p14_2.2), (13, .bool x14_2.2), (14, .int .i64 x15_3)]) (bx' := [⟨p13_25, [.int .i64 x13_1, .int .i64 x13_4, .int .i64 x13_7, .int .i64 x13_10, .int .i64 x13_13, .int .i64 x13_16, .int .i64 x13_19, .int .i64 x13_22, .slice none 0 0, .slice none 0 0, .slice none 0 0, .int .i64 0, .int .i64 0, .slice none 0 0, .slice none 0 0, .slice none 0 0, .slice none 0 0], 34⟩, ⟨p0_0, [.int .i64 0, .int .i64 0, .int .i64 0, .int .i64 0, .int .i64 0, .int .i64 0, .int .i64 0, .int .i64 0, .slice none 0 0, .slice none 0 0, .slice none 0 0, .int .i64 0, .int .i64 0, .slice none 0 0, .slice none 0 0, .slice none 0 0, .slice none 0 0], 34⟩]) (by kernel_rfl) ?_
            refine O.nil (by kernel_rfl) ?_
            refine J.seq (by kernel_rfl) ?_
            refine J.seq (by kernel_rfl) ?_
            rcases condE H with ⟨hc10, H⟩ | ⟨hc10, H⟩
            · refine J.region (by kernel_rfl) ?_
              refine O.pure 1 [] [2, 4, 10, 11, 12, 14, 97] [] (fr' := [(2, .pointer (some ⟨p0_0, 0, none⟩)), (4, .slice q3.1 o3.length q3.2), (10, .int .i64 x10_1), (11, .pointer (some ⟨p13_25, 0, none⟩)), (12, .slice p14_2.1 x14_2.1.length p14_2.2), (14, .int .i64 x15_3), (97, .bool x14_2.2)]) (bx' := [⟨p13_25, [.int .i64 x13_1, .int .i64 x13_4, .int .i64 x13_7, .int .i64 x13_10, .int .i64 x13_13, .int .i64 x13_16, .int .i64 x13_19, .int .i64 x13_22, .slice none 0 0, .slice none 0 0, .slice none 0 0, .int .i64 0, .int .i64 0, .slice none 0 0, .slice none 0 0, .slice none 0 0, .slice none 0 0], 34⟩, ⟨p0_0, [.int .i64 0, .int .i64 0, .int .i64 0, .int .i64 0, .int .i64 0, .int .i64 0, .int .i64 0, .int .i64 0, .slice none 0 0, .slice none 0 0, .slice none 0 0, .int .i64 0, .int .i64 0, .slice none 0 0, .slice none 0 0, .slice none 0 0, .slice none 0 0], 34⟩]) (by kernel_rfl) ?_
              refine O.q (v := .bool true) (some 98) (Qu.eqv (u := .bool (!x14_2.2)) (v := .bool true) (0, 0) [] (by kernel_rfl) (congrArg Value.bool hc10)) (by kernel_rfl) ?_
              refine O.pure 4 [] [2, 4, 10, 11, 12, 14, 102] [] (fr' := [(2, .pointer (some ⟨p0_0, 0, none⟩)), (4, .slice q3.1 o3.length q3.2), (10, .int .i64 x10_1), (11, .pointer (some ⟨p13_25, 0, none⟩)), (12, .slice p14_2.1 x14_2.1.length p14_2.2), (14, .int .i64 x15_3), (102, .bool true)]) (bx' := [⟨p13_25, [.int .i64 x13_1, .int .i64 x13_4, .int .i64 x13_7, .int .i64 x13_10, .int .i64 x13_13, .int .i64 x13_16, .int .i64 x13_19, .int .i64 x13_22, .slice none 0 0, .slice none 0 0, .slice none 0 0, .int .i64 0, .int .i64 0, .slice none 0 0, .slice none 0 0, .slice none 0 0, .slice none 0 0], 34⟩, ⟨p0_0, [.int .i64 0, .int .i64 0, .int .i64 0, .int .i64 0, .int .i64 0, .int .i64 0, .int .i64 0, .int .i64 0, .slice none 0 0, .slice none 0 0, .slice none 0 0, .int .i64 0, .int .i64 0, .slice none 0 0, .slice none 0 0, .slice none 0 0, .slice none 0 0], 34⟩]) (by kernel_rfl) ?_
              refine O.nil (by kernel_rfl) ?_
              refine J.cond (o := .tmp 102) true (by kernel_rfl) (by kernel_rfl) ?_
              refine J.seq (by kernel_rfl) ?_
              refine J.region (by kernel_rfl) ?_
              refine O.pure 3 [(1, 0)] [2, 3] [p0_0, 0] (fr' := [(2, .pointer (some ⟨p0_0, 0, none⟩)), (3, .bool false)]) (bx' := [⟨p13_25, [.int .i64 x13_1, .int .i64 x13_4, .int .i64 x13_7, .int .i64 x13_10, .int .i64 x13_13, .int .i64 x13_16, .int .i64 x13_19, .int .i64 x13_22, .slice none 0 0, .slice none 0 0, .slice none 0 0, .int .i64 0, .int .i64 0, .slice none 0 0, .slice none 0 0, .slice none 0 0, .slice none 0 0], 34⟩, ⟨p0_0, [.int .i64 0, .int .i64 0, .int .i64 0, .int .i64 0, .int .i64 0, .int .i64 0, .int .i64 0, .int .i64 0, .slice none 0 0, .slice none 0 0, .slice none 0 0, .int .i64 0, .int .i64 0, .slice none 0 0, .slice none 0 0, .slice none 0 0, .slice none 0 0], 34⟩]) (by kernel_rfl) ?_
              refine O.nil (by kernel_rfl) ?_
              obtain rfl := Option.some.inj H
              refine J.nilF (Kd.int .i64) ?_
              refine J.nilrow (Kd.int .i64) 2 ?_
              refine J.nilrow Kd.bool 4 ?_
              refine J.nilrow kd77 77 ?_
              refine J.nilrow kd77 77 ?_
              exact J.doneS [(1, 0)] [p0_0, 0] [0, 0, 0] [] [3, 2, 1, 0] ((none, 0), (none, 0), (none, 0), (none, 0), (none, 0), (none, 0), (none, 0)) (vs := [.agg #[.int .i64 0, .int .i64 0, .int .i64 0, .int .i64 0, .int .i64 0, .int .i64 0, .int .i64 0, .int .i64 0, .slice none 0 0, .slice none 0 0, .slice none 0 0, .int .i64 0, .int .i64 0, .slice none 0 0, .slice none 0 0, .slice none 0 0, .slice none 0 0], .bool false]) (by kernel_rfl) (by kernel_rfl) (by kernel_rfl) (by kernel_rfl) (by kernel_rfl) (by decide)
            · refine J.region (by kernel_rfl) ?_
              refine O.pure 1 [] [2, 4, 10, 11, 12, 14, 97] [] (fr' := [(2, .pointer (some ⟨p0_0, 0, none⟩)), (4, .slice q3.1 o3.length q3.2), (10, .int .i64 x10_1), (11, .pointer (some ⟨p13_25, 0, none⟩)), (12, .slice p14_2.1 x14_2.1.length p14_2.2), (14, .int .i64 x15_3), (97, .bool x14_2.2)]) (bx' := [⟨p13_25, [.int .i64 x13_1, .int .i64 x13_4, .int .i64 x13_7, .int .i64 x13_10, .int .i64 x13_13, .int .i64 x13_16, .int .i64 x13_19, .int .i64 x13_22, .slice none 0 0, .slice none 0 0, .slice none 0 0, .int .i64 0, .int .i64 0, .slice none 0 0, .slice none 0 0, .slice none 0 0, .slice none 0 0], 34⟩, ⟨p0_0, [.int .i64 0, .int .i64 0, .int .i64 0, .int .i64 0, .int .i64 0, .int .i64 0, .int .i64 0, .int .i64 0, .slice none 0 0, .slice none 0 0, .slice none 0 0, .int .i64 0, .int .i64 0, .slice none 0 0, .slice none 0 0, .slice none 0 0, .slice none 0 0], 34⟩]) (by kernel_rfl) ?_
              refine O.q (v := .bool false) (some 98) (Qu.eqv (u := .bool (!x14_2.2)) (v := .bool false) (0, 0) [] (by kernel_rfl) (congrArg Value.bool hc10)) (by kernel_rfl) ?_
              refine O.pure 4 [] [2, 4, 10, 11, 12, 14, 102] [] (fr' := [(2, .pointer (some ⟨p0_0, 0, none⟩)), (4, .slice q3.1 o3.length q3.2), (10, .int .i64 x10_1), (11, .pointer (some ⟨p13_25, 0, none⟩)), (12, .slice p14_2.1 x14_2.1.length p14_2.2), (14, .int .i64 x15_3), (102, .bool (decide (x15_3 < 0)))]) (bx' := [⟨p13_25, [.int .i64 x13_1, .int .i64 x13_4, .int .i64 x13_7, .int .i64 x13_10, .int .i64 x13_13, .int .i64 x13_16, .int .i64 x13_19, .int .i64 x13_22, .slice none 0 0, .slice none 0 0, .slice none 0 0, .int .i64 0, .int .i64 0, .slice none 0 0, .slice none 0 0, .slice none 0 0, .slice none 0 0], 34⟩, ⟨p0_0, [.int .i64 0, .int .i64 0, .int .i64 0, .int .i64 0, .int .i64 0, .int .i64 0, .int .i64 0, .int .i64 0, .slice none 0 0, .slice none 0 0, .slice none 0 0, .int .i64 0, .int .i64 0, .slice none 0 0, .slice none 0 0, .slice none 0 0, .slice none 0 0], 34⟩]) (by kernel_rfl) ?_
              refine O.nil (by kernel_rfl) ?_
              rcases condE H with ⟨hc11, H⟩ | ⟨hc11, H⟩
              · refine J.condT (x := .tmp 102) (t := (decide (x15_3 < 0))) (by kernel_rfl) (by kernel_rfl) hc11 ?_
                refine J.seq (by kernel_rfl) ?_
                refine J.region (by kernel_rfl) ?_
                refine O.pure 3 [(1, 0)] [2, 3] [p0_0, 0] (fr' := [(2, .pointer (some ⟨p0_0, 0, none⟩)), (3, .bool false)]) (bx' := [⟨p13_25, [.int .i64 x13_1, .int .i64 x13_4, .int .i64 x13_7, .int .i64 x13_10, .int .i64 x13_13, .int .i64 x13_16, .int .i64 x13_19, .int .i64 x13_22, .slice none 0 0, .slice none 0 0, .slice none 0 0, .int .i64 0, .int .i64 0, .slice none 0 0, .slice none 0 0, .slice none 0 0, .slice none 0 0], 34⟩, ⟨p0_0, [.int .i64 0, .int .i64 0, .int .i64 0, .int .i64 0, .int .i64 0, .int .i64 0, .int .i64 0, .int .i64 0, .slice none 0 0, .slice none 0 0, .slice none 0 0, .int .i64 0, .int .i64 0, .slice none 0 0, .slice none 0 0, .slice none 0 0, .slice none 0 0], 34⟩]) (by kernel_rfl) ?_
                refine O.nil (by kernel_rfl) ?_
                obtain rfl := Option.some.inj H
                refine J.nilF (Kd.int .i64) ?_
                refine J.nilrow (Kd.int .i64) 2 ?_
                refine J.nilrow Kd.bool 4 ?_
                refine J.nilrow kd77 77 ?_
                refine J.nilrow kd77 77 ?_
                exact J.doneS [(1, 0)] [p0_0, 0] [0, 0, 0] [] [3, 2, 1, 0] ((none, 0), (none, 0), (none, 0), (none, 0), (none, 0), (none, 0), (none, 0)) (vs := [.agg #[.int .i64 0, .int .i64 0, .int .i64 0, .int .i64 0, .int .i64 0, .int .i64 0, .int .i64 0, .int .i64 0, .slice none 0 0, .slice none 0 0, .slice none 0 0, .int .i64 0, .int .i64 0, .slice none 0 0, .slice none 0 0, .slice none 0 0, .slice none 0 0], .bool false]) (by kernel_rfl) (by kernel_rfl) (by kernel_rfl) (by kernel_rfl) (by kernel_rfl) (by decide)
              · refine J.condF (x := .tmp 102) (t := (decide (x15_3 < 0))) (by kernel_rfl) (by kernel_rfl) hc11 ?_
                refine J.skip (by kernel_rfl) ?_
                refine J.seq (by kernel_rfl) ?_
                obtain ⟨x18_4, hx18_4, H⟩ := bindE H
                refine J.region (by kernel_rfl) ?_
                refine O.pure 4 [] [2, 4, 10, 11, 12, 14, 105, 107, 108] [] (fr' := [(2, .pointer (some ⟨p0_0, 0, none⟩)), (4, .slice q3.1 o3.length q3.2), (10, .int .i64 x10_1), (11, .pointer (some ⟨p13_25, 0, none⟩)), (12, .slice p14_2.1 x14_2.1.length p14_2.2), (14, .int .i64 x15_3), (105, .slice q3.1 o3.length q3.2), (107, .int .i64 (IntKind.wrap .i64 (10 + x10_1))), (108, .int .i64 x15_3)]) (bx' := [⟨p13_25, [.int .i64 x13_1, .int .i64 x13_4, .int .i64 x13_7, .int .i64 x13_10, .int .i64 x13_13, .int .i64 x13_16, .int .i64 x13_19, .int .i64 x13_22, .slice none 0 0, .slice none 0 0, .slice none 0 0, .int .i64 0, .int .i64 0, .slice none 0 0, .slice none 0 0, .slice none 0 0, .slice none 0 0], 34⟩, ⟨p0_0, [.int .i64 0, .int .i64 0, .int .i64 0, .int .i64 0, .int .i64 0, .int .i64 0, .int .i64 0, .int .i64 0, .slice none 0 0, .slice none 0 0, .slice none 0 0, .int .i64 0, .int .i64 0, .slice none 0 0, .slice none 0 0, .slice none 0 0, .slice none 0 0], 34⟩]) (by kernel_rfl) ?_
                refine O.e (some 109) (Ev.callLb (xs1 := [.tmp 105, .tmp 107, .tmp 108]) [0] (fun w hS => (hS.rowsel [1, 0] rfl (by decide)).freezeL (hh := q3) (m := o3.length) (xs := o3) rfl) (by kernel_rfl) (by kernel_rfl) (fun _ q hq _ _ _ h => by obtain rfl := List.mem_singleton.1 hq; exact h) (fun w hS => haywainref15_some.con K o3 (IntKind.wrap .i64 (10 + x10_1)) x15_3 q3  _ _ w hS hx18_4)) (by kernel_rfl) (fun p18_4 => ?_)
                refine O.pure 5 [] [2, 4, 10, 11, 12, 14, 15, 16] [] (fr' := [(2, .pointer (some ⟨p0_0, 0, none⟩)), (4, .slice q3.1 o3.length q3.2), (10, .int .i64 x10_1), (11, .pointer (some ⟨p13_25, 0, none⟩)), (12, .slice p14_2.1 x14_2.1.length p14_2.2), (14, .int .i64 x15_3), (15, .slice p18_4.1 x18_4.1.length p18_4.2), (16, .bool x18_4.2)]) (bx' := [⟨p13_25, [.int .i64 x13_1, .int .i64 x13_4, .int .i64 x13_7, .int .i64 x13_10, .int .i64 x13_13, .int .i64 x13_16, .int .i64 x13_19, .int .i64 x13_22, .slice none 0 0, .slice none 0 0, .slice none 0 0, .int .i64 0, .int .i64 0, .slice none 0 0, .slice none 0 0, .slice none 0 0, .slice none 0 0], 34⟩, ⟨p0_0, [.int .i64 0, .int .i64 0, .int .i64 0, .int .i64 0, .int .i64 0, .int .i64 0, .int .i64 0, .int .i64 0, .slice none 0 0, .slice none 0 0, .slice none 0 0, .int .i64 0, .int .i64 0, .slice none 0 0, .slice none 0 0, .slice none 0 0, .slice none 0 0], 34⟩]) (by kernel_rfl) ?_
                refine O.nil (by kernel_rfl) ?_
                refine J.seq (by kernel_rfl) ?_
                obtain ⟨x19_6, hx19_6, H⟩ := bindE H
                refine J.region (by kernel_rfl) ?_
                refine O.pure 6 [] [2, 4, 10, 11, 12, 14, 15, 16, 113, 117, 118] [] (fr' := [(2, .pointer (some ⟨p0_0, 0, none⟩)), (4, .slice q3.1 o3.length q3.2), (10, .int .i64 x10_1), (11, .pointer (some ⟨p13_25, 0, none⟩)), (12, .slice p14_2.1 x14_2.1.length p14_2.2), (14, .int .i64 x15_3), (15, .slice p18_4.1 x18_4.1.length p18_4.2), (16, .bool x18_4.2), (113, .slice q3.1 o3.length q3.2), (117, .int .i64 (IntKind.wrap .i64 ((IntKind.wrap .i64 (10 + x10_1)) + x15_3))), (118, .int .i64 x15_3)]) (bx' := [⟨p13_25, [.int .i64 x13_1, .int .i64 x13_4, .int .i64 x13_7, .int .i64 x13_10, .int .i64 x13_13, .int .i64 x13_16, .int .i64 x13_19, .int .i64 x13_22, .slice none 0 0, .slice none 0 0, .slice none 0 0, .int .i64 0, .int .i64 0, .slice none 0 0, .slice none 0 0, .slice none 0 0, .slice none 0 0], 34⟩, ⟨p0_0, [.int .i64 0, .int .i64 0, .int .i64 0, .int .i64 0, .int .i64 0, .int .i64 0, .int .i64 0, .int .i64 0, .slice none 0 0, .slice none 0 0, .slice none 0 0, .int .i64 0, .int .i64 0, .slice none 0 0, .slice none 0 0, .slice none 0 0, .slice none 0 0], 34⟩]) (by kernel_rfl) ?_
                refine O.e (some 119) (Ev.callLb (xs1 := [.tmp 113, .tmp 117, .tmp 118]) [0] (fun w hS => (hS.rowsel [2, 0, 1] rfl (by decide)).freezeL (hh := q3) (m := o3.length) (xs := o3) rfl) (by kernel_rfl) (by kernel_rfl) (fun _ q hq _ _ _ h => by obtain rfl := List.mem_singleton.1 hq; exact h) (fun w hS => haywainref15_some.con K o3 (IntKind.wrap .i64 ((IntKind.wrap .i64 (10 + x10_1)) + x15_3)) x15_3 q3  _ _ w hS hx19_6)) (by kernel_rfl) (fun p19_6 => ?_)
                refine O.pure 5 [] [2, 4, 10, 11, 12, 14, 15, 16, 17, 18] [] (fr' := [(2, .pointer (some ⟨p0_0, 0, none⟩)), (4, .slice q3.1 o3.length q3.2), (10, .int .i64 x10_1), (11, .pointer (some ⟨p13_25, 0, none⟩)), (12, .slice p14_2.1 x14_2.1.length p14_2.2), (14, .int .i64 x15_3), (15, .slice p18_4.1 x18_4.1.length p18_4.2), (16, .bool x18_4.2), (17, .slice p19_6.1 x19_6.1.length p19_6.2), (18, .bool x19_6.2)]) (bx' := [⟨p13_25, [.int .i64 x13_1, .int .i64 x13_4, .int .i64 x13_7, .int .i64 x13_10, .int .i64 x13_13, .int .i64 x13_16, .int .i64 x13_19, .int .i64 x13_22, .slice none 0 0, .slice none 0 0, .slice none 0 0, .int .i64 0, .int .i64 0, .slice none 0 0, .slice none 0 0, .slice none 0 0, .slice none 0 0], 34⟩, ⟨p0_0, [.int .i64 0, .int .i64 0, .int .i64 0, .int .i64 0, .int .i64 0, .int .i64 0, .int .i64 0, .int .i64 0, .slice none 0 0, .slice none 0 0, .slice none 0 0, .int .i64 0, .int .i64 0, .slice none 0 0, .slice none 0 0, .slice none 0 0, .slice none 0 0], 34⟩]) (by kernel_rfl) ?_
                refine O.nil (by kernel_rfl) ?_
                refine J.seq (by kernel_rfl) ?_
                refine J.seq (by kernel_rfl) ?_
                rcases condE H with ⟨hc12, H⟩ | ⟨hc12, H⟩
                · refine J.region (by kernel_rfl) ?_
                  refine O.pure 1 [] [2, 4, 10, 11, 12, 14, 15, 17, 18, 122] [] (fr' := [(2, .pointer (some ⟨p0_0, 0, none⟩)), (4, .slice q3.1 o3.length q3.2), (10, .int .i64 x10_1), (11, .pointer (some ⟨p13_25, 0, none⟩)), (12, .slice p14_2.1 x14_2.1.length p14_2.2), (14, .int .i64 x15_3), (15, .slice p18_4.1 x18_4.1.length p18_4.2), (17, .slice p19_6.1 x19_6.1.length p19_6.2), (18, .bool x19_6.2), (122, .bool x18_4.2)]) (bx' := [⟨p13_25, [.int .i64 x13_1, .int .i64 x13_4, .int .i64 x13_7, .int .i64 x13_10, .int .i64 x13_13, .int .i64 x13_16, .int .i64 x13_19, .int .i64 x13_22, .slice none 0 0, .slice none 0 0, .slice none 0 0, .int .i64 0, .int .i64 0, .slice none 0 0, .slice none 0 0, .slice none 0 0, .slice none 0 0], 34⟩, ⟨p0_0, [.int .i64 0, .int .i64 0, .int .i64 0, .int .i64 0, .int .i64 0, .int .i64 0, .int .i64 0, .int .i64 0, .slice none 0 0, .slice none 0 0, .slice none 0 0, .int .i64 0, .int .i64 0, .slice none 0 0, .slice none 0 0, .slice none 0 0, .slice none 0 0], 34⟩]) (by kernel_rfl) ?_
                  refine O.q (v := .bool true) (some 123) (Qu.eqv (u := .bool (!x18_4.2)) (v := .bool true) (0, 0) [] (by kernel_rfl) (congrArg Value.bool hc12)) (by kernel_rfl) ?_
                  refine O.pure 4 [] [2, 4, 10, 11, 12, 14, 15, 17, 127] [] (fr' := [(2, .pointer (some ⟨p0_0, 0, none⟩)), (4, .slice q3.1 o3.length q3.2), (10, .int .i64 x10_1), (11, .pointer (some ⟨p13_25, 0, none⟩)), (12, .slice p14_2.1 x14_2.1.length p14_2.2), (14, .int .i64 x15_3), (15, .slice p18_4.1 x18_4.1.length p18_4.2), (17, .slice p19_6.1 x19_6.1.length p19_6.2), (127, .bool true)]) (bx' := [⟨p13_25, [.int .i64 x13_1, .int .i64 x13_4, .int .i64 x13_7, .int .i64 x13_10, .int .i64 x13_13, .int .i64 x13_16, .int .i64 x13_19, .int .i64 x13_22, .slice none 0 0, .slice none 0 0, .slice none 0 0, .int .i64 0, .int .i64 0, .slice none 0 0, .slice none 0 0, .slice none 0 0, .slice none 0 0], 34⟩, ⟨p0_0, [.int .i64 0, .int .i64 0, .int .i64 0, .int .i64 0, .int .i64 0, .int .i64 0, .int .i64 0, .int .i64 0, .slice none 0 0, .slice none 0 0, .slice none 0 0, .int .i64 0, .int .i64 0, .slice none 0 0, .slice none 0 0, .slice none 0 0, .slice none 0 0], 34⟩]) (by kernel_rfl) ?_
                  refine O.nil (by kernel_rfl) ?_
                  refine J.cond (o := .tmp 127) true (by kernel_rfl) (by kernel_rfl) ?_
                  refine J.seq (by kernel_rfl) ?_
                  refine J.region (by kernel_rfl) ?_
                  refine O.pure 3 [(1, 0)] [2, 3] [p0_0, 0] (fr' := [(2, .pointer (some ⟨p0_0, 0, none⟩)), (3, .bool false)]) (bx' := [⟨p13_25, [.int .i64 x13_1, .int .i64 x13_4, .int .i64 x13_7, .int .i64 x13_10, .int .i64 x13_13, .int .i64 x13_16, .int .i64 x13_19, .int .i64 x13_22, .slice none 0 0, .slice none 0 0, .slice none 0 0, .int .i64 0, .int .i64 0, .slice none 0 0, .slice none 0 0, .slice none 0 0, .slice none 0 0], 34⟩, ⟨p0_0, [.int .i64 0, .int .i64 0, .int .i64 0, .int .i64 0, .int .i64 0, .int .i64 0, .int .i64 0, .int .i64 0, .slice none 0 0, .slice none 0 0, .slice none 0 0, .int .i64 0, .int .i64 0, .slice none 0 0, .slice none 0 0, .slice none 0 0, .slice none 0 0], 34⟩]) (by kernel_rfl) ?_
                  refine O.nil (by kernel_rfl) ?_
                  obtain rfl := Option.some.inj H
                  refine J.nilF (Kd.int .i64) ?_
                  refine J.nilrow (Kd.int .i64) 2 ?_
                  refine J.nilrow Kd.bool 4 ?_
                  refine J.nilrow kd77 77 ?_
                  refine J.nilrow kd77 77 ?_
                  exact J.doneS [(1, 0)] [p0_0, 0] [0, 0, 0] [] [3, 2, 1, 0] ((none, 0), (none, 0), (none, 0), (none, 0), (none, 0), (none, 0), (none, 0)) (vs := [.agg #[.int .i64 0, .int .i64 0, .int .i64 0, .int .i64 0, .int .i64 0, .int .i64 0, .int .i64 0, .int .i64 0, .slice none 0 0, .slice none 0 0, .slice none 0 0, .int .i64 0, .int .i64 0, .slice none 0 0, .slice none 0 0, .slice none 0 0, .slice none 0 0], .bool false]) (by kernel_rfl) (by kernel_rfl) (by kernel_rfl) (by kernel_rfl) (by kernel_rfl) (by decide)
                · refine J.region (by kernel_rfl) ?_
                  refine O.pure 1 [] [2, 4, 10, 11, 12, 14, 15, 17, 18, 122] [] (fr' := [(2, .pointer (some ⟨p0_0, 0, none⟩)), (4, .slice q3.1 o3.length q3.2), (10, .int .i64 x10_1), (11, .pointer (some ⟨p13_25, 0, none⟩)), (12, .slice p14_2.1 x14_2.1.length p14_2.2), (14, .int .i64 x15_3), (15, .slice p18_4.1 x18_4.1.length p18_4.2), (17, .slice p19_6.1 x19_6.1.length p19_6.2), (18, .bool x19_6.2), (122, .bool x18_4.2)]) (bx' := [⟨p13_25, [.int .i64 x13_1, .int .i64 x13_4, .int .i64 x13_7, .int .i64 x13_10, .int .i64 x13_13, .int .i64 x13_16, .int .i64 x13_19, .int .i64 x13_22, .slice none 0 0, .slice none 0 0, .slice none 0 0, .int .i64 0, .int .i64 0, .slice none 0 0, .slice none 0 0, .slice none 0 0, .slice none 0 0], 34⟩, ⟨p0_0, [.int .i64 0, .int .i64 0, .int .i64 0, .int .i64 0, .int .i64 0, .int .i64 0, .int .i64 0, .int .i64 0, .slice none 0 0, .slice none 0 0, .slice none 0 0, .int .i64 0, .int .i64 0, .slice none 0 0, .slice none 0 0, .slice none 0 0, .slice none 0 0], 34⟩]) (by kernel_rfl) ?_
                  refine O.q (v := .bool false) (some 123) (Qu.eqv (u := .bool (!x18_4.2)) (v := .bool false) (0, 0) [] (by kernel_rfl) (congrArg Value.bool hc12)) (by kernel_rfl) ?_
                  refine O.pure 4 [] [2, 4, 10, 11, 12, 14, 15, 17, 127] [] (fr' := [(2, .pointer (some ⟨p0_0, 0, none⟩)), (4, .slice q3.1 o3.length q3.2), (10, .int .i64 x10_1), (11, .pointer (some ⟨p13_25, 0, none⟩)), (12, .slice p14_2.1 x14_2.1.length p14_2.2), (14, .int .i64 x15_3), (15, .slice p18_4.1 x18_4.1.length p18_4.2), (17, .slice p19_6.1 x19_6.1.length p19_6.2), (127, .bool (!x19_6.2))]) (bx' := [⟨p13_25, [.int .i64 x13_1, .int .i64 x13_4, .int .i64 x13_7, .int .i64 x13_10, .int .i64 x13_13, .int .i64 x13_16, .int .i64 x13_19, .int .i64 x13_22, .slice none 0 0, .slice none 0 0, .slice none 0 0, .int .i64 0, .int .i64 0, .slice none 0 0, .slice none 0 0, .slice none 0 0, .slice none 0 0], 34⟩, ⟨p0_0, [.int .i64 0, .int .i64 0, .int .i64 0, .int .i64 0, .int .i64 0, .int .i64 0, .int .i64 0, .int .i64 0, .slice none 0 0, .slice none 0 0, .slice none 0 0, .int .i64 0, .int .i64 0, .slice none 0 0, .slice none 0 0, .slice none 0 0, .slice none 0 0], 34⟩]) (by kernel_rfl) ?_
                  refine O.nil (by kernel_rfl) ?_
                  rcases condE H with ⟨hc13, H⟩ | ⟨hc13, H⟩
                  · refine J.condT (x := .tmp 127) (t := (!x19_6.2)) (by kernel_rfl) (by kernel_rfl) hc13 ?_
                    refine J.seq (by kernel_rfl) ?_
                    refine J.region (by kernel_rfl) ?_
                    refine O.pure 3 [(1, 0)] [2, 3] [p0_0, 0] (fr' := [(2, .pointer (some ⟨p0_0, 0, none⟩)), (3, .bool false)]) (bx' := [⟨p13_25, [.int .i64 x13_1, .int .i64 x13_4, .int .i64 x13_7, .int .i64 x13_10, .int .i64 x13_13, .int .i64 x13_16, .int .i64 x13_19, .int .i64 x13_22, .slice none 0 0, .slice none 0 0, .slice none 0 0, .int .i64 0, .int .i64 0, .slice none 0 0, .slice none 0 0, .slice none 0 0, .slice none 0 0], 34⟩, ⟨p0_0, [.int .i64 0, .int .i64 0, .int .i64 0, .int .i64 0, .int .i64 0, .int .i64 0, .int .i64 0, .int .i64 0, .slice none 0 0, .slice none 0 0, .slice none 0 0, .int .i64 0, .int .i64 0, .slice none 0 0, .slice none 0 0, .slice none 0 0, .slice none 0 0], 34⟩]) (by kernel_rfl) ?_
                    refine O.nil (by kernel_rfl) ?_
                    obtain rfl := Option.some.inj H
                    refine J.nilF (Kd.int .i64) ?_
                    refine J.nilrow (Kd.int .i64) 2 ?_
                    refine J.nilrow Kd.bool 4 ?_
                    refine J.nilrow kd77 77 ?_
                    refine J.nilrow kd77 77 ?_
                    exact J.doneS [(1, 0)] [p0_0, 0] [0, 0, 0] [] [3, 2, 1, 0] ((none, 0), (none, 0), (none, 0), (none, 0), (none, 0), (none, 0), (none, 0)) (vs := [.agg #[.int .i64 0, .int .i64 0, .int .i64 0, .int .i64 0, .int .i64 0, .int .i64 0, .int .i64 0, .int .i64 0, .slice none 0 0, .slice none 0 0, .slice none 0 0, .int .i64 0, .int .i64 0, .slice none 0 0, .slice none 0 0, .slice none 0 0, .slice none 0 0], .bool false]) (by kernel_rfl) (by kernel_rfl) (by kernel_rfl) (by kernel_rfl) (by kernel_rfl) (by decide)
                  · refine J.condF (x := .tmp 127) (t := (!x19_6.2)) (by kernel_rfl) (by kernel_rfl) hc13 ?_
                    refine J.skip (by kernel_rfl) ?_
                    refine J.seq (by kernel_rfl) ?_
                    refine J.region (by kernel_rfl) ?_
                    refine O.pure 9 [(0, 8), (0, 9), (0, 10)] [2, 4, 10, 11, 14] [p13_25, 8, p13_25, 9, p13_25, 10] (fr' := [(2, .pointer (some ⟨p0_0, 0, none⟩)), (4, .slice q3.1 o3.length q3.2), (10, .int .i64 x10_1), (11, .pointer (some ⟨p13_25, 0, none⟩)), (14, .int .i64 x15_3)]) (bx' := [⟨p13_25, [.int .i64 x13_1, .int .i64 x13_4, .int .i64 x13_7, .int .i64 x13_10, .int .i64 x13_13, .int .i64 x13_16, .int .i64 x13_19, .int .i64 x13_22, .slice p14_2.1 x14_2.1.length p14_2.2, .slice p18_4.1 x18_4.1.length p18_4.2, .slice p19_6.1 x19_6.1.length p19_6.2, .int .i64 0, .int .i64 0, .slice none 0 0, .slice none 0 0, .slice none 0 0, .slice none 0 0], 34⟩, ⟨p0_0, [.int .i64 0, .int .i64 0, .int .i64 0, .int .i64 0, .int .i64 0, .int .i64 0, .int .i64 0, .int .i64 0, .slice none 0 0, .slice none 0 0, .slice none 0 0, .int .i64 0, .int .i64 0, .slice none 0 0, .slice none 0 0, .slice none 0 0, .slice none 0 0], 34⟩]) (by kernel_rfl) ?_
                    refine O.nil (by kernel_rfl) ?_
                    refine J.seq (by kernel_rfl) ?_
                    obtain ⟨x23_7, hx23_7, H⟩ := bindE H
                    refine J.region (by kernel_rfl) ?_
                    refine O.pure 7 [(0, 0)] [2, 136, 141, 142] [p13_25, 0] (fr' := [(2, .pointer (some ⟨p0_0, 0, none⟩)), (136, .slice q3.1 o3.length q3.2), (141, .int .i64 (IntKind.wrap .i64 ((IntKind.wrap .i64 (10 + x10_1)) + (IntKind.wrap .i64 (2 * x15_3))))), (142, .agg #[.int .i64 x13_1, .int .i64 x13_4, .int .i64 x13_7, .int .i64 x13_10, .int .i64 x13_13, .int .i64 x13_16, .int .i64 x13_19, .int .i64 x13_22, .slice p14_2.1 x14_2.1.length p14_2.2, .slice p18_4.1 x18_4.1.length p18_4.2, .slice p19_6.1 x19_6.1.length p19_6.2, .int .i64 0, .int .i64 0, .slice none 0 0, .slice none 0 0, .slice none 0 0, .slice none 0 0])]) (bx' := [⟨p13_25, [.int .i64 x13_1, .int .i64 x13_4, .int .i64 x13_7, .int .i64 x13_10, .int .i64 x13_13, .int .i64 x13_16, .int .i64 x13_19, .int .i64 x13_22, .slice p14_2.1 x14_2.1.length p14_2.2, .slice p18_4.1 x18_4.1.length p18_4.2, .slice p19_6.1 x19_6.1.length p19_6.2, .int .i64 0, .int .i64 0, .slice none 0 0, .slice none 0 0, .slice none 0 0, .slice none 0 0], 34⟩, ⟨p0_0, [.int .i64 0, .int .i64 0, .int .i64 0, .int .i64 0, .int .i64 0, .int .i64 0, .int .i64 0, .int .i64 0, .slice none 0 0, .slice none 0 0, .slice none 0 0, .int .i64 0, .int .i64 0, .slice none 0 0, .slice none 0 0, .slice none 0 0, .slice none 0 0], 34⟩]) (by kernel_rfl) ?_
                    refine O.e (some 143) (Ev.mono (fun w hS => hS.rowsel [3, 0, 1, 2] rfl (by decide)) (Ev.mono (fun w hS => hS.freezeH (h := q3) (xs := o3)) (Ev.mono (fun w hS => hS.rowsel [2, 0, 1] rfl (by decide)) (Ev.mono (fun w hS => hS.freezeH (h := p14_2) (xs := x14_2.1)) (Ev.mono (fun w hS => hS.rowsel [1, 0] rfl (by decide)) (Ev.mono (fun w hS => hS.freezeH (h := p18_4) (xs := x18_4.1)) (Ev.mono (fun w hS => hS.freezeH (h := p19_6) (xs := x19_6.1)) (Ev.mono (fun w hS => hS.add (fun w' _ => Rd.nil kd77 w')) (Ev.mono (fun w hS => hS.nilrow (Kd.int .i64) 2) (Ev.mono (fun w hS => hS.nilrow Kd.bool 4) (Ev.callS (xs := [.tmp 136, .tmp 141, .tmp 142]) (bxr := [⟨p13_25, [.int .i64 x13_1, .int .i64 x13_4, .int .i64 x13_7, .int .i64 x13_10, .int .i64 x13_13, .int .i64 x13_16, .int .i64 x13_19, .int .i64 x13_22, .slice p14_2.1 x14_2.1.length p14_2.2, .slice p18_4.1 x18_4.1.length p18_4.2, .slice p19_6.1 x19_6.1.length p19_6.2, .int .i64 0, .int .i64 0, .slice none 0 0, .slice none 0 0, .slice none 0 0, .slice none 0 0], 34⟩, ⟨p0_0, [.int .i64 0, .int .i64 0, .int .i64 0, .int .i64 0, .int .i64 0, .int .i64 0, .int .i64 0, .int .i64 0, .slice none 0 0, .slice none 0 0, .slice none 0 0, .int .i64 0, .int .i64 0, .slice none 0 0, .slice none 0 0, .slice none 0 0, .slice none 0 0], 34⟩]) (rwr := []) [] [0, 1] [1, 0] [] [4, 3, 2, 1, 0, 0] (by kernel_rfl) (by kernel_rfl) (by kernel_rfl) (by kernel_rfl) (by decide) (fun w hS => haywainref15_body.con K o3 (IntKind.wrap .i64 ((IntKind.wrap .i64 (10 + x10_1)) + (IntKind.wrap .i64 (2 * x15_3)))) (⟨x13_1, x13_4, x13_7, x13_10, x13_13, x13_16, x13_19, x13_22, x14_2.1, x18_4.1, x19_6.1, (⟨0, 0, ([] : List Int), ([] : List Bool), ([] : List S77)⟩ : S27), ([] : List S77)⟩ : S34) q3 p14_2 p18_4 p19_6 (none, 0) (none, 0) (none, 0) (none, 0)  _ _ w hS hx23_7)))))))))))) (by kernel_rfl) (fun p23_7 => ?_)
                    refine O.pure 3 [] [2, 144, 145] [] (fr' := [(2, .pointer (some ⟨p0_0, 0, none⟩)), (144, .agg #[.int .i64 x23_7.1.f0, .int .i64 x23_7.1.f1, .int .i64 x23_7.1.f2, .int .i64 x23_7.1.f3, .int .i64 x23_7.1.f4, .int .i64 x23_7.1.f5, .int .i64 x23_7.1.f6, .int .i64 x23_7.1.f7, .slice p23_7.1.1 x23_7.1.f8.length p23_7.1.2, .slice p23_7.2.1.1 x23_7.1.f9.length p23_7.2.1.2, .slice p23_7.2.2.1.1 x23_7.1.f10.length p23_7.2.2.1.2, .int .i64 x23_7.1.f11.f0, .int .i64 x23_7.1.f11.f1, .slice p23_7.2.2.2.1.1 x23_7.1.f11.f2.length p23_7.2.2.2.1.2, .slice p23_7.2.2.2.2.1.1 x23_7.1.f11.f3.length p23_7.2.2.2.2.1.2, .slice p23_7.2.2.2.2.2.1.1 x23_7.1.f11.f4.length p23_7.2.2.2.2.2.1.2, .slice p23_7.2.2.2.2.2.2.1 x23_7.1.f12.length p23_7.2.2.2.2.2.2.2]), (145, .bool x23_7.2)]) (bx' := [⟨p13_25, [.int .i64 x13_1, .int .i64 x13_4, .int .i64 x13_7, .int .i64 x13_10, .int .i64 x13_13, .int .i64 x13_16, .int .i64 x13_19, .int .i64 x13_22, .slice p14_2.1 x14_2.1.length p14_2.2, .slice p18_4.1 x18_4.1.length p18_4.2, .slice p19_6.1 x19_6.1.length p19_6.2, .int .i64 0, .int .i64 0, .slice none 0 0, .slice none 0 0, .slice none 0 0, .slice none 0 0], 34⟩, ⟨p0_0, [.int .i64 0, .int .i64 0, .int .i64 0, .int .i64 0, .int .i64 0, .int .i64 0, .int .i64 0, .int .i64 0, .slice none 0 0, .slice none 0 0, .slice none 0 0, .int .i64 0, .int .i64 0, .slice none 0 0, .slice none 0 0, .slice none 0 0, .slice none 0 0], 34⟩]) (by kernel_rfl) ?_
                    refine O.e (some 19) (Ev.alloc (t := 34) (z := .agg #[.int .i64 0, .int .i64 0, .int .i64 0, .int .i64 0, .int .i64 0, .int .i64 0, .int .i64 0, .int .i64 0, .slice none 0 0, .slice none 0 0, .slice none 0 0, .int .i64 0, .int .i64 0, .slice none 0 0, .slice none 0 0, .slice none 0 0, .slice none 0 0]) (by kernel_rfl) (by kernel_rfl)) (by kernel_rfl) (fun p23_11 => ?_)
                    refine O.pure 2 [(0, 0)] [2, 19, 20] [p23_11, 0] (fr' := [(2, .pointer (some ⟨p0_0, 0, none⟩)), (19, .pointer (some ⟨p23_11, 0, none⟩)), (20, .bool x23_7.2)]) (bx' := [⟨p23_11, [.int .i64 x23_7.1.f0, .int .i64 x23_7.1.f1, .int .i64 x23_7.1.f2, .int .i64 x23_7.1.f3, .int .i64 x23_7.1.f4, .int .i64 x23_7.1.f5, .int .i64 x23_7.1.f6, .int .i64 x23_7.1.f7, .slice p23_7.1.1 x23_7.1.f8.length p23_7.1.2, .slice p23_7.2.1.1 x23_7.1.f9.length p23_7.2.1.2, .slice p23_7.2.2.1.1 x23_7.1.f10.length p23_7.2.2.1.2, .int .i64 x23_7.1.f11.f0, .int .i64 x23_7.1.f11.f1, .slice p23_7.2.2.2.1.1 x23_7.1.f11.f2.length p23_7.2.2.2.1.2, .slice p23_7.2.2.2.2.1.1 x23_7.1.f11.f3.length p23_7.2.2.2.2.1.2, .slice p23_7.2.2.2.2.2.1.1 x23_7.1.f11.f4.length p23_7.2.2.2.2.2.1.2, .slice p23_7.2.2.2.2.2.2.1 x23_7.1.f12.length p23_7.2.2.2.2.2.2.2], 34⟩, ⟨p13_25, [.int .i64 x13_1, .int .i64 x13_4, .int .i64 x13_7, .int .i64 x13_10, .int .i64 x13_13, .int .i64 x13_16, .int .i64 x13_19, .int .i64 x13_22, .slice p14_2.1 x14_2.1.length p14_2.2, .slice p18_4.1 x18_4.1.length p18_4.2, .slice p19_6.1 x19_6.1.length p19_6.2, .int .i64 0, .int .i64 0, .slice none 0 0, .slice none 0 0, .slice none 0 0, .slice none 0 0], 34⟩, ⟨p0_0, [.int .i64 0, .int .i64 0, .int .i64 0, .int .i64 0, .int .i64 0, .int .i64 0, .int .i64 0, .int .i64 0, .slice none 0 0, .slice none 0 0, .slice none 0 0, .int .i64 0, .int .i64 0, .slice none 0 0, .slice none 0 0, .slice none 0 0, .slice none 0 0], 34⟩]) (by kernel_rfl) ?_
                    refine O.nil (by kernel_rfl) ?_
                    refine J.seq (by kernel_rfl) ?_
                    refine J.seq (by kernel_rfl) ?_
                    rcases condE H with ⟨hc14, H⟩ | ⟨hc14, H⟩
                    · refine J.region (by kernel_rfl) ?_
                      refine O.pure 1 [] [2, 19, 146] [] (fr' := [(2, .pointer (some ⟨p0_0, 0, none⟩)), (19, .pointer (some ⟨p23_11, 0, none⟩)), (146, .bool x23_7.2)]) (bx' := [⟨p23_11, [.int .i64 x23_7.1.f0, .int .i64 x23_7.1.f1, .int .i64 x23_7.1.f2, .int .i64 x23_7.1.f3, .int .i64 x23_7.1.f4, .int .i64 x23_7.1.f5, .int .i64 x23_7.1.f6, .int .i64 x23_7.1.f7, .slice p23_7.1.1 x23_7.1.f8.length p23_7.1.2, .slice p23_7.2.1.1 x23_7.1.f9.length p23_7.2.1.2, .slice p23_7.2.2.1.1 x23_7.1.f10.length p23_7.2.2.1.2, .int .i64 x23_7.1.f11.f0, .int .i64 x23_7.1.f11.f1, .slice p23_7.2.2.2.1.1 x23_7.1.f11.f2.length p23_7.2.2.2.1.2, .slice p23_7.2.2.2.2.1.1 x23_7.1.f11.f3.length p23_7.2.2.2.2.1.2, .slice p23_7.2.2.2.2.2.1.1 x23_7.1.f11.f4.length p23_7.2.2.2.2.2.1.2, .slice p23_7.2.2.2.2.2.2.1 x23_7.1.f12.length p23_7.2.2.2.2.2.2.2], 34⟩, ⟨p13_25, [.int .i64 x13_1, .int .i64 x13_4, .int .i64 x13_7, .int .i64 x13_10, .int .i64 x13_13, .int .i64 x13_16, .int .i64 x13_19, .int .i64 x13_22, .slice p14_2.1 x14_2.1.length p14_2.2, .slice p18_4.1 x18_4.1.length p18_4.2, .slice p19_6.1 x19_6.1.length p19_6.2, .int .i64 0, .int .i64 0, .slice none 0 0, .slice none 0 0, .slice none 0 0, .slice none 0 0], 34⟩, ⟨p0_0, [.int .i64 0, .int .i64 0, .int .i64 0, .int .i64 0, .int .i64 0, .int .i64 0, .int .i64 0, .int .i64 0, .slice none 0 0, .slice none 0 0, .slice none 0 0, .int .i64 0, .int .i64 0, .slice none 0 0, .slice none 0 0, .slice none 0 0, .slice none 0 0], 34⟩]) (by kernel_rfl) ?_
                      refine O.q (v := .bool true) (some 147) (Qu.eqv (u := .bool (!x23_7.2)) (v := .bool true) (0, 0) [] (by kernel_rfl) (congrArg Value.bool hc14)) (by kernel_rfl) ?_
                      refine O.pure 5 [] [2, 19, 152] [] (fr' := [(2, .pointer (some ⟨p0_0, 0, none⟩)), (19, .pointer (some ⟨p23_11, 0, none⟩)), (152, .bool true)]) (bx' := [⟨p23_11, [.int .i64 x23_7.1.f0, .int .i64 x23_7.1.f1, .int .i64 x23_7.1.f2, .int .i64 x23_7.1.f3, .int .i64 x23_7.1.f4, .int .i64 x23_7.1.f5, .int .i64 x23_7.1.f6, .int .i64 x23_7.1.f7, .slice p23_7.1.1 x23_7.1.f8.length p23_7.1.2, .slice p23_7.2.1.1 x23_7.1.f9.length p23_7.2.1.2, .slice p23_7.2.2.1.1 x23_7.1.f10.length p23_7.2.2.1.2, .int .i64 x23_7.1.f11.f0, .int .i64 x23_7.1.f11.f1, .slice p23_7.2.2.2.1.1 x23_7.1.f11.f2.length p23_7.2.2.2.1.2, .slice p23_7.2.2.2.2.1.1 x23_7.1.f11.f3.length p23_7.2.2.2.2.1.2, .slice p23_7.2.2.2.2.2.1.1 x23_7.1.f11.f4.length p23_7.2.2.2.2.2.1.2, .slice p23_7.2.2.2.2.2.2.1 x23_7.1.f12.length p23_7.2.2.2.2.2.2.2], 34⟩, ⟨p13_25, [.int .i64 x13_1, .int .i64 x13_4, .int .i64 x13_7, .int .i64 x13_10, .int .i64 x13_13, .int .i64 x13_16, .int .i64 x13_19, .int .i64 x13_22, .slice p14_2.1 x14_2.1.length p14_2.2, .slice p18_4.1 x18_4.1.length p18_4.2, .slice p19_6.1 x19_6.1.length p19_6.2, .int .i64 0, .int .i64 0, .slice none 0 0, .slice none 0 0, .slice none 0 0, .slice none 0 0], 34⟩, ⟨p0_0, [.int .i64 0, .int .i64 0, .int .i64 0, .int .i64 0, .int .i64 0, .int .i64 0, .int .i64 0, .int .i64 0, .slice none 0 0, .slice none 0 0, .slice none 0 0, .int .i64 0, .int .i64 0, .slice none 0 0, .slice none 0 0, .slice none 0 0, .slice none 0 0], 34⟩]) (by kernel_rfl) ?_
                      refine O.nil (by kernel_rfl) ?_
                      refine J.cond (o := .tmp 152) true (by kernel_rfl) (by kernel_rfl) ?_
                      refine J.seq (by kernel_rfl) ?_
                      refine J.region (by kernel_rfl) ?_
                      refine O.pure 3 [(2, 0)] [2, 3] [p0_0, 0] (fr' := [(2, .pointer (some ⟨p0_0, 0, none⟩)), (3, .bool false)]) (bx' := [⟨p23_11, [.int .i64 x23_7.1.f0, .int .i64 x23_7.1.f1, .int .i64 x23_7.1.f2, .int .i64 x23_7.1.f3, .int .i64 x23_7.1.f4, .int .i64 x23_7.1.f5, .int .i64 x23_7.1.f6, .int .i64 x23_7.1.f7, .slice p23_7.1.1 x23_7.1.f8.length p23_7.1.2, .slice p23_7.2.1.1 x23_7.1.f9.length p23_7.2.1.2, .slice p23_7.2.2.1.1 x23_7.1.f10.length p23_7.2.2.1.2, .int .i64 x23_7.1.f11.f0, .int .i64 x23_7.1.f11.f1, .slice p23_7.2.2.2.1.1 x23_7.1.f11.f2.length p23_7.2.2.2.1.2, .slice p23_7.2.2.2.2.1.1 x23_7.1.f11.f3.length p23_7.2.2.2.2.1.2, .slice p23_7.2.2.2.2.2.1.1 x23_7.1.f11.f4.length p23_7.2.2.2.2.2.1.2, .slice p23_7.2.2.2.2.2.2.1 x23_7.1.f12.length p23_7.2.2.2.2.2.2.2], 34⟩, ⟨p13_25, [.int .i64 x13_1, .int .i64 x13_4, .int .i64 x13_7, .int .i64 x13_10, .int .i64 x13_13, .int .i64 x13_16, .int .i64 x13_19, .int .i64 x13_22, .slice p14_2.1 x14_2.1.length p14_2.2, .slice p18_4.1 x18_4.1.length p18_4.2, .slice p19_6.1 x19_6.1.length p19_6.2, .int .i64 0, .int .i64 0, .slice none 0 0, .slice none 0 0, .slice none 0 0, .slice none 0 0], 34⟩, ⟨p0_0, [.int .i64 0, .int .i64 0, .int .i64 0, .int .i64 0, .int .i64 0, .int .i64 0, .int .i64 0, .int .i64 0, .slice none 0 0, .slice none 0 0, .slice none 0 0, .int .i64 0, .int .i64 0, .slice none 0 0, .slice none 0 0, .slice none 0 0, .slice none 0 0], 34⟩]) (by kernel_rfl) ?_
                      refine O.nil (by kernel_rfl) ?_
                      obtain rfl := Option.some.inj H
                      refine J.nilF (Kd.int .i64) ?_
                      refine J.nilrow (Kd.int .i64) 2 ?_
                      refine J.nilrow Kd.bool 4 ?_
                      refine J.nilrow kd77 77 ?_
                      refine J.nilrow kd77 77 ?_
                      exact J.doneS [(2, 0)] [p0_0, 0] [0, 0, 0] [] [3, 2, 1, 0] ((none, 0), (none, 0), (none, 0), (none, 0), (none, 0), (none, 0), (none, 0)) (vs := [.agg #[.int .i64 0, .int .i64 0, .int .i64 0, .int .i64 0, .int .i64 0, .int .i64 0, .int .i64 0, .int .i64 0, .slice none 0 0, .slice none 0 0, .slice none 0 0, .int .i64 0, .int .i64 0, .slice none 0 0, .slice none 0 0, .slice none 0 0, .slice none 0 0], .bool false]) (by kernel_rfl) (by kernel_rfl) (by kernel_rfl) (by kernel_rfl) (by kernel_rfl) (by decide)
                    · obtain ⟨x24_4, hx24_4, H⟩ := bindE H
                      refine J.region (by kernel_rfl) ?_
                      refine O.pure 1 [] [2, 19, 146] [] (fr' := [(2, .pointer (some ⟨p0_0, 0, none⟩)), (19, .pointer (some ⟨p23_11, 0, none⟩)), (146, .bool x23_7.2)]) (bx' := [⟨p23_11, [.int .i64 x23_7.1.f0, .int .i64 x23_7.1.f1, .int .i64 x23_7.1.f2, .int .i64 x23_7.1.f3, .int .i64 x23_7.1.f4, .int .i64 x23_7.1.f5, .int .i64 x23_7.1.f6, .int .i64 x23_7.1.f7, .slice p23_7.1.1 x23_7.1.f8.length p23_7.1.2, .slice p23_7.2.1.1 x23_7.1.f9.length p23_7.2.1.2, .slice p23_7.2.2.1.1 x23_7.1.f10.length p23_7.2.2.1.2, .int .i64 x23_7.1.f11.f0, .int .i64 x23_7.1.f11.f1, .slice p23_7.2.2.2.1.1 x23_7.1.f11.f2.length p23_7.2.2.2.1.2, .slice p23_7.2.2.2.2.1.1 x23_7.1.f11.f3.length p23_7.2.2.2.2.1.2, .slice p23_7.2.2.2.2.2.1.1 x23_7.1.f11.f4.length p23_7.2.2.2.2.2.1.2, .slice p23_7.2.2.2.2.2.2.1 x23_7.1.f12.length p23_7.2.2.2.2.2.2.2], 34⟩, ⟨p13_25, [.int .i64 x13_1, .int .i64 x13_4, .int .i64 x13_7, .int .i64 x13_10, .int .i64 x13_13, .int .i64 x13_16, .int .i64 x13_19, .int .i64 x13_22, .slice p14_2.1 x14_2.1.length p14_2.2, .slice p18_4.1 x18_4.1.length p18_4.2, .slice p19_6.1 x19_6.1.length p19_6.2, .int .i64 0, .int .i64 0, .slice none 0 0, .slice none 0 0, .slice none 0 0, .slice none 0 0], 34⟩, ⟨p0_0, [.int .i64 0, .int .i64 0, .int .i64 0, .int .i64 0, .int .i64 0, .int .i64 0, .int .i64 0, .int .i64 0, .slice none 0 0, .slice none 0 0, .slice none 0 0, .int .i64 0, .int .i64 0, .slice none 0 0, .slice none 0 0, .slice none 0 0, .slice none 0 0], 34⟩]) (by kernel_rfl) ?_
                      refine O.q (v := .bool false) (some 147) (Qu.eqv (u := .bool (!x23_7.2)) (v := .bool false) (0, 0) [] (by kernel_rfl) (congrArg Value.bool hc14)) (by kernel_rfl) ?_
                      refine O.pure 2 [(0, 0)] [2, 19, 148, 149] [p23_11, 0] (fr' := [(2, .pointer (some ⟨p0_0, 0, none⟩)), (19, .pointer (some ⟨p23_11, 0, none⟩)), (148, .bool false), (149, .agg #[.int .i64 x23_7.1.f0, .int .i64 x23_7.1.f1, .int .i64 x23_7.1.f2, .int .i64 x23_7.1.f3, .int .i64 x23_7.1.f4, .int .i64 x23_7.1.f5, .int .i64 x23_7.1.f6, .int .i64 x23_7.1.f7, .slice p23_7.1.1 x23_7.1.f8.length p23_7.1.2, .slice p23_7.2.1.1 x23_7.1.f9.length p23_7.2.1.2, .slice p23_7.2.2.1.1 x23_7.1.f10.length p23_7.2.2.1.2, .int .i64 x23_7.1.f11.f0, .int .i64 x23_7.1.f11.f1, .slice p23_7.2.2.2.1.1 x23_7.1.f11.f2.length p23_7.2.2.2.1.2, .slice p23_7.2.2.2.2.1.1 x23_7.1.f11.f3.length p23_7.2.2.2.2.1.2, .slice p23_7.2.2.2.2.2.1.1 x23_7.1.f11.f4.length p23_7.2.2.2.2.2.1.2, .slice p23_7.2.2.2.2.2.2.1 x23_7.1.f12.length p23_7.2.2.2.2.2.2.2])]) (bx' := [⟨p23_11, [.int .i64 x23_7.1.f0, .int .i64 x23_7.1.f1, .int .i64 x23_7.1.f2, .int .i64 x23_7.1.f3, .int .i64 x23_7.1.f4, .int .i64 x23_7.1.f5, .int .i64 x23_7.1.f6, .int .i64 x23_7.1.f7, .slice p23_7.1.1 x23_7.1.f8.length p23_7.1.2, .slice p23_7.2.1.1 x23_7.1.f9.length p23_7.2.1.2, .slice p23_7.2.2.1.1 x23_7.1.f10.length p23_7.2.2.1.2, .int .i64 x23_7.1.f11.f0, .int .i64 x23_7.1.f11.f1, .slice p23_7.2.2.2.1.1 x23_7.1.f11.f2.length p23_7.2.2.2.1.2, .slice p23_7.2.2.2.2.1.1 x23_7.1.f11.f3.length p23_7.2.2.2.2.1.2, .slice p23_7.2.2.2.2.2.1.1 x23_7.1.f11.f4.length p23_7.2.2.2.2.2.1.2, .slice p23_7.2.2.2.2.2.2.1 x23_7.1.f12.length p23_7.2.2.2.2.2.2.2], 34⟩, ⟨p13_25, [.int .i64 x13_1, .int .i64 x13_4, .int .i64 x13_7, .int .i64 x13_10, .int .i64 x13_13, .int .i64 x13_16, .int .i64 x13_19, .int .i64 x13_22, .slice p14_2.1 x14_2.1.length p14_2.2, .slice p18_4.1 x18_4.1.length p18_4.2, .slice p19_6.1 x19_6.1.length p19_6.2, .int .i64 0, .int .i64 0, .slice none 0 0, .slice none 0 0, .slice none 0 0, .slice none 0 0], 34⟩, ⟨p0_0, [.int .i64 0, .int .i64 0, .int .i64 0, .int .i64 0, .int .i64 0, .int .i64 0, .int .i64 0, .int .i64 0, .slice none 0 0, .slice none 0 0, .slice none 0 0, .int .i64 0, .int .i64 0, .slice none 0 0, .slice none 0 0, .slice none 0 0, .slice none 0 0], 34⟩]) (by kernel_rfl) ?_
                      refine O.e (some 150) (Ev.callLb (xs1 := [.tmp 149]) [4, 5, 6, 3, 2, 1, 0] (fun w hS => ((((hS.rowsel [0, 1, 2, 3] rfl (by decide)).freezeL (hh := p23_7.2.2.2.1) (m := x23_7.1.f11.f2.length) (xs := x23_7.1.f11.f2) rfl).freezeL (hh := p23_7.2.2.2.2.1) (m := x23_7.1.f11.f3.length) (xs := x23_7.1.f11.f3) rfl).freezeL (hh := p23_7.2.2.2.2.2.1) (m := x23_7.1.f11.f4.length) (xs := x23_7.1.f11.f4) rfl).freezeL (hh := p23_7.2.2.2.2.2.2) (m := x23_7.1.f12.length) (xs := x23_7.1.f12) rfl) (by kernel_rfl) (by kernel_rfl) (fun _ q hq => by cases hq) (fun w hS => haywainref15_Right.con K x23_7.1 p23_7.1 p23_7.2.1 p23_7.2.2.1 p23_7.2.2.2.1 p23_7.2.2.2.2.1 p23_7.2.2.2.2.2.1 p23_7.2.2.2.2.2.2  _ _ w hS hx24_4)) (by kernel_rfl) (fun _ => ?_)
                      refine O.pure 2 [] [2, 19, 152] [] (fr' := [(2, .pointer (some ⟨p0_0, 0, none⟩)), (19, .pointer (some ⟨p23_11, 0, none⟩)), (152, .bool (!x24_4))]) (bx' := [⟨p23_11, [.int .i64 x23_7.1.f0, .int .i64 x23_7.1.f1, .int .i64 x23_7.1.f2, .int .i64 x23_7.1.f3, .int .i64 x23_7.1.f4, .int .i64 x23_7.1.f5, .int .i64 x23_7.1.f6, .int .i64 x23_7.1.f7, .slice p23_7.1.1 x23_7.1.f8.length p23_7.1.2, .slice p23_7.2.1.1 x23_7.1.f9.length p23_7.2.1.2, .slice p23_7.2.2.1.1 x23_7.1.f10.length p23_7.2.2.1.2, .int .i64 x23_7.1.f11.f0, .int .i64 x23_7.1.f11.f1, .slice p23_7.2.2.2.1.1 x23_7.1.f11.f2.length p23_7.2.2.2.1.2, .slice p23_7.2.2.2.2.1.1 x23_7.1.f11.f3.length p23_7.2.2.2.2.1.2, .slice p23_7.2.2.2.2.2.1.1 x23_7.1.f11.f4.length p23_7.2.2.2.2.2.1.2, .slice p23_7.2.2.2.2.2.2.1 x23_7.1.f12.length p23_7.2.2.2.2.2.2.2], 34⟩, ⟨p13_25, [.int .i64 x13_1, .int .i64 x13_4, .int .i64 x13_7, .int .i64 x13_10, .int .i64 x13_13, .int .i64 x13_16, .int .i64 x13_19, .int .i64 x13_22, .slice p14_2.1 x14_2.1.length p14_2.2, .slice p18_4.1 x18_4.1.length p18_4.2, .slice p19_6.1 x19_6.1.length p19_6.2, .int .i64 0, .int .i64 0, .slice none 0 0, .slice none 0 0, .slice none 0 0, .slice none 0 0], 34⟩, ⟨p0_0, [.int .i64 0, .int .i64 0, .int .i64 0, .int .i64 0, .int .i64 0, .int .i64 0, .int .i64 0, .int .i64 0, .slice none 0 0, .slice none 0 0, .slice none 0 0, .int .i64 0, .int .i64 0, .slice none 0 0, .slice none 0 0, .slice none 0 0, .slice none 0 0], 34⟩]) (by kernel_rfl) ?_
                      refine O.nil (by kernel_rfl) ?_
                      rcases condE H with ⟨hc15, H⟩ | ⟨hc15, H⟩
                      · refine J.condT (x := .tmp 152) (t := (!x24_4)) (by kernel_rfl) (by kernel_rfl) hc15 ?_
                        refine J.seq (by kernel_rfl) ?_
                        refine J.region (by kernel_rfl) ?_
                        refine O.pure 3 [(2, 0)] [2, 3] [p0_0, 0] (fr' := [(2, .pointer (some ⟨p0_0, 0, none⟩)), (3, .bool false)]) (bx' := [⟨p23_11, [.int .i64 x23_7.1.f0, .int .i64 x23_7.1.f1, .int .i64 x23_7.1.f2, .int .i64 x23_7.1.f3, .int .i64 x23_7.1.f4, .int .i64 x23_7.1.f5, .int .i64 x23_7.1.f6, .int .i64 x23_7.1.f7, .slice p23_7.1.1 x23_7.1.f8.length p23_7.1.2, .slice p23_7.2.1.1 x23_7.1.f9.length p23_7.2.1.2, .slice p23_7.2.2.1.1 x23_7.1.f10.length p23_7.2.2.1.2, .int .i64 x23_7.1.f11.f0, .int .i64 x23_7.1.f11.f1, .slice p23_7.2.2.2.1.1 x23_7.1.f11.f2.length p23_7.2.2.2.1.2, .slice p23_7.2.2.2.2.1.1 x23_7.1.f11.f3.length p23_7.2.2.2.2.1.2, .slice p23_7.2.2.2.2.2.1.1 x23_7.1.f11.f4.length p23_7.2.2.2.2.2.1.2, .slice p23_7.2.2.2.2.2.2.1 x23_7.1.f12.length p23_7.2.2.2.2.2.2.2], 34⟩, ⟨p13_25, [.int .i64 x13_1, .int .i64 x13_4, .int .i64 x13_7, .int .i64 x13_10, .int .i64 x13_13, .int .i64 x13_16, .int .i64 x13_19, .int .i64 x13_22, .slice p14_2.1 x14_2.1.length p14_2.2, .slice p18_4.1 x18_4.1.length p18_4.2, .slice p19_6.1 x19_6.1.length p19_6.2, .int .i64 0, .int .i64 0, .slice none 0 0, .slice none 0 0, .slice none 0 0, .slice none 0 0], 34⟩, ⟨p0_0, [.int .i64 0, .int .i64 0, .int .i64 0, .int .i64 0, .int .i64 0, .int .i64 0, .int .i64 0, .int .i64 0, .slice none 0 0, .slice none 0 0, .slice none 0 0, .int .i64 0, .int .i64 0, .slice none 0 0, .slice none 0 0, .slice none 0 0, .slice none 0 0], 34⟩]) (by kernel_rfl) ?_
                        refine O.nil (by kernel_rfl) ?_
                        obtain rfl := Option.some.inj H
                        refine J.nilF (Kd.int .i64) ?_
                        refine J.nilrow (Kd.int .i64) 2 ?_
                        refine J.nilrow Kd.bool 4 ?_
                        refine J.nilrow kd77 77 ?_
                        refine J.nilrow kd77 77 ?_
                        exact J.doneS [(2, 0)] [p0_0, 0] [0, 0, 0] [] [3, 2, 1, 0] ((none, 0), (none, 0), (none, 0), (none, 0), (none, 0), (none, 0), (none, 0)) (vs := [.agg #[.int .i64 0, .int .i64 0, .int .i64 0, .int .i64 0, .int .i64 0, .int .i64 0, .int .i64 0, .int .i64 0, .slice none 0 0, .slice none 0 0, .slice none 0 0, .int .i64 0, .int .i64 0, .slice none 0 0, .slice none 0 0, .slice none 0 0, .slice none 0 0], .bool false]) (by kernel_rfl) (by kernel_rfl) (by kernel_rfl) (by kernel_rfl) (by kernel_rfl) (by decide)
                      · refine J.condF (x := .tmp 152) (t := (!x24_4)) (by kernel_rfl) (by kernel_rfl) hc15 ?_
                        refine J.skip (by kernel_rfl) ?_
                        refine J.seq (by kernel_rfl) ?_
                        refine J.region (by kernel_rfl) ?_
                        refine O.pure 3 [(0, 0), (2, 0)] [2, 3] [p23_11, 0, p0_0, 0] (fr' := [(2, .pointer (some ⟨p0_0, 0, none⟩)), (3, .bool true)]) (bx' := [⟨p23_11, [.int .i64 x23_7.1.f0, .int .i64 x23_7.1.f1, .int .i64 x23_7.1.f2, .int .i64 x23_7.1.f3, .int .i64 x23_7.1.f4, .int .i64 x23_7.1.f5, .int .i64 x23_7.1.f6, .int .i64 x23_7.1.f7, .slice p23_7.1.1 x23_7.1.f8.length p23_7.1.2, .slice p23_7.2.1.1 x23_7.1.f9.length p23_7.2.1.2, .slice p23_7.2.2.1.1 x23_7.1.f10.length p23_7.2.2.1.2, .int .i64 x23_7.1.f11.f0, .int .i64 x23_7.1.f11.f1, .slice p23_7.2.2.2.1.1 x23_7.1.f11.f2.length p23_7.2.2.2.1.2, .slice p23_7.2.2.2.2.1.1 x23_7.1.f11.f3.length p23_7.2.2.2.2.1.2, .slice p23_7.2.2.2.2.2.1.1 x23_7.1.f11.f4.length p23_7.2.2.2.2.2.1.2, .slice p23_7.2.2.2.2.2.2.1 x23_7.1.f12.length p23_7.2.2.2.2.2.2.2], 34⟩, ⟨p13_25, [.int .i64 x13_1, .int .i64 x13_4, .int .i64 x13_7, .int .i64 x13_10, .int .i64 x13_13, .int .i64 x13_16, .int .i64 x13_19, .int .i64 x13_22, .slice p14_2.1 x14_2.1.length p14_2.2, .slice p18_4.1 x18_4.1.length p18_4.2, .slice p19_6.1 x19_6.1.length p19_6.2, .int .i64 0, .int .i64 0, .slice none 0 0, .slice none 0 0, .slice none 0 0, .slice none 0 0], 34⟩, ⟨p0_0, [.int .i64 x23_7.1.f0, .int .i64 x23_7.1.f1, .int .i64 x23_7.1.f2, .int .i64 x23_7.1.f3, .int .i64 x23_7.1.f4, .int .i64 x23_7.1.f5, .int .i64 x23_7.1.f6, .int .i64 x23_7.1.f7, .slice p23_7.1.1 x23_7.1.f8.length p23_7.1.2, .slice p23_7.2.1.1 x23_7.1.f9.length p23_7.2.1.2, .slice p23_7.2.2.1.1 x23_7.1.f10.length p23_7.2.2.1.2, .int .i64 x23_7.1.f11.f0, .int .i64 x23_7.1.f11.f1, .slice p23_7.2.2.2.1.1 x23_7.1.f11.f2.length p23_7.2.2.2.1.2, .slice p23_7.2.2.2.2.1.1 x23_7.1.f11.f3.length p23_7.2.2.2.2.1.2, .slice p23_7.2.2.2.2.2.1.1 x23_7.1.f11.f4.length p23_7.2.2.2.2.2.1.2, .slice p23_7.2.2.2.2.2.2.1 x23_7.1.f12.length p23_7.2.2.2.2.2.2.2], 34⟩]) (by kernel_rfl) ?_
                        refine O.nil (by kernel_rfl) ?_
                        obtain rfl := Option.some.inj H
                        exact J.doneS [(2, 0)] [p0_0, 0] [0, 1, 2] [] [0, 1, 2, 3] (p23_7.1, p23_7.2.1, p23_7.2.2.1, p23_7.2.2.2.1, p23_7.2.2.2.2.1, p23_7.2.2.2.2.2.1, p23_7.2.2.2.2.2.2) (vs := [.agg #[.int .i64 x23_7.1.f0, .int .i64 x23_7.1.f1, .int .i64 x23_7.1.f2, .int .i64 x23_7.1.f3, .int .i64 x23_7.1.f4, .int .i64 x23_7.1.f5, .int .i64 x23_7.1.f6, .int .i64 x23_7.1.f7, .slice p23_7.1.1 x23_7.1.f8.length p23_7.1.2, .slice p23_7.2.1.1 x23_7.1.f9.length p23_7.2.1.2, .slice p23_7.2.2.1.1 x23_7.1.f10.length p23_7.2.2.1.2, .int .i64 x23_7.1.f11.f0, .int .i64 x23_7.1.f11.f1, .slice p23_7.2.2.2.1.1 x23_7.1.f11.f2.length p23_7.2.2.2.1.2, .slice p23_7.2.2.2.2.1.1 x23_7.1.f11.f3.length p23_7.2.2.2.2.1.2, .slice p23_7.2.2.2.2.2.1.1 x23_7.1.f11.f4.length p23_7.2.2.2.2.2.1.2, .slice p23_7.2.2.2.2.2.2.1 x23_7.1.f12.length p23_7.2.2.2.2.2.2.2], .bool true]) (by kernel_rfl) (by kernel_rfl) (by kernel_rfl) (by kernel_rfl) (by kernel_rfl) (by decide)
      · refine J.block (id := 0) (by kernel_rfl) ?_
        refine J.loopI (σ := (List Int) × Int) (γ := Hd) (f := fun m_ s_ => haywainref15_Decode.l16 K a0 m_ s_) (fun s16 g16 => [(0, .slice h0.1 a0.length h0.2), (2, .pointer (some ⟨p0_0, 0, none⟩)), (4, .slice g16.1 s16.1.length g16.2), (5, .int .i64 s16.2)]) (fun s16 g16 => St X w [] [⟨p0_0, [.int .i64 0, .int .i64 0, .int .i64 0, .int .i64 0, .int .i64 0, .int .i64 0, .int .i64 0, .int .i64 0, .slice none 0 0, .slice none 0 0, .slice none 0 0, .int .i64 0, .int .i64 0, .slice none 0 0, .slice none 0 0, .slice none 0 0, .slice none 0 0], 34⟩] [mkRow (Kd.int .i64) 2 (.slice g16.1 s16.1.length g16.2) s16.1] [] [Rd (Kd.int .u8) h0.1 h0.2 a0]) K (([] : List Int), 0) (none, 0) (by kernel_rfl) H (fun _ => rfl) (fun m_ s16 H ih16 g16 => ?_) (fun h_ => ?_)
        · unfold haywainref15_Decode.l16 at H
          refine J.seq (by kernel_rfl) ?_
          refine J.seq (by kernel_rfl) ?_
          refine J.region (by kernel_rfl) ?_
          refine O.pure 4 [] [0, 2, 4, 5, 34] [] (fr' := [(0, .slice h0.1 a0.length h0.2), (2, .pointer (some ⟨p0_0, 0, none⟩)), (4, .slice g16.1 s16.1.length g16.2), (5, .int .i64 s16.2), (34, .bool (decide (s16.2 < (a0.length : Int))))]) (bx' := [⟨p0_0, [.int .i64 0, .int .i64 0, .int .i64 0, .int .i64 0, .int .i64 0, .int .i64 0, .int .i64 0, .int .i64 0, .slice none 0 0, .slice none 0 0, .slice none 0 0, .int .i64 0, .int .i64 0, .slice none 0 0, .slice none 0 0, .slice none 0 0, .slice none 0 0], 34⟩]) (by kernel_rfl) ?_
          refine O.nil (by kernel_rfl) ?_
          rcases condE H with ⟨hc19, H⟩ | ⟨hc19, H⟩
          · refine J.condT (x := .tmp 34) (t := (decide (s16.2 < (a0.length : Int)))) (by kernel_rfl) (by kernel_rfl) hc19 ?_
            refine J.skip (by kernel_rfl) ?_
            refine J.seq (by kernel_rfl) ?_
            refine J.block (id := 1) (by kernel_rfl) ?_
            refine J.seq (by kernel_rfl) ?_
            obtain ⟨y7_2, hy7_2, H⟩ := bindE H
            obtain ⟨hy7_2a, hy7_2b, hy7_2c, -⟩ := cutE hy7_2
            obtain ⟨x7_3, hx7_3, H⟩ := bindE H
            refine J.region (by kernel_rfl) ?_
            refine O.pure 2 [] [0, 2, 4, 5, 38, 39] [] (fr' := [(0, .slice h0.1 a0.length h0.2), (2, .pointer (some ⟨p0_0, 0, none⟩)), (4, .slice g16.1 s16.1.length g16.2), (5, .int .i64 s16.2), (38, .slice h0.1 a0.length h0.2), (39, .int .i64 s16.2)]) (bx' := [⟨p0_0, [.int .i64 0, .int .i64 0, .int .i64 0, .int .i64 0, .int .i64 0, .int .i64 0, .int .i64 0, .int .i64 0, .slice none 0 0, .slice none 0 0, .slice none 0 0, .int .i64 0, .int .i64 0, .slice none 0 0, .slice none 0 0, .slice none 0 0, .slice none 0 0], 34⟩]) (by kernel_rfl) ?_
            refine O.e (some 40) (Ev.cut (d := (Kd.int .u8)) (xs := a0) (t := 36) (x := .tmp 38) (lo := (some (.tmp 39))) (hi := none) (vlo := (some (.int .i64 s16.2))) (vhi := none) (A := h0.1) (c := h0.2) (l := (s16.2 : Int).toNat) (h := ((a0.length : Int) : Int).toNat) 0 (by kernel_rfl) (by kernel_rfl) (by kernel_rfl) (by kernel_rfl) (by kernel_rfl) (Bd.val _ _ _ (by omega)) (Bd.dflt _) (by omega) (by omega) rfl) (by kernel_rfl) (fun p7_2 => ?_)
            refine O.e (some 41) (Ev.call0 (xs := [.tmp 40]) [0] (by kernel_rfl) (by kernel_rfl) (fun w hS => haywainref02_TakeNum.con K (cutL a0 ((s16.2 : Int).toNat) (((a0.length : Int) : Int).toNat)) p7_2  _ _ w hS hx7_3)) (by kernel_rfl) (fun _ => ?_)
            refine O.pure 5 [] [0, 2, 4, 5, 6] [] (fr' := [(0, .slice h0.1 a0.length h0.2), (2, .pointer (some ⟨p0_0, 0, none⟩)), (4, .slice g16.1 s16.1.length g16.2), (5, .int .i64 s16.2), (6, .int .i64 x7_3.1)]) (bx' := [⟨p0_0, [.int .i64 0, .int .i64 0, .int .i64 0, .int .i64 0, .int .i64 0, .int .i64 0, .int .i64 0, .int .i64 0, .slice none 0 0, .slice none 0 0, .slice none 0 0, .int .i64 0, .int .i64 0, .slice none 0 0, .slice none 0 0, .slice none 0 0, .slice none 0 0], 34⟩]) (by kernel_rfl) ?_
            refine O.nil (by kernel_rfl) ?_
            obtain ⟨y8_3, hy8_3, H⟩ := bindE H
            have hy8_3a := (appE hy8_3).1
            refine J.region (by kernel_rfl) ?_
            refine O.pure 2 [] [0, 2, 4, 5, 44, 45] [] (fr' := [(0, .slice h0.1 a0.length h0.2), (2, .pointer (some ⟨p0_0, 0, none⟩)), (4, .slice g16.1 s16.1.length g16.2), (5, .int .i64 s16.2), (44, .slice g16.1 s16.1.length g16.2), (45, .int .i64 x7_3.1)]) (bx' := [⟨p0_0, [.int .i64 0, .int .i64 0, .int .i64 0, .int .i64 0, .int .i64 0, .int .i64 0, .int .i64 0, .int .i64 0, .slice none 0 0, .slice none 0 0, .slice none 0 0, .int .i64 0, .int .i64 0, .slice none 0 0, .slice none 0 0, .slice none 0 0, .slice none 0 0], 34⟩]) (by kernel_rfl) ?_
            refine O.e (some 46) (Ev.lit (t := 23) (len := 1) (parts := #[(0, .tmp 45)]) (ps := [(0, .int .i64 x7_3.1)]) (cs := [.int .i64 x7_3.1]) (e := 2) (Kd.int .i64) ([x7_3.1] : List Int) (by kernel_rfl) (by kernel_rfl) (by kernel_rfl) (by kernel_rfl) (by kernel_rfl) (by decide) (fun w' hφ => (Els.cons (c := [.int .i64 x7_3.1]) (rfl) (Els.nil _ _ _)))) (by kernel_rfl) (fun p8_2 => ?_)
            refine O.e (some 47) (Ev.appLit (x := .tmp 44) (y := .tmp 46) (t := 23) (bytes := 8) (by kernel_rfl) (by kernel_rfl) (by kernel_rfl) (by kernel_rfl) (by kernel_rfl) (by decide) hy8_3a) (by kernel_rfl) (fun p8_3 => ?_)
            refine O.pure 1 [] [0, 2, 4, 5] [] (fr' := [(0, .slice h0.1 a0.length h0.2), (2, .pointer (some ⟨p0_0, 0, none⟩)), (4, .slice p8_3.1 (s16.1 ++ ([x7_3.1] : List Int)).length p8_3.2), (5, .int .i64 s16.2)]) (bx' := [⟨p0_0, [.int .i64 0, .int .i64 0, .int .i64 0, .int .i64 0, .int .i64 0, .int .i64 0, .int .i64 0, .int .i64 0, .slice none 0 0, .slice none 0 0, .slice none 0 0, .int .i64 0, .int .i64 0, .slice none 0 0, .slice none 0 0, .slice none 0 0, .slice none 0 0], 34⟩]) (by kernel_rfl) ?_
            refine O.nil (by kernel_rfl) ?_
            refine J.out ?_
            refine J.region (by kernel_rfl) ?_
            refine O.pure 3 [] [0, 2, 4, 5] [] (fr' := [(0, .slice h0.1 a0.length h0.2), (2, .pointer (some ⟨p0_0, 0, none⟩)), (4, .slice p8_3.1 (s16.1 ++ ([x7_3.1] : List Int)).length p8_3.2), (5, .int .i64 (IntKind.wrap .i64 (s16.2 + 8)))]) (bx' := [⟨p0_0, [.int .i64 0, .int .i64 0, .int .i64 0, .int .i64 0, .int .i64 0, .int .i64 0, .int .i64 0, .int .i64 0, .slice none 0 0, .slice none 0 0, .slice none 0 0, .int .i64 0, .int .i64 0, .slice none 0 0, .slice none 0 0, .slice none 0 0, .slice none 0 0], 34⟩]) (by kernel_rfl) ?_
            refine O.nil (by kernel_rfl) ?_
            exact J.conv2 [0, 2, 4, 5] [1] [0] [0] (by kernel_rfl) (by kernel_rfl) (by kernel_rfl) (by kernel_rfl) (by decide) (ih16 ((s16.1 ++ ([x7_3.1] : List Int)), (IntKind.wrap .i64 (s16.2 + 8))) p8_3 H)
          · refine J.condF (x := .tmp 34) (t := (decide (s16.2 < (a0.length : Int)))) (by kernel_rfl) (by kernel_rfl) hc19 ?_
            refine J.exit (id := 0) (by kernel_rfl) rfl ?_
            obtain rfl := Option.some.inj H
            exact J.conv2 [2, 4] [0] [0] [0] (by kernel_rfl) (by kernel_rfl) (by kernel_rfl) (by kernel_rfl) (by decide) (hj3 g16)
        · refine J.nilrow (Kd.int .i64) 2 ?_
          exact J.conv2 [0, 2, 4, 5] [0] [0] [0] (by kernel_rfl) (by kernel_rfl) (by kernel_rfl) (by kernel_rfl) (by decide) h_
/-! ### haywain/haywainref09.SameInts: function 37 -/
def haywainref09_SameInts.l2 (K : Nat) (a0 : List Int) (a1 : List Int) : Nat → Int → Option Bool
  | 0, _ => none
  | k + 1, s2 => cond (decide (s2 < (a0.length : Int))) ((idxO a0 s2).bind fun x6_2 => (idxO a1 s2).bind fun x6_6 => cond (x6_2 != x6_6) (some (false)) (haywainref09_SameInts.l2 K a0 a1 k (IntKind.wrap .i64 (s2 + 1)))) (some (true))
def haywainref09_SameInts.f (K : Nat) (a0 : List Int) (a1 : List Int) : Option Bool := cond ((a0.length : Int) != (a1.length : Int)) (some (false)) (haywainref09_SameInts.l2 K a0 a1 K 0)
set_option maxRecDepth 100000 in
set_option maxHeartbeats 1000000 in
theorem haywainref09_SameInts.con (K : Nat) (a0 : List Int) (a1 : List Int) (h0 : Hd) (h1 : Hd) (r : Bool) (X : Nat → Nat → Prop) (w : World) (hS : St X w [] [] [] [] [Rd (Kd.int .i64) h0.1 h0.2 a0, Rd (Kd.int .i64) h1.1 h1.2 a1] w) (H : haywainref09_SameInts.f K a0 a1 = some r) :
    Cn Try.prog 37 [.slice h0.1 a0.length h0.2, .slice h1.1 a1.length h1.2] X w [] (fun i : Unit => .bool r) (fun i => []) (fun i => []) (fun i => []) := by
  refine Cn.of Try.func37 (by kernel_rfl) hS ?_
  unfold haywainref09_SameInts.f at H
  refine J.seq (by kernel_rfl) ?_
  refine J.region (by kernel_rfl) ?_
  refine O.pure 1 [] [0, 1] [] (fr' := [(0, .slice h0.1 a0.length h0.2), (1, .slice h1.1 a1.length h1.2)]) (bx' := []) (by kernel_rfl) ?_
  refine O.nil (by kernel_rfl) ?_
  refine J.seq (by kernel_rfl) ?_
  refine J.seq (by kernel_rfl) ?_
  refine J.region (by kernel_rfl) ?_
  refine O.pure 5 [] [0, 1, 10] [] (fr' := [(0, .slice h0.1 a0.length h0.2), (1, .slice h1.1 a1.length h1.2), (10, .bool ((a0.length : Int) != (a1.length : Int)))]) (bx' := []) (by kernel_rfl) ?_
  refine O.nil (by kernel_rfl) ?_
  rcases condE H with ⟨hc1, H⟩ | ⟨hc1, H⟩
  · refine J.condT (x := .tmp 10) (t := ((a0.length : Int) != (a1.length : Int))) (by kernel_rfl) (by kernel_rfl) hc1 ?_
    refine J.seq (by kernel_rfl) ?_
    refine J.region (by kernel_rfl) ?_
    refine O.pure 1 [] [4] [] (fr' := [(4, .bool false)]) (bx' := []) (by kernel_rfl) ?_
    refine O.nil (by kernel_rfl) ?_
    obtain rfl := Option.some.inj H
    exact J.doneS [] [] [] [] [] () (vs := [.bool false]) (by kernel_rfl) (by kernel_rfl) (by kernel_rfl) (by kernel_rfl) (by kernel_rfl) (by decide)
  · refine J.condF (x := .tmp 10) (t := ((a0.length : Int) != (a1.length : Int))) (by kernel_rfl) (by kernel_rfl) hc1 ?_
    refine J.skip (by kernel_rfl) ?_
    refine J.seq (by kernel_rfl) ?_
    refine J.seq (by kernel_rfl) ?_
    refine J.region (by kernel_rfl) ?_
    refine O.pure 1 [] [0, 1, 5] [] (fr' := [(0, .slice h0.1 a0.length h0.2), (1, .slice h1.1 a1.length h1.2), (5, .int .i64 0)]) (bx' := []) (by kernel_rfl) ?_
    refine O.nil (by kernel_rfl) ?_
    refine J.block (id := 0) (by kernel_rfl) ?_
    refine J.loopI (σ := Int) (γ := Unit) (f := fun m_ s_ => haywainref09_SameInts.l2 K a0 a1 m_ s_) (fun s2 g2 => [(0, .slice h0.1 a0.length h0.2), (1, .slice h1.1 a1.length h1.2), (5, .int .i64 s2)]) (fun s2 g2 => St X w [] [] [] [] [Rd (Kd.int .i64) h0.1 h0.2 a0, Rd (Kd.int .i64) h1.1 h1.2 a1]) K 0 () (by kernel_rfl) H (fun _ => rfl) (fun m_ s2 H ih2 g2 => ?_) (fun h_ => ?_)
    · unfold haywainref09_SameInts.l2 at H
      refine J.seq (by kernel_rfl) ?_
      refine J.seq (by kernel_rfl) ?_
      refine J.region (by kernel_rfl) ?_
      refine O.pure 4 [] [0, 1, 5, 14] [] (fr' := [(0, .slice h0.1 a0.length h0.2), (1, .slice h1.1 a1.length h1.2), (5, .int .i64 s2), (14, .bool (decide (s2 < (a0.length : Int))))]) (bx' := []) (by kernel_rfl) ?_
      refine O.nil (by kernel_rfl) ?_
      rcases condE H with ⟨hc7, H⟩ | ⟨hc7, H⟩
      · refine J.condT (x := .tmp 14) (t := (decide (s2 < (a0.length : Int)))) (by kernel_rfl) (by kernel_rfl) hc7 ?_
        refine J.skip (by kernel_rfl) ?_
        refine J.seq (by kernel_rfl) ?_
        refine J.block (id := 1) (by kernel_rfl) ?_
        refine J.seq (by kernel_rfl) ?_
        obtain ⟨x6_2, hx6_2, H⟩ := bindE H
        obtain ⟨hx6_2a, hx6_2⟩ := idxE hx6_2
        obtain ⟨x6_6, hx6_6, H⟩ := bindE H
        obtain ⟨hx6_6a, hx6_6⟩ := idxE hx6_6
        refine J.open (d := (Kd.int .i64)) (h := h0) (i := s2) 0 rfl hx6_2 (Lay.int _ _) (fun p6_2 hp6_2A => ?_)
        refine J.open (d := (Kd.int .i64)) (h := h1) (i := s2) 1 rfl hx6_6 (Lay.int _ _) (fun p6_6 hp6_6A => ?_)
        refine J.drawS (by kernel_rfl) [(0, some 17, .slice h0.1 a0.length h0.2), (1, some 18, .int .i64 s2), (3, some 20, .int .i64 x6_2), (4, some 21, .slice h1.1 a1.length h1.2), (5, some 22, .int .i64 s2), (7, some 24, .int .i64 x6_6), (8, some 25, .bool (x6_2 != x6_6)), (2, some 19, .pointer (some ⟨p6_2.1, p6_2.2.1 + s2.toNat * 1, none⟩)), (6, some 23, .pointer (some ⟨p6_6.1, p6_6.2.1 + s2.toNat * 1, none⟩))] ([0, 1, 3, 4, 5, 7, 8] ++ [2, 6]) (by kernel_rfl) ?_
        refine D.fin (fr' := [(0, .slice h0.1 a0.length h0.2), (1, .slice h1.1 a1.length h1.2), (5, .int .i64 s2), (25, .bool (x6_2 != x6_6))]) [0, 1, 3, 4, 5, 7, 8] [2, 6] [(1, 0), (0, 0)] [p6_2.1, p6_2.2.1 + s2.toNat * 1, p6_6.1, p6_6.2.1 + s2.toNat * 1] [0, 1, 5, 25] (by kernel_rfl) (by kernel_rfl) (⟨QuAt.mk (v := .pointer (some ⟨p6_2.1, p6_2.2.1 + s2.toNat * 1, none⟩)) (some 19) (by kernel_rfl) (by kernel_rfl) (Qu.idx (t := 22) (x := .tmp 17) (y := .tmp 18) (c := h0.2) (kk := .i64) (sz := 1) (by kernel_rfl) (by kernel_rfl) (by kernel_rfl) (by kernel_rfl) hx6_2a (idx_lt hx6_2) hp6_2A), QuAt.mk (v := .pointer (some ⟨p6_6.1, p6_6.2.1 + s2.toNat * 1, none⟩)) (some 23) (by kernel_rfl) (by kernel_rfl) (Qu.idx (t := 22) (x := .tmp 21) (y := .tmp 22) (c := h1.2) (kk := .i64) (sz := 1) (by kernel_rfl) (by kernel_rfl) (by kernel_rfl) (by kernel_rfl) hx6_6a (idx_lt hx6_6) hp6_6A), trivial⟩) (by kernel_rfl) ?_
        rcases condE H with ⟨hc8, H⟩ | ⟨hc8, H⟩
        · refine J.condT (x := .tmp 25) (t := (x6_2 != x6_6)) (by kernel_rfl) (by kernel_rfl) hc8 ?_
          refine J.seq (by kernel_rfl) ?_
          refine J.region (by kernel_rfl) ?_
          refine O.pure 1 [] [4] [] (fr' := [(4, .bool false)]) (bx' := []) (by kernel_rfl) ?_
          refine O.nil (by kernel_rfl) ?_
          obtain rfl := Option.some.inj H
          exact J.doneS [] [] [] [] [] () (vs := [.bool false]) (by kernel_rfl) (by kernel_rfl) (by kernel_rfl) (by kernel_rfl) (by kernel_rfl) (by decide)
        · refine J.condF (x := .tmp 25) (t := (x6_2 != x6_6)) (by kernel_rfl) (by kernel_rfl) hc8 ?_
          refine J.skip (by kernel_rfl) ?_
          refine J.out ?_
          refine J.region (by kernel_rfl) ?_
          refine O.pure 3 [] [0, 1, 5] [] (fr' := [(0, .slice h0.1 a0.length h0.2), (1, .slice h1.1 a1.length h1.2), (5, .int .i64 (IntKind.wrap .i64 (s2 + 1)))]) (bx' := []) (by kernel_rfl) ?_
          refine O.nil (by kernel_rfl) ?_
          exact J.conv2 [0, 1, 5] [0, 1] [] [] (by kernel_rfl) (by kernel_rfl) (by kernel_rfl) (by kernel_rfl) (by decide) (ih2 (IntKind.wrap .i64 (s2 + 1)) () H)
      · refine J.condF (x := .tmp 14) (t := (decide (s2 < (a0.length : Int)))) (by kernel_rfl) (by kernel_rfl) hc7 ?_
        refine J.exit (id := 0) (by kernel_rfl) rfl ?_
        refine J.seq (by kernel_rfl) ?_
        refine J.region (by kernel_rfl) ?_
        refine O.pure 1 [] [4] [] (fr' := [(4, .bool true)]) (bx' := []) (by kernel_rfl) ?_
        refine O.nil (by kernel_rfl) ?_
        obtain rfl := Option.some.inj H
        exact J.doneS [] [] [] [] [] () (vs := [.bool true]) (by kernel_rfl) (by kernel_rfl) (by kernel_rfl) (by kernel_rfl) (by kernel_rfl) (by decide)
    · exact J.conv2 [0, 1, 5] [0, 1] [] [] (by kernel_rfl) (by kernel_rfl) (by kernel_rfl) (by kernel_rfl) (by decide) h_
/-! ### haywain/haywainref04.SameMsgs: function 39 -/
def haywainref04_SameMsgs.l2 (K : Nat) (a0 : List S77) (a1 : List S77) : Nat → Int → Option Bool
  | 0, _ => none
  | k + 1, s2 => cond (decide (s2 < (a0.length : Int))) ((idxO a0 s2).bind fun x6_2 => (idxO a1 s2).bind fun x6_6 => cond (!(x6_2.f0 == x6_6.f0 && (x6_2.f1 == x6_6.f1 && true))) (some (false)) (haywainref04_SameMsgs.l2 K a0 a1 k (IntKind.wrap .i64 (s2 + 1)))) (some (true))
def haywainref04_SameMsgs.f (K : Nat) (a0 : List S77) (a1 : List S77) : Option Bool := cond ((a0.length : Int) != (a1.length : Int)) (some (false)) (haywainref04_SameMsgs.l2 K a0 a1 K 0)
set_option maxRecDepth 100000 in
set_option maxHeartbeats 1000000 in
theorem haywainref04_SameMsgs.con (K : Nat) (a0 : List S77) (a1 : List S77) (h0 : Hd) (h1 : Hd) (r : Bool) (X : Nat → Nat → Prop) (w : World) (hS : St X w [] [] [] [] [Rd kd77 h0.1 h0.2 a0, Rd kd77 h1.1 h1.2 a1] w) (H : haywainref04_SameMsgs.f K a0 a1 = some r) :
    Cn Try.prog 39 [.slice h0.1 a0.length h0.2, .slice h1.1 a1.length h1.2] X w [] (fun i : Unit => .bool r) (fun i => []) (fun i => []) (fun i => []) := by
  refine Cn.of Try.func39 (by kernel_rfl) hS ?_
  unfold haywainref04_SameMsgs.f at H
  refine J.seq (by kernel_rfl) ?_
  refine J.region (by kernel_rfl) ?_
  refine O.pure 1 [] [0, 1] [] (fr' := [(0, .slice h0.1 a0.length h0.2), (1, .slice h1.1 a1.length h1.2)]) (bx' := []) (by kernel_rfl) ?_
  refine O.nil (by kernel_rfl) ?_
  refine J.seq (by kernel_rfl) ?_
  refine J.seq (by kernel_rfl) ?_
  refine J.region (by kernel_rfl) ?_
  refine O.pure 5 [] [0, 1, 10] [] (fr' := [(0, .slice h0.1 a0.length h0.2), (1, .slice h1.1 a1.length h1.2), (10, .bool ((a0.length : Int) != (a1.length : Int)))]) (bx' := []) (by kernel_rfl) ?_
  refine O.nil (by kernel_rfl) ?_
  rcases condE H with ⟨hc1, H⟩ | ⟨hc1, H⟩
  · refine J.condT (x := .tmp 10) (t := ((a0.length : Int) != (a1.length : Int))) (by kernel_rfl) (by kernel_rfl) hc1 ?_
    refine J.seq (by kernel_rfl) ?_
    refine J.region (by kernel_rfl) ?_
    refine O.pure 1 [] [4] [] (fr' := [(4, .bool false)]) (bx' := []) (by kernel_rfl) ?_
    refine O.nil (by kernel_rfl) ?_
    obtain rfl := Option.some.inj H
    exact J.doneS [] [] [] [] [] () (vs := [.bool false]) (by kernel_rfl) (by kernel_rfl) (by kernel_rfl) (by kernel_rfl) (by kernel_rfl) (by decide)
  · refine J.condF (x := .tmp 10) (t := ((a0.length : Int) != (a1.length : Int))) (by kernel_rfl) (by kernel_rfl) hc1 ?_
    refine J.skip (by kernel_rfl) ?_
    refine J.seq (by kernel_rfl) ?_
    refine J.seq (by kernel_rfl) ?_
    refine J.region (by kernel_rfl) ?_
    refine O.pure 1 [] [0, 1, 5] [] (fr' := [(0, .slice h0.1 a0.length h0.2), (1, .slice h1.1 a1.length h1.2), (5, .int .i64 0)]) (bx' := []) (by kernel_rfl) ?_
    refine O.nil (by kernel_rfl) ?_
    refine J.block (id := 0) (by kernel_rfl) ?_
    refine J.loopI (σ := Int) (γ := Unit) (f := fun m_ s_ => haywainref04_SameMsgs.l2 K a0 a1 m_ s_) (fun s2 g2 => [(0, .slice h0.1 a0.length h0.2), (1, .slice h1.1 a1.length h1.2), (5, .int .i64 s2)]) (fun s2 g2 => St X w [] [] [] [] [Rd kd77 h0.1 h0.2 a0, Rd kd77 h1.1 h1.2 a1]) K 0 () (by kernel_rfl) H (fun _ => rfl) (fun m_ s2 H ih2 g2 => ?_) (fun h_ => ?_)
    · unfold haywainref04_SameMsgs.l2 at H
      refine J.seq (by kernel_rfl) ?_
      refine J.seq (by kernel_rfl) ?_
      refine J.region (by kernel_rfl) ?_
      refine O.pure 4 [] [0, 1, 5, 14] [] (fr' := [(0, .slice h0.1 a0.length h0.2), (1, .slice h1.1 a1.length h1.2), (5, .int .i64 s2), (14, .bool (decide (s2 < (a0.length : Int))))]) (bx' := []) (by kernel_rfl) ?_
      refine O.nil (by kernel_rfl) ?_
      rcases condE H with ⟨hc7, H⟩ | ⟨hc7, H⟩
      · refine J.condT (x := .tmp 14) (t := (decide (s2 < (a0.length : Int)))) (by kernel_rfl) (by kernel_rfl) hc7 ?_
        refine J.skip (by kernel_rfl) ?_
        refine J.seq (by kernel_rfl) ?_
        refine J.block (id := 1) (by kernel_rfl) ?_
        refine J.seq (by kernel_rfl) ?_
        obtain ⟨x6_2, hx6_2, H⟩ := bindE H
        obtain ⟨hx6_2a, hx6_2⟩ := idxE hx6_2
        obtain ⟨x6_6, hx6_6, H⟩ := bindE H
        obtain ⟨hx6_6a, hx6_6⟩ := idxE hx6_6
        refine J.open (d := kd77) (h := h0) (i := s2) 0 rfl hx6_2 (op77 _) (fun p6_2 hp6_2A => ?_)
        refine J.open (d := kd77) (h := h1) (i := s2) 1 rfl hx6_6 (op77 _) (fun p6_6 hp6_6A => ?_)
        refine J.drawS (by kernel_rfl) [(0, some 17, .slice h0.1 a0.length h0.2), (1, some 18, .int .i64 s2), (3, some 20, .agg #[.int .i64 x6_2.f0, .int .i64 x6_2.f1]), (4, some 21, .slice h1.1 a1.length h1.2), (5, some 22, .int .i64 s2), (7, some 24, .agg #[.int .i64 x6_6.f0, .int .i64 x6_6.f1]), (2, some 19, .pointer (some ⟨p6_2.1, p6_2.2.1 + s2.toNat * 2, none⟩)), (6, some 23, .pointer (some ⟨p6_6.1, p6_6.2.1 + s2.toNat * 2, none⟩)), (8, some 25, .bool (!(x6_2.f0 == x6_6.f0 && (x6_2.f1 == x6_6.f1 && true))))] ([0, 1, 3, 4, 5, 7] ++ [2, 6, 8]) (by kernel_rfl) ?_
        refine D.fin (fr' := [(0, .slice h0.1 a0.length h0.2), (1, .slice h1.1 a1.length h1.2), (5, .int .i64 s2), (25, .bool (!(x6_2.f0 == x6_6.f0 && (x6_2.f1 == x6_6.f1 && true))))]) [0, 1, 3, 4, 5, 7] [2, 6, 8] [(1, 0), (0, 0)] [p6_2.1, p6_2.2.1 + s2.toNat * 2, p6_6.1, p6_6.2.1 + s2.toNat * 2] [0, 1, 5, 25] (by kernel_rfl) (by kernel_rfl) (⟨QuAt.mk (v := .pointer (some ⟨p6_2.1, p6_2.2.1 + s2.toNat * 2, none⟩)) (some 19) (by kernel_rfl) (by kernel_rfl) (Qu.idx (t := 25) (x := .tmp 17) (y := .tmp 18) (c := h0.2) (kk := .i64) (sz := 2) (by kernel_rfl) (by kernel_rfl) (by kernel_rfl) (by kernel_rfl) hx6_2a (idx_lt hx6_2) hp6_2A), QuAt.mk (v := .pointer (some ⟨p6_6.1, p6_6.2.1 + s2.toNat * 2, none⟩)) (some 23) (by kernel_rfl) (by kernel_rfl) (Qu.idx (t := 25) (x := .tmp 21) (y := .tmp 22) (c := h1.2) (kk := .i64) (sz := 2) (by kernel_rfl) (by kernel_rfl) (by kernel_rfl) (by kernel_rfl) hx6_6a (idx_lt hx6_6) hp6_6A), QuAt.mk (v := .bool (!(x6_2.f0 == x6_6.f0 && (x6_2.f1 == x6_6.f1 && true)))) (some 25) (by kernel_rfl) (by kernel_rfl) (Qu.binT (op := .neq) (t := 77) (t' := 77) (x := .tmp 20) (y := .tmp 24) (u := .agg #[.int .i64 x6_2.f0, .int .i64 x6_2.f1]) (v := .agg #[.int .i64 x6_6.f0, .int .i64 x6_6.f1]) (by kernel_rfl) (by kernel_rfl) (by kernel_rfl) (by kernel_rfl)), trivial⟩) (by kernel_rfl) ?_
        rcases condE H with ⟨hc8, H⟩ | ⟨hc8, H⟩
        · refine J.condT (x := .tmp 25) (t := (!(x6_2.f0 == x6_6.f0 && (x6_2.f1 == x6_6.f1 && true)))) (by kernel_rfl) (by kernel_rfl) hc8 ?_
          refine J.seq (by kernel_rfl) ?_
          refine J.region (by kernel_rfl) ?_
          refine O.pure 1 [] [4] [] (fr' := [(4, .bool false)]) (bx' := []) (by kernel_rfl) ?_
          refine O.nil (by kernel_rfl) ?_
          obtain rfl := Option.some.inj H
          exact J.doneS [] [] [] [] [] () (vs := [.bool false]) (by kernel_rfl) (by kernel_rfl) (by kernel_rfl) (by kernel_rfl) (by kernel_rfl) (by decide)
        · refine J.condF (x := .tmp 25) (t := (!(x6_2.f0 == x6_6.f0 && (x6_2.f1 == x6_6.f1 && true)))) (by kernel_rfl) (by kernel_rfl) hc8 ?_
          refine J.skip (by kernel_rfl) ?_
          refine J.out ?_
          refine J.region (by kernel_rfl) ?_
          refine O.pure 3 [] [0, 1, 5] [] (fr' := [(0, .slice h0.1 a0.length h0.2), (1, .slice h1.1 a1.length h1.2), (5, .int .i64 (IntKind.wrap .i64 (s2 + 1)))]) (bx' := []) (by kernel_rfl) ?_
          refine O.nil (by kernel_rfl) ?_
          exact J.conv2 [0, 1, 5] [0, 1] [] [] (by kernel_rfl) (by kernel_rfl) (by kernel_rfl) (by kernel_rfl) (by decide) (ih2 (IntKind.wrap .i64 (s2 + 1)) () H)
      · refine J.condF (x := .tmp 14) (t := (decide (s2 < (a0.length : Int)))) (by kernel_rfl) (by kernel_rfl) hc7 ?_
        refine J.exit (id := 0) (by kernel_rfl) rfl ?_
        refine J.seq (by kernel_rfl) ?_
        refine J.region (by kernel_rfl) ?_
        refine O.pure 1 [] [4] [] (fr' := [(4, .bool true)]) (bx' := []) (by kernel_rfl) ?_
        refine O.nil (by kernel_rfl) ?_
        obtain rfl := Option.some.inj H
        exact J.doneS [] [] [] [] [] () (vs := [.bool true]) (by kernel_rfl) (by kernel_rfl) (by kernel_rfl) (by kernel_rfl) (by kernel_rfl) (by decide)
    · exact J.conv2 [0, 1, 5] [0, 1] [] [] (by kernel_rfl) (by kernel_rfl) (by kernel_rfl) (by kernel_rfl) (by decide) h_
/-! ### haywain/haywainref06.SameVals: function 48 -/
def haywainref06_SameVals.l2 (K : Nat) (a0 : List Int) (a1 : List Int) : Nat → Int → Option Bool
  | 0, _ => none
  | k + 1, s2 => cond (decide (s2 < (a0.length : Int))) ((idxO a0 s2).bind fun x6_2 => (idxO a1 s2).bind fun x6_6 => cond (x6_2 != x6_6) (some (false)) (haywainref06_SameVals.l2 K a0 a1 k (IntKind.wrap .i64 (s2 + 1)))) (some (true))
def haywainref06_SameVals.f (K : Nat) (a0 : List Int) (a1 : List Int) : Option Bool := cond ((a0.length : Int) != (a1.length : Int)) (some (false)) (haywainref06_SameVals.l2 K a0 a1 K 0)
set_option maxRecDepth 100000 in
set_option maxHeartbeats 1000000 in
theorem haywainref06_SameVals.con (K : Nat) (a0 : List Int) (a1 : List Int) (h0 : Hd) (h1 : Hd) (r : Bool) (X : Nat → Nat → Prop) (w : World) (hS : St X w [] [] [] [] [Rd (Kd.int .i64) h0.1 h0.2 a0, Rd (Kd.int .i64) h1.1 h1.2 a1] w) (H : haywainref06_SameVals.f K a0 a1 = some r) :
    Cn Try.prog 48 [.slice h0.1 a0.length h0.2, .slice h1.1 a1.length h1.2] X w [] (fun i : Unit => .bool r) (fun i => []) (fun i => []) (fun i => []) := by
  refine Cn.of Try.func48 (by kernel_rfl) hS ?_
  unfold haywainref06_SameVals.f at H
  refine J.seq (by kernel_rfl) ?_
  refine J.region (by kernel_rfl) ?_
  refine O.pure 1 [] [0, 1] [] (fr' := [(0, .slice h0.1 a0.length h0.2), (1, .slice h1.1 a1.length h1.2)]) (bx' := []) (by kernel_rfl) ?_
  refine O.nil (by kernel_rfl) ?_
  refine J.seq (by kernel_rfl) ?_
  refine J.seq (by kernel_rfl) ?_
  refine J.region (by kernel_rfl) ?_
  refine O.pure 5 [] [0, 1, 10] [] (fr' := [(0, .slice h0.1 a0.length h0.2), (1, .slice h1.1 a1.length h1.2), (10, .bool ((a0.length : Int) != (a1.length : Int)))]) (bx' := []) (by kernel_rfl) ?_
  refine O.nil (by kernel_rfl) ?_
  rcases condE H with ⟨hc1, H⟩ | ⟨hc1, H⟩
  · refine J.condT (x := .tmp 10) (t := ((a0.length : Int) != (a1.length : Int))) (by kernel_rfl) (by kernel_rfl) hc1 ?_
    refine J.seq (by kernel_rfl) ?_
    refine J.region (by kernel_rfl) ?_
    refine O.pure 1 [] [4] [] (fr' := [(4, .bool false)]) (bx' := []) (by kernel_rfl) ?_
    refine O.nil (by kernel_rfl) ?_
    obtain rfl := Option.some.inj H
    exact J.doneS [] [] [] [] [] () (vs := [.bool false]) (by kernel_rfl) (by kernel_rfl) (by kernel_rfl) (by kernel_rfl) (by kernel_rfl) (by decide)
  · refine J.condF (x := .tmp 10) (t := ((a0.length : Int) != (a1.length : Int))) (by kernel_rfl) (by kernel_rfl) hc1 ?_
    refine J.skip (by kernel_rfl) ?_
    refine J.seq (by kernel_rfl) ?_
    refine J.seq (by kernel_rfl) ?_
    refine J.region (by kernel_rfl) ?_
    refine O.pure 1 [] [0, 1, 5] [] (fr' := [(0, .slice h0.1 a0.length h0.2), (1, .slice h1.1 a1.length h1.2), (5, .int .i64 0)]) (bx' := []) (by kernel_rfl) ?_
    refine O.nil (by kernel_rfl) ?_
    refine J.block (id := 0) (by kernel_rfl) ?_
    refine J.loopI (σ := Int) (γ := Unit) (f := fun m_ s_ => haywainref06_SameVals.l2 K a0 a1 m_ s_) (fun s2 g2 => [(0, .slice h0.1 a0.length h0.2), (1, .slice h1.1 a1.length h1.2), (5, .int .i64 s2)]) (fun s2 g2 => St X w [] [] [] [] [Rd (Kd.int .i64) h0.1 h0.2 a0, Rd (Kd.int .i64) h1.1 h1.2 a1]) K 0 () (by kernel_rfl) H (fun _ => rfl) (fun m_ s2 H ih2 g2 => ?_) (fun h_ => ?_)
    · unfold haywainref06_SameVals.l2 at H
      refine J.seq (by kernel_rfl) ?_
      refine J.seq (by kernel_rfl) ?_
      refine J.region (by kernel_rfl) ?_
      refine O.pure 4 [] [0, 1, 5, 14] [] (fr' := [(0, .slice h0.1 a0.length h0.2), (1, .slice h1.1 a1.length h1.2), (5, .int .i64 s2), (14, .bool (decide (s2 < (a0.length : Int))))]) (bx' := []) (by kernel_rfl) ?_
      refine O.nil (by kernel_rfl) ?_
      rcases condE H with ⟨hc7, H⟩ | ⟨hc7, H⟩
      · refine J.condT (x := .tmp 14) (t := (decide (s2 < (a0.length : Int)))) (by kernel_rfl) (by kernel_rfl) hc7 ?_
        refine J.skip (by kernel_rfl) ?_
        refine J.seq (by kernel_rfl) ?_
        refine J.block (id := 1) (by kernel_rfl) ?_
        refine J.seq (by kernel_rfl) ?_
        obtain ⟨x6_2, hx6_2, H⟩ := bindE H
        obtain ⟨hx6_2a, hx6_2⟩ := idxE hx6_2
        obtain ⟨x6_6, hx6_6, H⟩ := bindE H
        obtain ⟨hx6_6a, hx6_6⟩ := idxE hx6_6
        refine J.open (d := (Kd.int .i64)) (h := h0) (i := s2) 0 rfl hx6_2 (Lay.int _ _) (fun p6_2 hp6_2A => ?_)
        refine J.open (d := (Kd.int .i64)) (h := h1) (i := s2) 1 rfl hx6_6 (Lay.int _ _) (fun p6_6 hp6_6A => ?_)
        refine J.drawS (by kernel_rfl) [(0, some 17, .slice h0.1 a0.length h0.2), (1, some 18, .int .i64 s2), (3, some 20, .int .i64 x6_2), (4, some 21, .slice h1.1 a1.length h1.2), (5, some 22, .int .i64 s2), (7, some 24, .int .i64 x6_6), (8, some 25, .bool (x6_2 != x6_6)), (2, some 19, .pointer (some ⟨p6_2.1, p6_2.2.1 + s2.toNat * 1, none⟩)), (6, some 23, .pointer (some ⟨p6_6.1, p6_6.2.1 + s2.toNat * 1, none⟩))] ([0, 1, 3, 4, 5, 7, 8] ++ [2, 6]) (by kernel_rfl) ?_
        refine D.fin (fr' := [(0, .slice h0.1 a0.length h0.2), (1, .slice h1.1 a1.length h1.2), (5, .int .i64 s2), (25, .bool (x6_2 != x6_6))]) [0, 1, 3, 4, 5, 7, 8] [2, 6] [(1, 0), (0, 0)] [p6_2.1, p6_2.2.1 + s2.toNat * 1, p6_6.1, p6_6.2.1 + s2.toNat * 1] [0, 1, 5, 25] (by kernel_rfl) (by kernel_rfl) (⟨QuAt.mk (v := .pointer (some ⟨p6_2.1, p6_2.2.1 + s2.toNat * 1, none⟩)) (some 19) (by kernel_rfl) (by kernel_rfl) (Qu.idx (t := 23) (x := .tmp 17) (y := .tmp 18) (c := h0.2) (kk := .i64) (sz := 1) (by kernel_rfl) (by kernel_rfl) (by kernel_rfl) (by kernel_rfl) hx6_2a (idx_lt hx6_2) hp6_2A), QuAt.mk (v := .pointer (some ⟨p6_6.1, p6_6.2.1 + s2.toNat * 1, none⟩)) (some 23) (by kernel_rfl) (by kernel_rfl) (Qu.idx (t := 23) (x := .tmp 21) (y := .tmp 22) (c := h1.2) (kk := .i64) (sz := 1) (by kernel_rfl) (by kernel_rfl) (by kernel_rfl) (by kernel_rfl) hx6_6a (idx_lt hx6_6) hp6_6A), trivial⟩) (by kernel_rfl) ?_
        rcases condE H with ⟨hc8, H⟩ | ⟨hc8, H⟩
        · refine J.condT (x := .tmp 25) (t := (x6_2 != x6_6)) (by kernel_rfl) (by kernel_rfl) hc8 ?_
          refine J.seq (by kernel_rfl) ?_
          refine J.region (by kernel_rfl) ?_
          refine O.pure 1 [] [4] [] (fr' := [(4, .bool false)]) (bx' := []) (by kernel_rfl) ?_
          refine O.nil (by kernel_rfl) ?_
          obtain rfl := Option.some.inj H
          exact J.doneS [] [] [] [] [] () (vs := [.bool false]) (by kernel_rfl) (by kernel_rfl) (by kernel_rfl) (by kernel_rfl) (by kernel_rfl) (by decide)
        · refine J.condF (x := .tmp 25) (t := (x6_2 != x6_6)) (by kernel_rfl) (by kernel_rfl) hc8 ?_
          refine J.skip (by kernel_rfl) ?_
          refine J.out ?_
          refine J.region (by kernel_rfl) ?_
          refine O.pure 3 [] [0, 1, 5] [] (fr' := [(0, .slice h0.1 a0.length h0.2), (1, .slice h1.1 a1.length h1.2), (5, .int .i64 (IntKind.wrap .i64 (s2 + 1)))]) (bx' := []) (by kernel_rfl) ?_
          refine O.nil (by kernel_rfl) ?_
          exact J.conv2 [0, 1, 5] [0, 1] [] [] (by kernel_rfl) (by kernel_rfl) (by kernel_rfl) (by kernel_rfl) (by decide) (ih2 (IntKind.wrap .i64 (s2 + 1)) () H)
      · refine J.condF (x := .tmp 14) (t := (decide (s2 < (a0.length : Int)))) (by kernel_rfl) (by kernel_rfl) hc7 ?_
        refine J.exit (id := 0) (by kernel_rfl) rfl ?_
        refine J.seq (by kernel_rfl) ?_
        refine J.region (by kernel_rfl) ?_
        refine O.pure 1 [] [4] [] (fr' := [(4, .bool true)]) (bx' := []) (by kernel_rfl) ?_
        refine O.nil (by kernel_rfl) ?_
        obtain rfl := Option.some.inj H
        exact J.doneS [] [] [] [] [] () (vs := [.bool true]) (by kernel_rfl) (by kernel_rfl) (by kernel_rfl) (by kernel_rfl) (by kernel_rfl) (by decide)
    · exact J.conv2 [0, 1, 5] [0, 1] [] [] (by kernel_rfl) (by kernel_rfl) (by kernel_rfl) (by kernel_rfl) (by decide) h_
/-! ### haywain/haywainref06.SameRest: function 49 -/
def haywainref06_SameRest.l2 (K : Nat) (a0 : List Bool) (a1 : List Bool) : Nat → Int → Option Bool
  | 0, _ => none
  | k + 1, s2 => cond (decide (s2 < (a0.length : Int))) ((idxO a0 s2).bind fun x6_2 => (idxO a1 s2).bind fun x6_6 => cond (!(x6_2 == x6_6)) (some (false)) (haywainref06_SameRest.l2 K a0 a1 k (IntKind.wrap .i64 (s2 + 1)))) (some (true))
def haywainref06_SameRest.f (K : Nat) (a0 : List Bool) (a1 : List Bool) : Option Bool := cond ((a0.length : Int) != (a1.length : Int)) (some (false)) (haywainref06_SameRest.l2 K a0 a1 K 0)
set_option maxRecDepth 100000 in
set_option maxHeartbeats 1000000 in
theorem haywainref06_SameRest.con (K : Nat) (a0 : List Bool) (a1 : List Bool) (h0 : Hd) (h1 : Hd) (r : Bool) (X : Nat → Nat → Prop) (w : World) (hS : St X w [] [] [] [] [Rd Kd.bool h0.1 h0.2 a0, Rd Kd.bool h1.1 h1.2 a1] w) (H : haywainref06_SameRest.f K a0 a1 = some r) :
    Cn Try.prog 49 [.slice h0.1 a0.length h0.2, .slice h1.1 a1.length h1.2] X w [] (fun i : Unit => .bool r) (fun i => []) (fun i => []) (fun i => []) := by
  refine Cn.of Try.func49 (by kernel_rfl) hS ?_
  unfold haywainref06_SameRest.f at H
  refine J.seq (by kernel_rfl) ?_
  refine J.region (by kernel_rfl) ?_
  refine O.pure 1 [] [0, 1] [] (fr' := [(0, .slice h0.1 a0.length h0.2), (1, .slice h1.1 a1.length h1.2)]) (bx' := []) (by kernel_rfl) ?_
  refine O.nil (by kernel_rfl) ?_
  refine J.seq (by kernel_rfl) ?_
  refine J.seq (by kernel_rfl) ?_
  refine J.region (by kernel_rfl) ?_
  refine O.pure 5 [] [0, 1, 10] [] (fr' := [(0, .slice h0.1 a0.length h0.2), (1, .slice h1.1 a1.length h1.2), (10, .bool ((a0.length : Int) != (a1.length : Int)))]) (bx' := []) (by kernel_rfl) ?_
  refine O.nil (by kernel_rfl) ?_
  rcases condE H with ⟨hc1, H⟩ | ⟨hc1, H⟩
  · refine J.condT (x := .tmp 10) (t := ((a0.length : Int) != (a1.length : Int))) (by kernel_rfl) (by kernel_rfl) hc1 ?_
    refine J.seq (by kernel_rfl) ?_
    refine J.region (by kernel_rfl) ?_
    refine O.pure 1 [] [4] [] (fr' := [(4, .bool false)]) (bx' := []) (by kernel_rfl) ?_
    refine O.nil (by kernel_rfl) ?_
    obtain rfl := Option.some.inj H
    exact J.doneS [] [] [] [] [] () (vs := [.bool false]) (by kernel_rfl) (by kernel_rfl) (by kernel_rfl) (by kernel_rfl) (by kernel_rfl) (by decide)
  · refine J.condF (x := .tmp 10) (t := ((a0.length : Int) != (a1.length : Int))) (by kernel_rfl) (by kernel_rfl) hc1 ?_
    refine J.skip (by kernel_rfl) ?_
    refine J.seq (by kernel_rfl) ?_
    refine J.seq (by kernel_rfl) ?_
    refine J.region (by kernel_rfl) ?_
    refine O.pure 1 [] [0, 1, 5] [] (fr' := [(0, .slice h0.1 a0.length h0.2), (1, .slice h1.1 a1.length h1.2), (5, .int .i64 0)]) (bx' := []) (by kernel_rfl) ?_
    refine O.nil (by kernel_rfl) ?_
    refine J.block (id := 0) (by kernel_rfl) ?_
    refine J.loopI (σ := Int) (γ := Unit) (f := fun m_ s_ => haywainref06_SameRest.l2 K a0 a1 m_ s_) (fun s2 g2 => [(0, .slice h0.1 a0.length h0.2), (1, .slice h1.1 a1.length h1.2), (5, .int .i64 s2)]) (fun s2 g2 => St X w [] [] [] [] [Rd Kd.bool h0.1 h0.2 a0, Rd Kd.bool h1.1 h1.2 a1]) K 0 () (by kernel_rfl) H (fun _ => rfl) (fun m_ s2 H ih2 g2 => ?_) (fun h_ => ?_)
    · unfold haywainref06_SameRest.l2 at H
      refine J.seq (by kernel_rfl) ?_
      refine J.seq (by kernel_rfl) ?_
      refine J.region (by kernel_rfl) ?_
      refine O.pure 4 [] [0, 1, 5, 14] [] (fr' := [(0, .slice h0.1 a0.length h0.2), (1, .slice h1.1 a1.length h1.2), (5, .int .i64 s2), (14, .bool (decide (s2 < (a0.length : Int))))]) (bx' := []) (by kernel_rfl) ?_
      refine O.nil (by kernel_rfl) ?_
      rcases condE H with ⟨hc7, H⟩ | ⟨hc7, H⟩
      · refine J.condT (x := .tmp 14) (t := (decide (s2 < (a0.length : Int)))) (by kernel_rfl) (by kernel_rfl) hc7 ?_
        refine J.skip (by kernel_rfl) ?_
        refine J.seq (by kernel_rfl) ?_
        refine J.block (id := 1) (by kernel_rfl) ?_
        refine J.seq (by kernel_rfl) ?_
        obtain ⟨x6_2, hx6_2, H⟩ := bindE H
        obtain ⟨hx6_2a, hx6_2⟩ := idxE hx6_2
        obtain ⟨x6_6, hx6_6, H⟩ := bindE H
        obtain ⟨hx6_6a, hx6_6⟩ := idxE hx6_6
        refine J.open (d := Kd.bool) (h := h0) (i := s2) 0 rfl hx6_2 (Lay.bool _) (fun p6_2 hp6_2A => ?_)
        refine J.open (d := Kd.bool) (h := h1) (i := s2) 1 rfl hx6_6 (Lay.bool _) (fun p6_6 hp6_6A => ?_)
        refine J.drawS (by kernel_rfl) [(0, some 17, .slice h0.1 a0.length h0.2), (1, some 18, .int .i64 s2), (3, some 20, .bool x6_2), (4, some 21, .slice h1.1 a1.length h1.2), (5, some 22, .int .i64 s2), (7, some 24, .bool x6_6), (2, some 19, .pointer (some ⟨p6_2.1, p6_2.2.1 + s2.toNat * 1, none⟩)), (6, some 23, .pointer (some ⟨p6_6.1, p6_6.2.1 + s2.toNat * 1, none⟩)), (8, some 25, .bool (!(x6_2 == x6_6)))] ([0, 1, 3, 4, 5, 7] ++ [2, 6, 8]) (by kernel_rfl) ?_
        refine D.fin (fr' := [(0, .slice h0.1 a0.length h0.2), (1, .slice h1.1 a1.length h1.2), (5, .int .i64 s2), (25, .bool (!(x6_2 == x6_6)))]) [0, 1, 3, 4, 5, 7] [2, 6, 8] [(1, 0), (0, 0)] [p6_2.1, p6_2.2.1 + s2.toNat * 1, p6_6.1, p6_6.2.1 + s2.toNat * 1] [0, 1, 5, 25] (by kernel_rfl) (by kernel_rfl) (⟨QuAt.mk (v := .pointer (some ⟨p6_2.1, p6_2.2.1 + s2.toNat * 1, none⟩)) (some 19) (by kernel_rfl) (by kernel_rfl) (Qu.idx (t := 24) (x := .tmp 17) (y := .tmp 18) (c := h0.2) (kk := .i64) (sz := 1) (by kernel_rfl) (by kernel_rfl) (by kernel_rfl) (by kernel_rfl) hx6_2a (idx_lt hx6_2) hp6_2A), QuAt.mk (v := .pointer (some ⟨p6_6.1, p6_6.2.1 + s2.toNat * 1, none⟩)) (some 23) (by kernel_rfl) (by kernel_rfl) (Qu.idx (t := 24) (x := .tmp 21) (y := .tmp 22) (c := h1.2) (kk := .i64) (sz := 1) (by kernel_rfl) (by kernel_rfl) (by kernel_rfl) (by kernel_rfl) hx6_6a (idx_lt hx6_6) hp6_6A), QuAt.mk (v := .bool (!(x6_2 == x6_6))) (some 25) (by kernel_rfl) (by kernel_rfl) (Qu.binT (op := .neq) (t := 4) (t' := 4) (x := .tmp 20) (y := .tmp 24) (u := .bool x6_2) (v := .bool x6_6) (by kernel_rfl) (by kernel_rfl) (by kernel_rfl) (by kernel_rfl)), trivial⟩) (by kernel_rfl) ?_
        rcases condE H with ⟨hc8, H⟩ | ⟨hc8, H⟩
        · refine J.condT (x := .tmp 25) (t := (!(x6_2 == x6_6))) (by kernel_rfl) (by kernel_rfl) hc8 ?_
          refine J.seq (by kernel_rfl) ?_
          refine J.region (by kernel_rfl) ?_
          refine O.pure 1 [] [4] [] (fr' := [(4, .bool false)]) (bx' := []) (by kernel_rfl) ?_
          refine O.nil (by kernel_rfl) ?_
          obtain rfl := Option.some.inj H
          exact J.doneS [] [] [] [] [] () (vs := [.bool false]) (by kernel_rfl) (by kernel_rfl) (by kernel_rfl) (by kernel_rfl) (by kernel_rfl) (by decide)
        · refine J.condF (x := .tmp 25) (t := (!(x6_2 == x6_6))) (by kernel_rfl) (by kernel_rfl) hc8 ?_
          refine J.skip (by kernel_rfl) ?_
          refine J.out ?_
          refine J.region (by kernel_rfl) ?_
          refine O.pure 3 [] [0, 1, 5] [] (fr' := [(0, .slice h0.1 a0.length h0.2), (1, .slice h1.1 a1.length h1.2), (5, .int .i64 (IntKind.wrap .i64 (s2 + 1)))]) (bx' := []) (by kernel_rfl) ?_
          refine O.nil (by kernel_rfl) ?_
          exact J.conv2 [0, 1, 5] [0, 1] [] [] (by kernel_rfl) (by kernel_rfl) (by kernel_rfl) (by kernel_rfl) (by decide) (ih2 (IntKind.wrap .i64 (s2 + 1)) () H)
      · refine J.condF (x := .tmp 14) (t := (decide (s2 < (a0.length : Int)))) (by kernel_rfl) (by kernel_rfl) hc7 ?_
        refine J.exit (id := 0) (by kernel_rfl) rfl ?_
        refine J.seq (by kernel_rfl) ?_
        refine J.region (by kernel_rfl) ?_
        refine O.pure 1 [] [4] [] (fr' := [(4, .bool true)]) (bx' := []) (by kernel_rfl) ?_
        refine O.nil (by kernel_rfl) ?_
        obtain rfl := Option.some.inj H
        exact J.doneS [] [] [] [] [] () (vs := [.bool true]) (by kernel_rfl) (by kernel_rfl) (by kernel_rfl) (by kernel_rfl) (by kernel_rfl) (by decide)
    · exact J.conv2 [0, 1, 5] [0, 1] [] [] (by kernel_rfl) (by kernel_rfl) (by kernel_rfl) (by kernel_rfl) (by decide) h_
/-! ### haywain/haywainref07.Same: function 38 -/
def haywainref07_Same.f (K : Nat) (a0 : S27) (a1 : S27) : Option Bool := cond (a0.f0 == a1.f0) (cond (a0.f1 == a1.f1) ((haywainref06_SameVals.f K a0.f2 a1.f2).bind fun x1_17 => cond x1_17 ((haywainref06_SameRest.f K a0.f3 a1.f3).bind fun x1_24 => cond x1_24 ((haywainref04_SameMsgs.f K a0.f4 a1.f4).bind fun x1_31 => some (x1_31)) (some (false))) (some (false))) (some (false))) (some (false))
set_option maxRecDepth 100000 in
set_option maxHeartbeats 1000000 in
theorem haywainref07_Same.con (K : Nat) (a0 : S27) (a1 : S27) (h0 : Hd) (h1 : Hd) (h2 : Hd) (h3 : Hd) (h4 : Hd) (h5 : Hd) (r : Bool) (X : Nat → Nat → Prop) (w : World) (hS : St X w [] [] [] [] [Rd (Kd.int .i64) h0.1 h0.2 a0.f2, Rd Kd.bool h1.1 h1.2 a0.f3, Rd kd77 h2.1 h2.2 a0.f4, Rd (Kd.int .i64) h3.1 h3.2 a1.f2, Rd Kd.bool h4.1 h4.2 a1.f3, Rd kd77 h5.1 h5.2 a1.f4] w) (H : haywainref07_Same.f K a0 a1 = some r) :
    Cn Try.prog 38 [.agg #[.int .i64 a0.f0, .int .i64 a0.f1, .slice h0.1 a0.f2.length h0.2, .slice h1.1 a0.f3.length h1.2, .slice h2.1 a0.f4.length h2.2], .agg #[.int .i64 a1.f0, .int .i64 a1.f1, .slice h3.1 a1.f2.length h3.2, .slice h4.1 a1.f3.length h4.2, .slice h5.1 a1.f4.length h5.2]] X w [] (fun i : Unit => .bool r) (fun i => []) (fun i => []) (fun i => []) := by
  refine Cn.of Try.func38 (by kernel_rfl) hS ?_
  unfold haywainref07_Same.f at H
  refine J.seq (by kernel_rfl) ?_
  refine J.region (by kernel_rfl) ?_
  refine O.e (some 2) (Ev.box (t := 27) (x := .tmp 0) (v := .agg #[.int .i64 a0.f0, .int .i64 a0.f1, .slice h0.1 a0.f2.length h0.2, .slice h1.1 a0.f3.length h1.2, .slice h2.1 a0.f4.length h2.2]) (by kernel_rfl) (by kernel_rfl)) (by kernel_rfl) (fun p0_0 => ?_)
  refine O.e (some 3) (Ev.box (t := 27) (x := .tmp 1) (v := .agg #[.int .i64 a1.f0, .int .i64 a1.f1, .slice h3.1 a1.f2.length h3.2, .slice h4.1 a1.f3.length h4.2, .slice h5.1 a1.f4.length h5.2]) (by kernel_rfl) (by kernel_rfl)) (by kernel_rfl) (fun p0_1 => ?_)
  refine O.pure 1 [] [2, 3] [] (fr' := [(2, .pointer (some ⟨p0_0, 0, none⟩)), (3, .pointer (some ⟨p0_1, 0, none⟩))]) (bx' := [⟨p0_1, [.int .i64 a1.f0, .int .i64 a1.f1, .slice h3.1 a1.f2.length h3.2, .slice h4.1 a1.f3.length h4.2, .slice h5.1 a1.f4.length h5.2], 27⟩, ⟨p0_0, [.int .i64 a0.f0, .int .i64 a0.f1, .slice h0.1 a0.f2.length h0.2, .slice h1.1 a0.f3.length h1.2, .slice h2.1 a0.f4.length h2.2], 27⟩]) (by kernel_rfl) ?_
  refine O.nil (by kernel_rfl) ?_
  refine J.seq (by kernel_rfl) ?_
  rcases condE H with ⟨hc1, H⟩ | ⟨hc1, H⟩
  · rcases condE H with ⟨hc2, H⟩ | ⟨hc2, H⟩
    · obtain ⟨x1_17, hx1_17, H⟩ := bindE H
      rcases condE H with ⟨hc3, H⟩ | ⟨hc3, H⟩
      · obtain ⟨x1_24, hx1_24, H⟩ := bindE H
        rcases condE H with ⟨hc4, H⟩ | ⟨hc4, H⟩
        · obtain ⟨x1_31, hx1_31, H⟩ := bindE H
          refine J.region (by kernel_rfl) ?_
          refine O.pure 4 [(1, 0), (0, 0)] [2, 3, 6, 8] [p0_0, 0, p0_1, 0] (fr' := [(2, .pointer (some ⟨p0_0, 0, none⟩)), (3, .pointer (some ⟨p0_1, 0, none⟩)), (6, .int .i64 a0.f0), (8, .int .i64 a1.f0)]) (bx' := [⟨p0_1, [.int .i64 a1.f0, .int .i64 a1.f1, .slice h3.1 a1.f2.length h3.2, .slice h4.1 a1.f3.length h4.2, .slice h5.1 a1.f4.length h5.2], 27⟩, ⟨p0_0, [.int .i64 a0.f0, .int .i64 a0.f1, .slice h0.1 a0.f2.length h0.2, .slice h1.1 a0.f3.length h1.2, .slice h2.1 a0.f4.length h2.2], 27⟩]) (by kernel_rfl) ?_
          refine O.q (v := .bool true) (some 9) (Qu.eqv (u := .bool (a0.f0 == a1.f0)) (v := .bool true) (0, 0) [] (by kernel_rfl) (congrArg Value.bool hc1)) (by kernel_rfl) ?_
          refine O.pure 5 [(1, 1), (0, 1)] [2, 3, 10, 12, 14] [p0_0, 1, p0_1, 1] (fr' := [(2, .pointer (some ⟨p0_0, 0, none⟩)), (3, .pointer (some ⟨p0_1, 0, none⟩)), (10, .bool true), (12, .int .i64 a0.f1), (14, .int .i64 a1.f1)]) (bx' := [⟨p0_1, [.int .i64 a1.f0, .int .i64 a1.f1, .slice h3.1 a1.f2.length h3.2, .slice h4.1 a1.f3.length h4.2, .slice h5.1 a1.f4.length h5.2], 27⟩, ⟨p0_0, [.int .i64 a0.f0, .int .i64 a0.f1, .slice h0.1 a0.f2.length h0.2, .slice h1.1 a0.f3.length h1.2, .slice h2.1 a0.f4.length h2.2], 27⟩]) (by kernel_rfl) ?_
          refine O.q (v := .bool true) (some 15) (Qu.eqv (u := .bool (a0.f1 == a1.f1)) (v := .bool true) (0, 0) [] (by kernel_rfl) (congrArg Value.bool hc2)) (by kernel_rfl) ?_
          refine O.pure 6 [(1, 2), (0, 2)] [2, 3, 17, 19, 21] [p0_0, 2, p0_1, 2] (fr' := [(2, .pointer (some ⟨p0_0, 0, none⟩)), (3, .pointer (some ⟨p0_1, 0, none⟩)), (17, .bool true), (19, .slice h0.1 a0.f2.length h0.2), (21, .slice h3.1 a1.f2.length h3.2)]) (bx' := [⟨p0_1, [.int .i64 a1.f0, .int .i64 a1.f1, .slice h3.1 a1.f2.length h3.2, .slice h4.1 a1.f3.length h4.2, .slice h5.1 a1.f4.length h5.2], 27⟩, ⟨p0_0, [.int .i64 a0.f0, .int .i64 a0.f1, .slice h0.1 a0.f2.length h0.2, .slice h1.1 a0.f3.length h1.2, .slice h2.1 a0.f4.length h2.2], 27⟩]) (by kernel_rfl) ?_
          refine O.e (some 22) (Ev.call0 (xs := [.tmp 19, .tmp 21]) [0, 3] (by kernel_rfl) (by kernel_rfl) (fun w hS => haywainref06_SameVals.con K a0.f2 a1.f2 h0 h3  _ _ w hS hx1_17)) (by kernel_rfl) (fun _ => ?_)
          refine O.q (v := .bool true) (some 23) (Qu.eqv (u := .bool x1_17) (v := .bool true) (0, 0) [] (by kernel_rfl) (congrArg Value.bool hc3)) (by kernel_rfl) ?_
          refine O.pure 5 [(1, 3), (0, 3)] [2, 3, 24, 26, 28] [p0_0, 3, p0_1, 3] (fr' := [(2, .pointer (some ⟨p0_0, 0, none⟩)), (3, .pointer (some ⟨p0_1, 0, none⟩)), (24, .bool true), (26, .slice h1.1 a0.f3.length h1.2), (28, .slice h4.1 a1.f3.length h4.2)]) (bx' := [⟨p0_1, [.int .i64 a1.f0, .int .i64 a1.f1, .slice h3.1 a1.f2.length h3.2, .slice h4.1 a1.f3.length h4.2, .slice h5.1 a1.f4.length h5.2], 27⟩, ⟨p0_0, [.int .i64 a0.f0, .int .i64 a0.f1, .slice h0.1 a0.f2.length h0.2, .slice h1.1 a0.f3.length h1.2, .slice h2.1 a0.f4.length h2.2], 27⟩]) (by kernel_rfl) ?_
          refine O.e (some 29) (Ev.call0 (xs := [.tmp 26, .tmp 28]) [1, 4] (by kernel_rfl) (by kernel_rfl) (fun w hS => haywainref06_SameRest.con K a0.f3 a1.f3 h1 h4  _ _ w hS hx1_24)) (by kernel_rfl) (fun _ => ?_)
          refine O.q (v := .bool true) (some 30) (Qu.eqv (u := .bool x1_24) (v := .bool true) (0, 0) [] (by kernel_rfl) (congrArg Value.bool hc4)) (by kernel_rfl) ?_
          refine O.pure 5 [(1, 4), (0, 4)] [31, 33, 35] [p0_0, 4, p0_1, 4] (fr' := [(31, .bool true), (33, .slice h2.1 a0.f4.length h2.2), (35, .slice h5.1 a1.f4.length h5.2)]) (bx' := [⟨p0_1, [.int .i64 a1.f0, .int .i64 a1.f1, .slice h3.1 a1.f2.length h3.2, .slice h4.1 a1.f3.length h4.2, .slice h5.1 a1.f4.length h5.2], 27⟩, ⟨p0_0, [.int .i64 a0.f0, .int .i64 a0.f1, .slice h0.1 a0.f2.length h0.2, .slice h1.1 a0.f3.length h1.2, .slice h2.1 a0.f4.length h2.2], 27⟩]) (by kernel_rfl) ?_
          refine O.e (some 36) (Ev.call0 (xs := [.tmp 33, .tmp 35]) [2, 5] (by kernel_rfl) (by kernel_rfl) (fun w hS => haywainref04_SameMsgs.con K a0.f4 a1.f4 h2 h5  _ _ w hS hx1_31)) (by kernel_rfl) (fun _ => ?_)
          refine O.pure 2 [] [4] [] (fr' := [(4, .bool x1_31)]) (bx' := [⟨p0_1, [.int .i64 a1.f0, .int .i64 a1.f1, .slice h3.1 a1.f2.length h3.2, .slice h4.1 a1.f3.length h4.2, .slice h5.1 a1.f4.length h5.2], 27⟩, ⟨p0_0, [.int .i64 a0.f0, .int .i64 a0.f1, .slice h0.1 a0.f2.length h0.2, .slice h1.1 a0.f3.length h1.2, .slice h2.1 a0.f4.length h2.2], 27⟩]) (by kernel_rfl) ?_
          refine O.nil (by kernel_rfl) ?_
          obtain rfl := Option.some.inj H
          exact J.doneS [] [] [] [] [] () (vs := [.bool x1_31]) (by kernel_rfl) (by kernel_rfl) (by kernel_rfl) (by kernel_rfl) (by kernel_rfl) (by decide)
        · refine J.region (by kernel_rfl) ?_
          refine O.pure 4 [(1, 0), (0, 0)] [2, 3, 6, 8] [p0_0, 0, p0_1, 0] (fr' := [(2, .pointer (some ⟨p0_0, 0, none⟩)), (3, .pointer (some ⟨p0_1, 0, none⟩)), (6, .int .i64 a0.f0), (8, .int .i64 a1.f0)]) (bx' := [⟨p0_1, [.int .i64 a1.f0, .int .i64 a1.f1, .slice h3.1 a1.f2.length h3.2, .slice h4.1 a1.f3.length h4.2, .slice h5.1 a1.f4.length h5.2], 27⟩, ⟨p0_0, [.int .i64 a0.f0, .int .i64 a0.f1, .slice h0.1 a0.f2.length h0.2, .slice h1.1 a0.f3.length h1.2, .slice h2.1 a0.f4.length h2.2], 27⟩]) (by kernel_rfl) ?_
          refine O.q (v := .bool true) (some 9) (Qu.eqv (u := .bool (a0.f0 == a1.f0)) (v := .bool true) (0, 0) [] (by kernel_rfl) (congrArg Value.bool hc1)) (by kernel_rfl) ?_
          refine O.pure 5 [(1, 1), (0, 1)] [2, 3, 10, 12, 14] [p0_0, 1, p0_1, 1] (fr' := [(2, .pointer (some ⟨p0_0, 0, none⟩)), (3, .pointer (some ⟨p0_1, 0, none⟩)), (10, .bool true), (12, .int .i64 a0.f1), (14, .int .i64 a1.f1)]) (bx' := [⟨p0_1, [.int .i64 a1.f0, .int .i64 a1.f1, .slice h3.1 a1.f2.length h3.2, .slice h4.1 a1.f3.length h4.2, .slice h5.1 a1.f4.length h5.2], 27⟩, ⟨p0_0, [.int .i64 a0.f0, .int .i64 a0.f1, .slice h0.1 a0.f2.length h0.2, .slice h1.1 a0.f3.length h1.2, .slice h2.1 a0.f4.length h2.2], 27⟩]) (by kernel_rfl) ?_
          refine O.q (v := .bool true) (some 15) (Qu.eqv (u := .bool (a0.f1 == a1.f1)) (v := .bool true) (0, 0) [] (by kernel_rfl) (congrArg Value.bool hc2)) (by kernel_rfl) ?_
          refine O.pure 6 [(1, 2), (0, 2)] [2, 3, 17, 19, 21] [p0_0, 2, p0_1, 2] (fr' := [(2, .pointer (some ⟨p0_0, 0, none⟩)), (3, .pointer (some ⟨p0_1, 0, none⟩)), (17, .bool true), (19, .slice h0.1 a0.f2.length h0.2), (21, .slice h3.1 a1.f2.length h3.2)]) (bx' := [⟨p0_1, [.int .i64 a1.f0, .int .i64 a1.f1, .slice h3.1 a1.f2.length h3.2, .slice h4.1 a1.f3.length h4.2, .slice h5.1 a1.f4.length h5.2], 27⟩, ⟨p0_0, [.int .i64 a0.f0, .int .i64 a0.f1, .slice h0.1 a0.f2.length h0.2, .slice h1.1 a0.f3.length h1.2, .slice h2.1 a0.f4.length h2.2], 27⟩]) (by kernel_rfl) ?_
          refine O.e (some 22) (Ev.call0 (xs := [.tmp 19, .tmp 21]) [0, 3] (by kernel_rfl) (by kernel_rfl) (fun w hS => haywainref06_SameVals.con K a0.f2 a1.f2 h0 h3  _ _ w hS hx1_17)) (by kernel_rfl) (fun _ => ?_)
          refine O.q (v := .bool true) (some 23) (Qu.eqv (u := .bool x1_17) (v := .bool true) (0, 0) [] (by kernel_rfl) (congrArg Value.bool hc3)) (by kernel_rfl) ?_
          refine O.pure 5 [(1, 3), (0, 3)] [2, 3, 24, 26, 28] [p0_0, 3, p0_1, 3] (fr' := [(2, .pointer (some ⟨p0_0, 0, none⟩)), (3, .pointer (some ⟨p0_1, 0, none⟩)), (24, .bool true), (26, .slice h1.1 a0.f3.length h1.2), (28, .slice h4.1 a1.f3.length h4.2)]) (bx' := [⟨p0_1, [.int .i64 a1.f0, .int .i64 a1.f1, .slice h3.1 a1.f2.length h3.2, .slice h4.1 a1.f3.length h4.2, .slice h5.1 a1.f4.length h5.2], 27⟩, ⟨p0_0, [.int .i64 a0.f0, .int .i64 a0.f1, .slice h0.1 a0.f2.length h0.2, .slice h1.1 a0.f3.length h1.2, .slice h2.1 a0.f4.length h2.2], 27⟩]) (by kernel_rfl) ?_
          refine O.e (some 29) (Ev.call0 (xs := [.tmp 26, .tmp 28]) [1, 4] (by kernel_rfl) (by kernel_rfl) (fun w hS => haywainref06_SameRest.con K a0.f3 a1.f3 h1 h4  _ _ w hS hx1_24)) (by kernel_rfl) (fun _ => ?_)
          refine O.q (v := .bool false) (some 30) (Qu.eqv (u := .bool x1_24) (v := .bool false) (0, 0) [] (by kernel_rfl) (congrArg Value.bool hc4)) (by kernel_rfl) ?_
          refine O.pure 8 [] [4] [] (fr' := [(4, .bool false)]) (bx' := [⟨p0_1, [.int .i64 a1.f0, .int .i64 a1.f1, .slice h3.1 a1.f2.length h3.2, .slice h4.1 a1.f3.length h4.2, .slice h5.1 a1.f4.length h5.2], 27⟩, ⟨p0_0, [.int .i64 a0.f0, .int .i64 a0.f1, .slice h0.1 a0.f2.length h0.2, .slice h1.1 a0.f3.length h1.2, .slice h2.1 a0.f4.length h2.2], 27⟩]) (by kernel_rfl) ?_
          refine O.nil (by kernel_rfl) ?_
          obtain rfl := Option.some.inj H
          exact J.doneS [] [] [] [] [] () (vs := [.bool false]) (by kernel_rfl) (by kernel_rfl) (by kernel_rfl) (by kernel_rfl) (by kernel_rfl) (by decide)
      · refine J.region (by kernel_rfl) ?_
        refine O.pure 4 [(1, 0), (0, 0)] [2, 3, 6, 8] [p0_0, 0, p0_1, 0] (fr' := [(2, .pointer (some ⟨p0_0, 0, none⟩)), (3, .pointer (some ⟨p0_1, 0, none⟩)), (6, .int .i64 a0.f0), (8, .int .i64 a1.f0)]) (bx' := [⟨p0_1, [.int .i64 a1.f0, .int .i64 a1.f1, .slice h3.1 a1.f2.length h3.2, .slice h4.1 a1.f3.length h4.2, .slice h5.1 a1.f4.length h5.2], 27⟩, ⟨p0_0, [.int .i64 a0.f0, .int .i64 a0.f1, .slice h0.1 a0.f2.length h0.2, .slice h1.1 a0.f3.length h1.2, .slice h2.1 a0.f4.length h2.2], 27⟩]) (by kernel_rfl) ?_
        refine O.q (v := .bool true) (some 9) (Qu.eqv (u := .bool (a0.f0 == a1.f0)) (v := .bool true) (0, 0) [] (by kernel_rfl) (congrArg Value.bool hc1)) (by kernel_rfl) ?_
        refine O.pure 5 [(1, 1), (0, 1)] [2, 3, 10, 12, 14] [p0_0, 1, p0_1, 1] (fr' := [(2, .pointer (some ⟨p0_0, 0, none⟩)), (3, .pointer (some ⟨p0_1, 0, none⟩)), (10, .bool true), (12, .int .i64 a0.f1), (14, .int .i64 a1.f1)]) (bx' := [⟨p0_1, [.int .i64 a1.f0, .int .i64 a1.f1, .slice h3.1 a1.f2.length h3.2, .slice h4.1 a1.f3.length h4.2, .slice h5.1 a1.f4.length h5.2], 27⟩, ⟨p0_0, [.int .i64 a0.f0, .int .i64 a0.f1, .slice h0.1 a0.f2.length h0.2, .slice h1.1 a0.f3.length h1.2, .slice h2.1 a0.f4.length h2.2], 27⟩]) (by kernel_rfl) ?_
        refine O.q (v := .bool true) (some 15) (Qu.eqv (u := .bool (a0.f1 == a1.f1)) (v := .bool true) (0, 0) [] (by kernel_rfl) (congrArg Value.bool hc2)) (by kernel_rfl) ?_
        refine O.pure 6 [(1, 2), (0, 2)] [2, 3, 17, 19, 21] [p0_0, 2, p0_1, 2] (fr' := [(2, .pointer (some ⟨p0_0, 0, none⟩)), (3, .pointer (some ⟨p0_1, 0, none⟩)), (17, .bool true), (19, .slice h0.1 a0.f2.length h0.2), (21, .slice h3.1 a1.f2.length h3.2)]) (bx' := [⟨p0_1, [.int .i64 a1.f0, .int .i64 a1.f1, .slice h3.1 a1.f2.length h3.2, .slice h4.1 a1.f3.length h4.2, .slice h5.1 a1.f4.length h5.2], 27⟩, ⟨p0_0, [.int .i64 a0.f0, .int .i64 a0.f1, .slice h0.1 a0.f2.length h0.2, .slice h1.1 a0.f3.length h1.2, .slice h2.1 a0.f4.length h2.2], 27⟩]) (by kernel_rfl) ?_
        refine O.e (some 22) (Ev.call0 (xs := [.tmp 19, .tmp 21]) [0, 3] (by kernel_rfl) (by kernel_rfl) (fun w hS => haywainref06_SameVals.con K a0.f2 a1.f2 h0 h3  _ _ w hS hx1_17)) (by kernel_rfl) (fun _ => ?_)
        refine O.q (v := .bool false) (some 23) (Qu.eqv (u := .bool x1_17) (v := .bool false) (0, 0) [] (by kernel_rfl) (congrArg Value.bool hc3)) (by kernel_rfl) ?_
        refine O.pure 15 [] [4] [] (fr' := [(4, .bool false)]) (bx' := [⟨p0_1, [.int .i64 a1.f0, .int .i64 a1.f1, .slice h3.1 a1.f2.length h3.2, .slice h4.1 a1.f3.length h4.2, .slice h5.1 a1.f4.length h5.2], 27⟩, ⟨p0_0, [.int .i64 a0.f0, .int .i64 a0.f1, .slice h0.1 a0.f2.length h0.2, .slice h1.1 a0.f3.length h1.2, .slice h2.1 a0.f4.length h2.2], 27⟩]) (by kernel_rfl) ?_
        refine O.nil (by kernel_rfl) ?_
        obtain rfl := Option.some.inj H
        exact J.doneS [] [] [] [] [] () (vs := [.bool false]) (by kernel_rfl) (by kernel_rfl) (by kernel_rfl) (by kernel_rfl) (by kernel_rfl) (by decide)
    · refine J.region (by kernel_rfl) ?_
      refine O.pure 4 [(1, 0), (0, 0)] [2, 3, 6, 8] [p0_0, 0, p0_1, 0] (fr' := [(2, .pointer (some ⟨p0_0, 0, none⟩)), (3, .pointer (some ⟨p0_1, 0, none⟩)), (6, .int .i64 a0.f0), (8, .int .i64 a1.f0)]) (bx' := [⟨p0_1, [.int .i64 a1.f0, .int .i64 a1.f1, .slice h3.1 a1.f2.length h3.2, .slice h4.1 a1.f3.length h4.2, .slice h5.1 a1.f4.length h5.2], 27⟩, ⟨p0_0, [.int .i64 a0.f0, .int .i64 a0.f1, .slice h0.1 a0.f2.length h0.2, .slice h1.1 a0.f3.length h1.2, .slice h2.1 a0.f4.length h2.2], 27⟩]) (by kernel_rfl) ?_
      refine O.q (v := .bool true) (some 9) (Qu.eqv (u := .bool (a0.f0 == a1.f0)) (v := .bool true) (0, 0) [] (by kernel_rfl) (congrArg Value.bool hc1)) (by kernel_rfl) ?_
      refine O.pure 5 [(1, 1), (0, 1)] [2, 3, 10, 12, 14] [p0_0, 1, p0_1, 1] (fr' := [(2, .pointer (some ⟨p0_0, 0, none⟩)), (3, .pointer (some ⟨p0_1, 0, none⟩)), (10, .bool true), (12, .int .i64 a0.f1), (14, .int .i64 a1.f1)]) (bx' := [⟨p0_1, [.int .i64 a1.f0, .int .i64 a1.f1, .slice h3.1 a1.f2.length h3.2, .slice h4.1 a1.f3.length h4.2, .slice h5.1 a1.f4.length h5.2], 27⟩, ⟨p0_0, [.int .i64 a0.f0, .int .i64 a0.f1, .slice h0.1 a0.f2.length h0.2, .slice h1.1 a0.f3.length h1.2, .slice h2.1 a0.f4.length h2.2], 27⟩]) (by kernel_rfl) ?_
      refine O.q (v := .bool false) (some 15) (Qu.eqv (u := .bool (a0.f1 == a1.f1)) (v := .bool false) (0, 0) [] (by kernel_rfl) (congrArg Value.bool hc2)) (by kernel_rfl) ?_
      refine O.pure 23 [] [4] [] (fr' := [(4, .bool false)]) (bx' := [⟨p0_1, [.int .i64 a1.f0, .int .i64 a1.f1, .slice h3.1 a1.f2.length h3.2, .slice h4.1 a1.f3.length h4.2, .slice h5.1 a1.f4.length h5.2], 27⟩, ⟨p0_0, [.int .i64 a0.f0, .int .i64 a0.f1, .slice h0.1 a0.f2.length h0.2, .slice h1.1 a0.f3.length h1.2, .slice h2.1 a0.f4.length h2.2], 27⟩]) (by kernel_rfl) ?_
      refine O.nil (by kernel_rfl) ?_
      obtain rfl := Option.some.inj H
      exact J.doneS [] [] [] [] [] () (vs := [.bool false]) (by kernel_rfl) (by kernel_rfl) (by kernel_rfl) (by kernel_rfl) (by kernel_rfl) (by decide)
  · refine J.region (by kernel_rfl) ?_
    refine O.pure 4 [(1, 0), (0, 0)] [2, 3, 6, 8] [p0_0, 0, p0_1, 0] (fr' := [(2, .pointer (some ⟨p0_0, 0, none⟩)), (3, .pointer (some ⟨p0_1, 0, none⟩)), (6, .int .i64 a0.f0), (8, .int .i64 a1.f0)]) (bx' := [⟨p0_1, [.int .i64 a1.f0, .int .i64 a1.f1, .slice h3.1 a1.f2.length h3.2, .slice h4.1 a1.f3.length h4.2, .slice h5.1 a1.f4.length h5.2], 27⟩, ⟨p0_0, [.int .i64 a0.f0, .int .i64 a0.f1, .slice h0.1 a0.f2.length h0.2, .slice h1.1 a0.f3.length h1.2, .slice h2.1 a0.f4.length h2.2], 27⟩]) (by kernel_rfl) ?_
    refine O.q (v := .bool false) (some 9) (Qu.eqv (u := .bool (a0.f0 == a1.f0)) (v := .bool false) (0, 0) [] (by kernel_rfl) (congrArg Value.bool hc1)) (by kernel_rfl) ?_
    refine O.pure 29 [] [4] [] (fr' := [(4, .bool false)]) (bx' := [⟨p0_1, [.int .i64 a1.f0, .int .i64 a1.f1, .slice h3.1 a1.f2.length h3.2, .slice h4.1 a1.f3.length h4.2, .slice h5.1 a1.f4.length h5.2], 27⟩, ⟨p0_0, [.int .i64 a0.f0, .int .i64 a0.f1, .slice h0.1 a0.f2.length h0.2, .slice h1.1 a0.f3.length h1.2, .slice h2.1 a0.f4.length h2.2], 27⟩]) (by kernel_rfl) ?_
    refine O.nil (by kernel_rfl) ?_
    obtain rfl := Option.some.inj H
    exact J.doneS [] [] [] [] [] () (vs := [.bool false]) (by kernel_rfl) (by kernel_rfl) (by kernel_rfl) (by kernel_rfl) (by kernel_rfl) (by decide)
end Go.Proofs.Ytlcbgmaajijbjaa.G
