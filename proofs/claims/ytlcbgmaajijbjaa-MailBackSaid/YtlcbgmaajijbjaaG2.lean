/- Functions of the program as plain Lean, with their contracts (part 2); printed by a program of this session. -/
import Derived.Test.YtlcbgmaajijbjaaG1
set_option linter.unusedVariables false
set_option linter.unusedSimpArgs false
namespace Go.Proofs.Ytlcbgmaajijbjaa.G
open Go Go.RowKit Go.Hw
/-! ### haywain/haywainref02.Digits: function 43 -/
def haywainref02_Digits.r (K : Nat) : Nat → Int → Int → Option (List Int)
  | 0, _, _ => none
  | k + 1, a0, a1 => cond (a1 == 0) (some (([] : List Int))) ((divO .u64 a0 256).bind fun z3_1 => (haywainref02_Digits.r K k (IntKind.wrap .u64 (a0.tdiv 256)) (IntKind.wrap .i64 (a1 - 1))).bind fun x3_4 => (remO a0 256).bind fun z3_6 => (appO 1 x3_4 ([(IntKind.wrap .u8 (a0.tmod 256))] : List Int)).bind fun y3_9 => some ((x3_4 ++ ([(IntKind.wrap .u8 (a0.tmod 256))] : List Int))))
def haywainref02_Digits.f (K : Nat) (a0 : Int) (a1 : Int) : Option (List Int) := haywainref02_Digits.r K K a0 a1
set_option maxRecDepth 100000 in
set_option maxHeartbeats 1000000 in
theorem haywainref02_Digits.con_r (K : Nat) : ∀ (k : Nat) (a0 : Int) (a1 : Int) (r : (List Int)) (X : Nat → Nat → Prop) (w : World) (hS : St X w [] [] [] [] [] w) (H : haywainref02_Digits.r K k a0 a1 = some r), Cn Try.prog 43 [.int .u64 a0, .int .i64 a1] X w [] (fun i : Hd => .slice i.1 r.length i.2) (fun i => []) (fun i => [mkRow (Kd.int .u8) 5 (.slice i.1 r.length i.2) r]) (fun i => []) := by
  intro k
  induction k with
  | zero => intro a0 a1 r X w hS H; simp [haywainref02_Digits.r] at H
  | succ k ih =>
    intro a0 a1 r X w hS H
    refine Cn.of Try.func43 (by kernel_rfl) hS ?_
    unfold haywainref02_Digits.r at H
    refine J.seq (by kernel_rfl) ?_
    refine J.region (by kernel_rfl) ?_
    refine O.pure 1 [] [0, 1] [] (fr' := [(0, .int .u64 a0), (1, .int .i64 a1)]) (bx' := []) (by kernel_rfl) ?_
    refine O.nil (by kernel_rfl) ?_
    refine J.seq (by kernel_rfl) ?_
    refine J.seq (by kernel_rfl) ?_
    refine J.region (by kernel_rfl) ?_
    refine O.pure 2 [] [0, 1, 6] [] (fr' := [(0, .int .u64 a0), (1, .int .i64 a1), (6, .bool (a1 == 0))]) (bx' := []) (by kernel_rfl) ?_
    refine O.nil (by kernel_rfl) ?_
    rcases condE H with ⟨hc1, H⟩ | ⟨hc1, H⟩
    ·refine J.condT (x := .tmp 6) (t := (a1 == 0)) (by kernel_rfl) (by kernel_rfl) hc1 ?_
     refine J.seq (by kernel_rfl) ?_
     refine J.region (by kernel_rfl) ?_
     refine O.pure 1 [] [4] [] (fr' := [(4, .slice none 0 0)]) (bx' := []) (by kernel_rfl) ?_
     refine O.nil (by kernel_rfl) ?_
     obtain rfl := Option.some.inj H
     refine J.nilrow (Kd.int .u8) 5 ?_
     exact J.doneS [] [] [] [] [0] (none, 0) (vs := [.slice none 0 0]) (by kernel_rfl) (by kernel_rfl) (by kernel_rfl) (by kernel_rfl) (by kernel_rfl) (by decide)
    ·refine J.condF (x := .tmp 6) (t := (a1 == 0)) (by kernel_rfl) (by kernel_rfl) hc1 ?_
     refine J.skip (by kernel_rfl) ?_
     refine J.seq (by kernel_rfl) ?_
     obtain ⟨z3_1, hz3_1, H⟩ := bindE H
     have hz3_1a := (divE hz3_1).1
     obtain ⟨x3_4, hx3_4, H⟩ := bindE H
     obtain ⟨z3_6, hz3_6, H⟩ := bindE H
     have hz3_6a := (remE hz3_6).1
     obtain ⟨y3_9, hy3_9, H⟩ := bindE H
     have hy3_9a := (appE hy3_9).1
     refine J.region (by kernel_rfl) ?_
     refine O.pure 1 [] [0, 1, 7] [] (fr' := [(0, .int .u64 a0), (1, .int .i64 a1), (7, .int .u64 a0)]) (bx' := []) (by kernel_rfl) ?_
     refine O.q (v := .int .u64 (IntKind.wrap .u64 (a0.tdiv 256))) (some 8) (Qu.div (t := 80) (t' := 80) (x := .tmp 7) (y := .const (.int .u64 256)) (a := a0) (b := 256) (by kernel_rfl) (by kernel_rfl) (by kernel_rfl) hz3_1a) (by kernel_rfl) ?_
     refine O.pure 2 [] [0, 8, 10] [] (fr' := [(0, .int .u64 a0), (8, .int .u64 (IntKind.wrap .u64 (a0.tdiv 256))), (10, .int .i64 (IntKind.wrap .i64 (a1 - 1)))]) (bx' := []) (by kernel_rfl) ?_
     refine O.e (some 11) (Ev.call0 (xs := [.tmp 8, .tmp 10]) [] (by kernel_rfl) (by kernel_rfl) (fun w hS => ih (IntKind.wrap .u64 (a0.tdiv 256)) (IntKind.wrap .i64 (a1 - 1))  _ _ w hS hx3_4)) (by kernel_rfl) (fun p3_4 => ?_)
     refine O.pure 1 [] [11, 12] [] (fr' := [(11, .slice p3_4.1 x3_4.length p3_4.2), (12, .int .u64 a0)]) (bx' := []) (by kernel_rfl) ?_
     refine O.q (v := .int .u64 (a0.tmod 256)) (some 13) (Qu.rem (t := 80) (t' := 80) (x := .tmp 12) (y := .const (.int .u64 256)) (a := a0) (b := 256) (by kernel_rfl) (by kernel_rfl) (by kernel_rfl) hz3_6a) (by kernel_rfl) ?_
     refine O.pure 1 [] [11, 14] [] (fr' := [(11, .slice p3_4.1 x3_4.length p3_4.2), (14, .int .u8 (IntKind.wrap .u8 (a0.tmod 256)))]) (bx' := []) (by kernel_rfl) ?_
     refine O.e (some 15) (Ev.lit (t := 36) (len := 1) (parts := #[(0, .tmp 14)]) (ps := [(0, .int .u8 (IntKind.wrap .u8 (a0.tmod 256)))]) (cs := [.int .u8 (IntKind.wrap .u8 (a0.tmod 256))]) (e := 5) (Kd.int .u8) ([(IntKind.wrap .u8 (a0.tmod 256))] : List Int) (by kernel_rfl) (by kernel_rfl) (by kernel_rfl) (by kernel_rfl) (by kernel_rfl) (by decide) (fun w' hφ => (Els.cons (c := [.int .u8 (IntKind.wrap .u8 (a0.tmod 256))]) (rfl) (Els.nil _ _ _)))) (by kernel_rfl) (fun p3_8 => ?_)
     refine O.e (some 16) (Ev.appLit (x := .tmp 11) (y := .tmp 15) (t := 36) (bytes := 1) (by kernel_rfl) (by kernel_rfl) (by kernel_rfl) (by kernel_rfl) (by kernel_rfl) (by decide) hy3_9a) (by kernel_rfl) (fun p3_9 => ?_)
     refine O.pure 1 [] [4] [] (fr' := [(4, .slice p3_9.1 (x3_4 ++ ([(IntKind.wrap .u8 (a0.tmod 256))] : List Int)).length p3_9.2)]) (bx' := []) (by kernel_rfl) ?_
     refine O.nil (by kernel_rfl) ?_
     obtain rfl := Option.some.inj H
     exact J.doneS [] [] [] [] [0] p3_9 (vs := [.slice p3_9.1 (x3_4 ++ ([(IntKind.wrap .u8 (a0.tmod 256))] : List Int)).length p3_9.2]) (by kernel_rfl) (by kernel_rfl) (by kernel_rfl) (by kernel_rfl) (by kernel_rfl) (by decide)
theorem haywainref02_Digits.con (K : Nat) (a0 : Int) (a1 : Int) (r : (List Int)) (X : Nat → Nat → Prop) (w : World) (hS : St X w [] [] [] [] [] w) (H : haywainref02_Digits.f K a0 a1 = some r) : Cn Try.prog 43 [.int .u64 a0, .int .i64 a1] X w [] (fun i : Hd => .slice i.1 r.length i.2) (fun i => []) (fun i => [mkRow (Kd.int .u8) 5 (.slice i.1 r.length i.2) r]) (fun i => []) := haywainref02_Digits.con_r K K a0 a1 r X w hS H
/-! ### haywain/haywainref02.Num: function 28 -/
def haywainref02_Num.f (K : Nat) (a0 : Int) : Option (List Int) := (haywainref02_Digits.f K (IntKind.wrap .u64 a0) 8).bind fun x1_2 => some (x1_2)
set_option maxRecDepth 100000 in
set_option maxHeartbeats 1000000 in
theorem haywainref02_Num.con (K : Nat) (a0 : Int) (r : (List Int)) (X : Nat → Nat → Prop) (w : World) (hS : St X w [] [] [] [] [] w) (H : haywainref02_Num.f K a0 = some r) :
    Cn Try.prog 28 [.int .i64 a0] X w [] (fun i : Hd => .slice i.1 r.length i.2) (fun i => []) (fun i => [mkRow (Kd.int .u8) 5 (.slice i.1 r.length i.2) r]) (fun i => []) := by
 refine Cn.of Try.func28 (by kernel_rfl) hS ?_
 unfold haywainref02_Num.f at H
 refine J.seq (by kernel_rfl) ?_
 refine J.region (by kernel_rfl) ?_
 refine O.pure 1 [] [0] [] (fr' := [(0, .int .i64 a0)]) (bx' := []) (by kernel_rfl) ?_
 refine O.nil (by kernel_rfl) ?_
 refine J.seq (by kernel_rfl) ?_
 obtain ⟨x1_2, hx1_2, H⟩ := bindE H
 refine J.region (by kernel_rfl) ?_
 refine O.pure 2 [] [4] [] (fr' := [(4, .int .u64 (IntKind.wrap .u64 a0))]) (bx' := []) (by kernel_rfl) ?_
 refine O.e (some 5) (Ev.call0 (xs := [.tmp 4, .const (.int .i64 8)]) [] (by kernel_rfl) (by kernel_rfl) (fun w hS => haywainref02_Digits.con K (IntKind.wrap .u64 a0) 8  _ _ w hS hx1_2)) (by kernel_rfl) (fun p1_2 => ?_)
 refine O.pure 1 [] [2] [] (fr' := [(2, .slice p1_2.1 x1_2.length p1_2.2)]) (bx' := []) (by kernel_rfl) ?_
 refine O.nil (by kernel_rfl) ?_
 obtain rfl := Option.some.inj H
 exact J.doneS [] [] [] [] [0] p1_2 (vs := [.slice p1_2.1 x1_2.length p1_2.2]) (by kernel_rfl) (by kernel_rfl) (by kernel_rfl) (by kernel_rfl) (by kernel_rfl) (by decide)
/-! ### haywain/haywainref15.Encode: function 15 -/
def haywainref15_Encode.l1 (K : Nat) (x2_1 : List Int) : Nat → ((List Int) × Int) → Option (List Int)
  | 0, _ => none
  | k + 1, s1 => cond (decide (s1.2 < (x2_1.length : Int))) ((idxO x2_1 s1.2).bind fun x6_3 => (haywainref02_Num.f K x6_3).bind fun x6_5 => (appO 1 s1.1 x6_5).bind fun y6_6 => haywainref15_Encode.l1 K x2_1 k ((s1.1 ++ x6_5), (IntKind.wrap .i64 (s1.2 + 1)))) (some (s1.1))
def haywainref15_Encode.f (K : Nat) (a0 : S34) : Option (List Int) := (haywainref15_Numbers.f K a0).bind fun x2_1 => haywainref15_Encode.l1 K x2_1 K (([] : List Int), 0)
set_option maxRecDepth 100000 in
set_option maxHeartbeats 1000000 in
theorem haywainref15_Encode.con (K : Nat) (a0 : S34) (h0 : Hd) (h1 : Hd) (h2 : Hd) (h3 : Hd) (h4 : Hd) (h5 : Hd) (h6 : Hd) (r : (List Int)) (X : Nat → Nat → Prop) (w : World) (hS : St X w [] [] [] [] [Rd (Kd.int .i64) h0.1 h0.2 a0.f8, Rd (Kd.int .i64) h1.1 h1.2 a0.f9, Rd (Kd.int .i64) h2.1 h2.2 a0.f10, Rd (Kd.int .i64) h3.1 h3.2 a0.f11.f2, Rd Kd.bool h4.1 h4.2 a0.f11.f3, Rd kd77 h5.1 h5.2 a0.f11.f4, Rd kd77 h6.1 h6.2 a0.f12] w) (H : haywainref15_Encode.f K a0 = some r) :
    Cn Try.prog 15 [.agg #[.int .i64 a0.f0, .int .i64 a0.f1, .int .i64 a0.f2, .int .i64 a0.f3, .int .i64 a0.f4, .int .i64 a0.f5, .int .i64 a0.f6, .int .i64 a0.f7, .slice h0.1 a0.f8.length h0.2, .slice h1.1 a0.f9.length h1.2, .slice h2.1 a0.f10.length h2.2, .int .i64 a0.f11.f0, .int .i64 a0.f11.f1, .slice h3.1 a0.f11.f2.length h3.2, .slice h4.1 a0.f11.f3.length h4.2, .slice h5.1 a0.f11.f4.length h5.2, .slice h6.1 a0.f12.length h6.2]] X w [] (fun i : Hd => .slice i.1 r.length i.2) (fun i => []) (fun i => [mkRow (Kd.int .u8) 5 (.slice i.1 r.length i.2) r]) (fun i => []) := by
 refine Cn.of Try.func15 (by kernel_rfl) hS ?_
 unfold haywainref15_Encode.f at H
 refine J.seq (by kernel_rfl) ?_
 refine J.region (by kernel_rfl) ?_
 refine O.e (some 1) (Ev.box (t := 34) (x := .tmp 0) (v := .agg #[.int .i64 a0.f0, .int .i64 a0.f1, .int .i64 a0.f2, .int .i64 a0.f3, .int .i64 a0.f4, .int .i64 a0.f5, .int .i64 a0.f6, .int .i64 a0.f7, .slice h0.1 a0.f8.length h0.2, .slice h1.1 a0.f9.length h1.2, .slice h2.1 a0.f10.length h2.2, .int .i64 a0.f11.f0, .int .i64 a0.f11.f1, .slice h3.1 a0.f11.f2.length h3.2, .slice h4.1 a0.f11.f3.length h4.2, .slice h5.1 a0.f11.f4.length h5.2, .slice h6.1 a0.f12.length h6.2]) (by kernel_rfl) (by kernel_rfl)) (by kernel_rfl) (fun p0_0 => ?_)
 refine O.pure 1 [] [1] [] (fr' := [(1, .pointer (some ⟨p0_0, 0, none⟩))]) (bx' := [⟨p0_0, [.int .i64 a0.f0, .int .i64 a0.f1, .int .i64 a0.f2, .int .i64 a0.f3, .int .i64 a0.f4, .int .i64 a0.f5, .int .i64 a0.f6, .int .i64 a0.f7, .slice h0.1 a0.f8.length h0.2, .slice h1.1 a0.f9.length h1.2, .slice h2.1 a0.f10.length h2.2, .int .i64 a0.f11.f0, .int .i64 a0.f11.f1, .slice h3.1 a0.f11.f2.length h3.2, .slice h4.1 a0.f11.f3.length h4.2, .slice h5.1 a0.f11.f4.length h5.2, .slice h6.1 a0.f12.length h6.2], 34⟩]) (by kernel_rfl) ?_
 refine O.nil (by kernel_rfl) ?_
 refine J.seq (by kernel_rfl) ?_
 refine J.region (by kernel_rfl) ?_
 refine O.pure 1 [] [1, 3] [] (fr' := [(1, .pointer (some ⟨p0_0, 0, none⟩)), (3, .slice none 0 0)]) (bx' := [⟨p0_0, [.int .i64 a0.f0, .int .i64 a0.f1, .int .i64 a0.f2, .int .i64 a0.f3, .int .i64 a0.f4, .int .i64 a0.f5, .int .i64 a0.f6, .int .i64 a0.f7, .slice h0.1 a0.f8.length h0.2, .slice h1.1 a0.f9.length h1.2, .slice h2.1 a0.f10.length h2.2, .int .i64 a0.f11.f0, .int .i64 a0.f11.f1, .slice h3.1 a0.f11.f2.length h3.2, .slice h4.1 a0.f11.f3.length h4.2, .slice h5.1 a0.f11.f4.length h5.2, .slice h6.1 a0.f12.length h6.2], 34⟩]) (by kernel_rfl) ?_
 refine O.nil (by kernel_rfl) ?_
 refine J.seq (by kernel_rfl) ?_
 obtain ⟨x2_1, hx2_1, H⟩ := bindE H
 refine J.region (by kernel_rfl) ?_
 refine O.pure 1 [(0, 0)] [3, 6] [p0_0, 0] (fr' := [(3, .slice none 0 0), (6, .agg #[.int .i64 a0.f0, .int .i64 a0.f1, .int .i64 a0.f2, .int .i64 a0.f3, .int .i64 a0.f4, .int .i64 a0.f5, .int .i64 a0.f6, .int .i64 a0.f7, .slice h0.1 a0.f8.length h0.2, .slice h1.1 a0.f9.length h1.2, .slice h2.1 a0.f10.length h2.2, .int .i64 a0.f11.f0, .int .i64 a0.f11.f1, .slice h3.1 a0.f11.f2.length h3.2, .slice h4.1 a0.f11.f3.length h4.2, .slice h5.1 a0.f11.f4.length h5.2, .slice h6.1 a0.f12.length h6.2])]) (bx' := [⟨p0_0, [.int .i64 a0.f0, .int .i64 a0.f1, .int .i64 a0.f2, .int .i64 a0.f3, .int .i64 a0.f4, .int .i64 a0.f5, .int .i64 a0.f6, .int .i64 a0.f7, .slice h0.1 a0.f8.length h0.2, .slice h1.1 a0.f9.length h1.2, .slice h2.1 a0.f10.length h2.2, .int .i64 a0.f11.f0, .int .i64 a0.f11.f1, .slice h3.1 a0.f11.f2.length h3.2, .slice h4.1 a0.f11.f3.length h4.2, .slice h5.1 a0.f11.f4.length h5.2, .slice h6.1 a0.f12.length h6.2], 34⟩]) (by kernel_rfl) ?_
 refine O.e (some 7) (Ev.call0 (xs := [.tmp 6]) [0, 1, 2, 3, 4, 5, 6] (by kernel_rfl) (by kernel_rfl) (fun w hS => haywainref15_Numbers.con K a0 h0 h1 h2 h3 h4 h5 h6  _ _ w hS hx2_1)) (by kernel_rfl) (fun p2_1 => ?_)
 refine O.pure 1 [] [3, 4] [] (fr' := [(3, .slice none 0 0), (4, .slice p2_1.1 x2_1.length p2_1.2)]) (bx' := [⟨p0_0, [.int .i64 a0.f0, .int .i64 a0.f1, .int .i64 a0.f2, .int .i64 a0.f3, .int .i64 a0.f4, .int .i64 a0.f5, .int .i64 a0.f6, .int .i64 a0.f7, .slice h0.1 a0.f8.length h0.2, .slice h1.1 a0.f9.length h1.2, .slice h2.1 a0.f10.length h2.2, .int .i64 a0.f11.f0, .int .i64 a0.f11.f1, .slice h3.1 a0.f11.f2.length h3.2, .slice h4.1 a0.f11.f3.length h4.2, .slice h5.1 a0.f11.f4.length h5.2, .slice h6.1 a0.f12.length h6.2], 34⟩]) (by kernel_rfl) ?_
 refine O.nil (by kernel_rfl) ?_
 refine J.seq (by kernel_rfl) ?_
 refine J.seq (by kernel_rfl) ?_
 refine J.region (by kernel_rfl) ?_
 refine O.pure 1 [] [3, 4, 5] [] (fr' := [(3, .slice none 0 0), (4, .slice p2_1.1 x2_1.length p2_1.2), (5, .int .i64 0)]) (bx' := [⟨p0_0, [.int .i64 a0.f0, .int .i64 a0.f1, .int .i64 a0.f2, .int .i64 a0.f3, .int .i64 a0.f4, .int .i64 a0.f5, .int .i64 a0.f6, .int .i64 a0.f7, .slice h0.1 a0.f8.length h0.2, .slice h1.1 a0.f9.length h1.2, .slice h2.1 a0.f10.length h2.2, .int .i64 a0.f11.f0, .int .i64 a0.f11.f1, .slice h3.1 a0.f11.f2.length h3.2, .slice h4.1 a0.f11.f3.length h4.2, .slice h5.1 a0.f11.f4.length h5.2, .slice h6.1 a0.f12.length h6.2], 34⟩]) (by kernel_rfl) ?_
 refine O.nil (by kernel_rfl) ?_
 refine J.block (id := 0) (by kernel_rfl) ?_
 refine J.loopI (σ := (List Int) × Int) (γ := Hd) (f := fun m_ s_ => haywainref15_Encode.l1 K x2_1 m_ s_) (fun s1 g1 => [(3, .slice g1.1 s1.1.length g1.2), (4, .slice p2_1.1 x2_1.length p2_1.2), (5, .int .i64 s1.2)]) (fun s1 g1 => St X w [] [] [mkRow (Kd.int .u8) 5 (.slice g1.1 s1.1.length g1.2) s1.1] [] [Rd (Kd.int .i64) h0.1 h0.2 a0.f8, Rd (Kd.int .i64) h1.1 h1.2 a0.f9, Rd (Kd.int .i64) h2.1 h2.2 a0.f10, Rd (Kd.int .i64) h3.1 h3.2 a0.f11.f2, Rd Kd.bool h4.1 h4.2 a0.f11.f3, Rd kd77 h5.1 h5.2 a0.f11.f4, Rd kd77 h6.1 h6.2 a0.f12, Rd (Kd.int .i64) p2_1.1 p2_1.2 x2_1]) K (([] : List Int), 0) (none, 0) (by kernel_rfl) H (fun _ => rfl) (fun m_ s1 H ih1 g1 => ?_) (fun h_ => ?_)
 ·unfold haywainref15_Encode.l1 at H
  refine J.seq (by kernel_rfl) ?_
  refine J.seq (by kernel_rfl) ?_
  refine J.region (by kernel_rfl) ?_
  refine O.pure 4 [] [3, 4, 5, 11] [] (fr' := [(3, .slice g1.1 s1.1.length g1.2), (4, .slice p2_1.1 x2_1.length p2_1.2), (5, .int .i64 s1.2), (11, .bool (decide (s1.2 < (x2_1.length : Int))))]) (bx' := []) (by kernel_rfl) ?_
  refine O.nil (by kernel_rfl) ?_
  rcases condE H with ⟨hc4, H⟩ | ⟨hc4, H⟩
  ·refine J.condT (x := .tmp 11) (t := (decide (s1.2 < (x2_1.length : Int)))) (by kernel_rfl) (by kernel_rfl) hc4 ?_
   refine J.skip (by kernel_rfl) ?_
   refine J.seq (by kernel_rfl) ?_
   refine J.block (id := 1) (by kernel_rfl) ?_
   obtain ⟨x6_3, hx6_3, H⟩ := bindE H
   obtain ⟨hx6_3a, hx6_3⟩ := idxE hx6_3
   obtain ⟨x6_5, hx6_5, H⟩ := bindE H
   obtain ⟨y6_6, hy6_6, H⟩ := bindE H
   have hy6_6a := (appE hy6_6).1
   refine J.region (by kernel_rfl) ?_
   refine O.pure 3 [] [3, 4, 5, 14, 15, 16] [] (fr' := [(3, .slice g1.1 s1.1.length g1.2), (4, .slice p2_1.1 x2_1.length p2_1.2), (5, .int .i64 s1.2), (14, .slice g1.1 s1.1.length g1.2), (15, .slice p2_1.1 x2_1.length p2_1.2), (16, .int .i64 s1.2)]) (bx' := []) (by kernel_rfl) ?_
   refine O.open (d := (Kd.int .i64)) (h := p2_1) (i := s1.2) 7 rfl hx6_3 (Lay.int _ _) (fun p6_3 hp6_3A => ?_)
   refine O.q (v := .pointer (some ⟨p6_3.1, p6_3.2.1 + s1.2.toNat * 1, none⟩)) (some 17) (Qu.idx (t := 23) (x := .tmp 15) (y := .tmp 16) (c := p2_1.2) (kk := .i64) (sz := 1) (by kernel_rfl) (by kernel_rfl) (by kernel_rfl) (by kernel_rfl) hx6_3a (idx_lt hx6_3) hp6_3A) (by kernel_rfl) ?_
   refine O.pure 1 [(0, 0)] [3, 4, 5, 14, 18] [p6_3.1, p6_3.2.1 + s1.2.toNat * 1] (fr' := [(3, .slice g1.1 s1.1.length g1.2), (4, .slice p2_1.1 x2_1.length p2_1.2), (5, .int .i64 s1.2), (14, .slice g1.1 s1.1.length g1.2), (18, .int .i64 x6_3)]) (bx' := []) (by kernel_rfl) ?_
   refine O.e (some 19) (Ev.call0 (xs := [.tmp 18]) [] (by kernel_rfl) (by kernel_rfl) (fun w hS => haywainref02_Num.con K x6_3  _ _ w hS hx6_5)) (by kernel_rfl) (fun p6_5 => ?_)
   refine O.e (some 20) (Ev.mono (fun w hS => hS.freezeH (h := p6_5) (xs := x6_5)) (Ev.appSl (d := (Kd.int .u8)) (ys := x6_5) (A := p6_5.1) (c := p6_5.2) (x := .tmp 14) (y := .tmp 19) (t := 36) (bytes := 1) 0 (by kernel_rfl) (by kernel_rfl) (by kernel_rfl) rfl (by kernel_rfl) (by decide) hy6_6a)) (by kernel_rfl) (fun p6_6 => ?_)
   refine O.pure 1 [] [3, 4, 5] [] (fr' := [(3, .slice p6_6.1 (s1.1 ++ x6_5).length p6_6.2), (4, .slice p2_1.1 x2_1.length p2_1.2), (5, .int .i64 s1.2)]) (bx' := []) (by kernel_rfl) ?_
   refine O.nil (by kernel_rfl) ?_
   refine J.out ?_
   refine J.region (by kernel_rfl) ?_
   refine O.pure 3 [] [3, 4, 5] [] (fr' := [(3, .slice p6_6.1 (s1.1 ++ x6_5).length p6_6.2), (4, .slice p2_1.1 x2_1.length p2_1.2), (5, .int .i64 (IntKind.wrap .i64 (s1.2 + 1)))]) (bx' := []) (by kernel_rfl) ?_
   refine O.nil (by kernel_rfl) ?_
   exact J.conv2 [3, 4, 5] [1, 2, 3, 4, 5, 6, 7, 8] [] [0] (by kernel_rfl) (by kernel_rfl) (by kernel_rfl) (by kernel_rfl) (by decide) (ih1 ((s1.1 ++ x6_5), (IntKind.wrap .i64 (s1.2 + 1))) p6_6 H)
  ·refine J.condF (x := .tmp 11) (t := (decide (s1.2 < (x2_1.length : Int)))) (by kernel_rfl) (by kernel_rfl) hc4 ?_
   refine J.exit (id := 0) (by kernel_rfl) rfl ?_
   refine J.seq (by kernel_rfl) ?_
   refine J.region (by kernel_rfl) ?_
   refine O.pure 2 [] [2] [] (fr' := [(2, .slice g1.1 s1.1.length g1.2)]) (bx' := []) (by kernel_rfl) ?_
   refine O.nil (by kernel_rfl) ?_
   obtain rfl := Option.some.inj H
   exact J.doneS [] [] [] [] [0] g1 (vs := [.slice g1.1 s1.1.length g1.2]) (by kernel_rfl) (by kernel_rfl) (by kernel_rfl) (by kernel_rfl) (by kernel_rfl) (by decide)
 ·refine J.nilrow (Kd.int .u8) 5 ?_
  refine J.mono (fun w hS => hS.rowsel [1, 0] rfl (by decide)) ?_
  refine J.mono (fun w hS => hS.freezeH (h := p2_1) (xs := x2_1)) ?_
  exact J.conv2 [3, 4, 5] [1, 2, 3, 4, 5, 6, 7, 0] [] [0] (by kernel_rfl) (by kernel_rfl) (by kernel_rfl) (by kernel_rfl) (by decide) h_
/-! ### haywain/haywainref02.Value: function 45 -/
def haywainref02_Value.l1 (K : Nat) (a0 : List Int) : Nat → (Int × Int) → Option Int
  | 0, _ => none
  | k + 1, s1 => cond (decide (s1.2 < (a0.length : Int))) ((idxO a0 s1.2).bind fun x5_4 => haywainref02_Value.l1 K a0 k ((IntKind.wrap .u64 ((IntKind.wrap .u64 (s1.1 * 256)) + (IntKind.wrap .u64 x5_4))), (IntKind.wrap .i64 (s1.2 + 1)))) (some (s1.1))
def haywainref02_Value.f (K : Nat) (a0 : List Int) : Option Int := haywainref02_Value.l1 K a0 K (0, 0)
set_option maxRecDepth 100000 in
set_option maxHeartbeats 1000000 in
theorem haywainref02_Value.con (K : Nat) (a0 : List Int) (h0 : Hd) (r : Int) (X : Nat → Nat → Prop) (w : World) (hS : St X w [] [] [] [] [Rd (Kd.int .u8) h0.1 h0.2 a0] w) (H : haywainref02_Value.f K a0 = some r) :
    Cn Try.prog 45 [.slice h0.1 a0.length h0.2] X w [] (fun i : Unit => .int .u64 r) (fun i => []) (fun i => []) (fun i => []) := by
 refine Cn.of Try.func45 (by kernel_rfl) hS ?_
 unfold haywainref02_Value.f at H
 refine J.seq (by kernel_rfl) ?_
 refine J.region (by kernel_rfl) ?_
 refine O.pure 1 [] [0] [] (fr' := [(0, .slice h0.1 a0.length h0.2)]) (bx' := []) (by kernel_rfl) ?_
 refine O.nil (by kernel_rfl) ?_
 refine J.seq (by kernel_rfl) ?_
 refine J.region (by kernel_rfl) ?_
 refine O.pure 1 [] [0, 3] [] (fr' := [(0, .slice h0.1 a0.length h0.2), (3, .int .u64 0)]) (bx' := []) (by kernel_rfl) ?_
 refine O.nil (by kernel_rfl) ?_
 refine J.seq (by kernel_rfl) ?_
 refine J.seq (by kernel_rfl) ?_
 refine J.region (by kernel_rfl) ?_
 refine O.pure 1 [] [0, 3, 4] [] (fr' := [(0, .slice h0.1 a0.length h0.2), (3, .int .u64 0), (4, .int .i64 0)]) (bx' := []) (by kernel_rfl) ?_
 refine O.nil (by kernel_rfl) ?_
 refine J.block (id := 0) (by kernel_rfl) ?_
 refine J.loopI (σ := Int × Int) (γ := Unit) (f := fun m_ s_ => haywainref02_Value.l1 K a0 m_ s_) (fun s1 g1 => [(0, .slice h0.1 a0.length h0.2), (3, .int .u64 s1.1), (4, .int .i64 s1.2)]) (fun s1 g1 => St X w [] [] [] [] [Rd (Kd.int .u8) h0.1 h0.2 a0]) K (0, 0) () (by kernel_rfl) H (fun _ => rfl) (fun m_ s1 H ih1 g1 => ?_) (fun h_ => ?_)
 ·unfold haywainref02_Value.l1 at H
  refine J.seq (by kernel_rfl) ?_
  refine J.seq (by kernel_rfl) ?_
  refine J.region (by kernel_rfl) ?_
  refine O.pure 4 [] [0, 3, 4, 8] [] (fr' := [(0, .slice h0.1 a0.length h0.2), (3, .int .u64 s1.1), (4, .int .i64 s1.2), (8, .bool (decide (s1.2 < (a0.length : Int))))]) (bx' := []) (by kernel_rfl) ?_
  refine O.nil (by kernel_rfl) ?_
  rcases condE H with ⟨hc4, H⟩ | ⟨hc4, H⟩
  ·refine J.condT (x := .tmp 8) (t := (decide (s1.2 < (a0.length : Int)))) (by kernel_rfl) (by kernel_rfl) hc4 ?_
   refine J.skip (by kernel_rfl) ?_
   refine J.seq (by kernel_rfl) ?_
   refine J.block (id := 1) (by kernel_rfl) ?_
   obtain ⟨x5_4, hx5_4, H⟩ := bindE H
   obtain ⟨hx5_4a, hx5_4⟩ := idxE hx5_4
   refine J.region (by kernel_rfl) ?_
   refine O.pure 4 [] [0, 3, 4, 12, 13, 14] [] (fr' := [(0, .slice h0.1 a0.length h0.2), (3, .int .u64 s1.1), (4, .int .i64 s1.2), (12, .int .u64 (IntKind.wrap .u64 (s1.1 * 256))), (13, .slice h0.1 a0.length h0.2), (14, .int .i64 s1.2)]) (bx' := []) (by kernel_rfl) ?_
   refine O.open (d := (Kd.int .u8)) (h := h0) (i := s1.2) 0 rfl hx5_4 (Lay.int _ _) (fun p5_4 hp5_4A => ?_)
   refine O.q (v := .pointer (some ⟨p5_4.1, p5_4.2.1 + s1.2.toNat * 1, none⟩)) (some 15) (Qu.idx (t := 36) (x := .tmp 13) (y := .tmp 14) (c := h0.2) (kk := .i64) (sz := 1) (by kernel_rfl) (by kernel_rfl) (by kernel_rfl) (by kernel_rfl) hx5_4a (idx_lt hx5_4) hp5_4A) (by kernel_rfl) ?_
   refine O.pure 4 [(0, 0)] [0, 3, 4] [p5_4.1, p5_4.2.1 + s1.2.toNat * 1] (fr' := [(0, .slice h0.1 a0.length h0.2), (3, .int .u64 (IntKind.wrap .u64 ((IntKind.wrap .u64 (s1.1 * 256)) + (IntKind.wrap .u64 x5_4)))), (4, .int .i64 s1.2)]) (bx' := []) (by kernel_rfl) ?_
   refine O.nil (by kernel_rfl) ?_
   refine J.out ?_
   refine J.region (by kernel_rfl) ?_
   refine O.pure 3 [] [0, 3, 4] [] (fr' := [(0, .slice h0.1 a0.length h0.2), (3, .int .u64 (IntKind.wrap .u64 ((IntKind.wrap .u64 (s1.1 * 256)) + (IntKind.wrap .u64 x5_4)))), (4, .int .i64 (IntKind.wrap .i64 (s1.2 + 1)))]) (bx' := []) (by kernel_rfl) ?_
   refine O.nil (by kernel_rfl) ?_
   exact J.conv2 [0, 3, 4] [0] [] [] (by kernel_rfl) (by kernel_rfl) (by kernel_rfl) (by kernel_rfl) (by decide) (ih1 ((IntKind.wrap .u64 ((IntKind.wrap .u64 (s1.1 * 256)) + (IntKind.wrap .u64 x5_4))), (IntKind.wrap .i64 (s1.2 + 1))) () H)
  ·refine J.condF (x := .tmp 8) (t := (decide (s1.2 < (a0.length : Int)))) (by kernel_rfl) (by kernel_rfl) hc4 ?_
   refine J.exit (id := 0) (by kernel_rfl) rfl ?_
   refine J.seq (by kernel_rfl) ?_
   refine J.region (by kernel_rfl) ?_
   refine O.pure 2 [] [2] [] (fr' := [(2, .int .u64 s1.1)]) (bx' := []) (by kernel_rfl) ?_
   refine O.nil (by kernel_rfl) ?_
   obtain rfl := Option.some.inj H
   exact J.doneS [] [] [] [] [] () (vs := [.int .u64 s1.1]) (by kernel_rfl) (by kernel_rfl) (by kernel_rfl) (by kernel_rfl) (by kernel_rfl) (by decide)
 ·exact J.conv2 [0, 3, 4] [0] [] [] (by kernel_rfl) (by kernel_rfl) (by kernel_rfl) (by kernel_rfl) (by decide) h_
/-! ### haywain/haywainref02.TakeNum: function 33 -/
def haywainref02_TakeNum.f (K : Nat) (a0 : List Int) : Option (Int × Bool) := cond (decide ((a0.length : Int) < 8)) (some ((0, false))) ((cutO a0 0 8).bind fun y3_1 => (haywainref02_Value.f K (cutL a0 ((0 : Int).toNat) ((8 : Int).toNat))).bind fun x3_2 => some (((IntKind.wrap .i64 x3_2), true)))
set_option maxRecDepth 100000 in
set_option maxHeartbeats 1000000 in
theorem haywainref02_TakeNum.con (K : Nat) (a0 : List Int) (h0 : Hd) (r : (Int × Bool)) (X : Nat → Nat → Prop) (w : World) (hS : St X w [] [] [] [] [Rd (Kd.int .u8) h0.1 h0.2 a0] w) (H : haywainref02_TakeNum.f K a0 = some r) :
    Cn Try.prog 33 [.slice h0.1 a0.length h0.2] X w [] (fun i : Unit => .tuple #[.int .i64 r.1, .bool r.2]) (fun i => []) (fun i => []) (fun i => []) := by
 refine Cn.of Try.func33 (by kernel_rfl) hS ?_
 unfold haywainref02_TakeNum.f at H
 refine J.seq (by kernel_rfl) ?_
 refine J.region (by kernel_rfl) ?_
 refine O.pure 2 [] [0] [] (fr' := [(0, .slice h0.1 a0.length h0.2)]) (bx' := []) (by kernel_rfl) ?_
 refine O.nil (by kernel_rfl) ?_
 refine J.seq (by kernel_rfl) ?_
 refine J.seq (by kernel_rfl) ?_
 refine J.region (by kernel_rfl) ?_
 refine O.pure 3 [] [0, 6] [] (fr' := [(0, .slice h0.1 a0.length h0.2), (6, .bool (decide ((a0.length : Int) < 8)))]) (bx' := []) (by kernel_rfl) ?_
 refine O.nil (by kernel_rfl) ?_
 rcases condE H with ⟨hc1, H⟩ | ⟨hc1, H⟩
 ·refine J.condT (x := .tmp 6) (t := (decide ((a0.length : Int) < 8))) (by kernel_rfl) (by kernel_rfl) hc1 ?_
  refine J.seq (by kernel_rfl) ?_
  refine J.region (by kernel_rfl) ?_
  refine O.pure 2 [] [2, 3] [] (fr' := [(2, .int .i64 0), (3, .bool false)]) (bx' := []) (by kernel_rfl) ?_
  refine O.nil (by kernel_rfl) ?_
  obtain rfl := Option.some.inj H
  exact J.doneS [] [] [] [] [] () (vs := [.int .i64 0, .bool false]) (by kernel_rfl) (by kernel_rfl) (by kernel_rfl) (by kernel_rfl) (by kernel_rfl) (by decide)
 ·refine J.condF (x := .tmp 6) (t := (decide ((a0.length : Int) < 8))) (by kernel_rfl) (by kernel_rfl) hc1 ?_
  refine J.skip (by kernel_rfl) ?_
  refine J.seq (by kernel_rfl) ?_
  obtain ⟨y3_1, hy3_1, H⟩ := bindE H
  obtain ⟨hy3_1a, hy3_1b, hy3_1c, -⟩ := cutE hy3_1
  obtain ⟨x3_2, hx3_2, H⟩ := bindE H
  refine J.region (by kernel_rfl) ?_
  refine O.pure 1 [] [7] [] (fr' := [(7, .slice h0.1 a0.length h0.2)]) (bx' := []) (by kernel_rfl) ?_
  refine O.e (some 8) (Ev.cut (d := (Kd.int .u8)) (xs := a0) (t := 36) (x := .tmp 7) (lo := none) (hi := (some (.const (.int .i64 8)))) (vlo := none) (vhi := (some (.int .i64 8))) (A := h0.1) (c := h0.2) (l := (0 : Int).toNat) (h := (8 : Int).toNat) 0 (by kernel_rfl) (by kernel_rfl) (by kernel_rfl) (by kernel_rfl) (by kernel_rfl) (Bd.dflt _) (Bd.val _ _ _ (by omega)) (by omega) (by omega) rfl) (by kernel_rfl) (fun p3_1 => ?_)
  refine O.e (some 9) (Ev.call0 (xs := [.tmp 8]) [0] (by kernel_rfl) (by kernel_rfl) (fun w hS => haywainref02_Value.con K (cutL a0 ((0 : Int).toNat) ((8 : Int).toNat)) p3_1  _ _ w hS hx3_2)) (by kernel_rfl) (fun _ => ?_)
  refine O.pure 3 [] [2, 3] [] (fr' := [(2, .int .i64 (IntKind.wrap .i64 x3_2)), (3, .bool true)]) (bx' := []) (by kernel_rfl) ?_
  refine O.nil (by kernel_rfl) ?_
  obtain rfl := Option.some.inj H
  exact J.doneS [] [] [] [] [] () (vs := [.int .i64 (IntKind.wrap .i64 x3_2), .bool true]) (by kernel_rfl) (by kernel_rfl) (by kernel_rfl) (by kernel_rfl) (by kernel_rfl) (by decide)
/-! ### haywain/haywainref15.at: function 46 -/
def haywainref15_at.f (K : Nat) (a0 : List Int) (a1 : Int) : Option Int := cond (decide (a1 < 0)) (some (0)) (cond (decide (a1 ≥ (a0.length : Int))) (some (0)) ((idxO a0 a1).bind fun x3_2 => some (x3_2)))
set_option maxRecDepth 100000 in
set_option maxHeartbeats 1000000 in
theorem haywainref15_at.con (K : Nat) (a0 : List Int) (a1 : Int) (h0 : Hd) (r : Int) (X : Nat → Nat → Prop) (w : World) (hS : St X w [] [] [] [] [Rd (Kd.int .i64) h0.1 h0.2 a0] w) (H : haywainref15_at.f K a0 a1 = some r) :
    Cn Try.prog 46 [.slice h0.1 a0.length h0.2, .int .i64 a1] X w [] (fun i : Unit => .int .i64 r) (fun i => []) (fun i => []) (fun i => []) := by
 refine Cn.of Try.func46 (by kernel_rfl) hS ?_
 unfold haywainref15_at.f at H
 refine J.seq (by kernel_rfl) ?_
 refine J.region (by kernel_rfl) ?_
 refine O.pure 1 [] [0, 1] [] (fr' := [(0, .slice h0.1 a0.length h0.2), (1, .int .i64 a1)]) (bx' := []) (by kernel_rfl) ?_
 refine O.nil (by kernel_rfl) ?_
 refine J.seq (by kernel_rfl) ?_
 refine J.seq (by kernel_rfl) ?_
 rcases condE H with ⟨hc1, H⟩ | ⟨hc1, H⟩
 ·refine J.region (by kernel_rfl) ?_
  refine O.pure 1 [] [0, 1, 5] [] (fr' := [(0, .slice h0.1 a0.length h0.2), (1, .int .i64 a1), (5, .int .i64 a1)]) (bx' := []) (by kernel_rfl) ?_
  refine O.q (v := .bool true) (some 6) (Qu.eqv (u := .bool (decide (a1 < 0))) (v := .bool true) (0, 0) [] (by kernel_rfl) (congrArg Value.bool hc1)) (by kernel_rfl) ?_
  refine O.pure 6 [] [0, 1, 12] [] (fr' := [(0, .slice h0.1 a0.length h0.2), (1, .int .i64 a1), (12, .bool true)]) (bx' := []) (by kernel_rfl) ?_
  refine O.nil (by kernel_rfl) ?_
  refine J.cond (o := .tmp 12) true (by kernel_rfl) (by kernel_rfl) ?_
  refine J.seq (by kernel_rfl) ?_
  refine J.region (by kernel_rfl) ?_
  refine O.pure 1 [] [4] [] (fr' := [(4, .int .i64 0)]) (bx' := []) (by kernel_rfl) ?_
  refine O.nil (by kernel_rfl) ?_
  obtain rfl := Option.some.inj H
  exact J.doneS [] [] [] [] [] () (vs := [.int .i64 0]) (by kernel_rfl) (by kernel_rfl) (by kernel_rfl) (by kernel_rfl) (by kernel_rfl) (by decide)
 ·refine J.region (by kernel_rfl) ?_
  refine O.pure 1 [] [0, 1, 5] [] (fr' := [(0, .slice h0.1 a0.length h0.2), (1, .int .i64 a1), (5, .int .i64 a1)]) (bx' := []) (by kernel_rfl) ?_
  refine O.q (v := .bool false) (some 6) (Qu.eqv (u := .bool (decide (a1 < 0))) (v := .bool false) (0, 0) [] (by kernel_rfl) (congrArg Value.bool hc1)) (by kernel_rfl) ?_
  refine O.pure 6 [] [0, 1, 12] [] (fr' := [(0, .slice h0.1 a0.length h0.2), (1, .int .i64 a1), (12, .bool (decide (a1 ≥ (a0.length : Int))))]) (bx' := []) (by kernel_rfl) ?_
  refine O.nil (by kernel_rfl) ?_
  rcases condE H with ⟨hc2, H⟩ | ⟨hc2, H⟩
  ·refine J.condT (x := .tmp 12) (t := (decide (a1 ≥ (a0.length : Int)))) (by kernel_rfl) (by kernel_rfl) hc2 ?_
   refine J.seq (by kernel_rfl) ?_
   refine J.region (by kernel_rfl) ?_
   refine O.pure 1 [] [4] [] (fr' := [(4, .int .i64 0)]) (bx' := []) (by kernel_rfl) ?_
   refine O.nil (by kernel_rfl) ?_
   obtain rfl := Option.some.inj H
   exact J.doneS [] [] [] [] [] () (vs := [.int .i64 0]) (by kernel_rfl) (by kernel_rfl) (by kernel_rfl) (by kernel_rfl) (by kernel_rfl) (by decide)
  ·refine J.condF (x := .tmp 12) (t := (decide (a1 ≥ (a0.length : Int)))) (by kernel_rfl) (by kernel_rfl) hc2 ?_
   refine J.skip (by kernel_rfl) ?_
   refine J.seq (by kernel_rfl) ?_
   obtain ⟨x3_2, hx3_2, H⟩ := bindE H
   obtain ⟨hx3_2a, hx3_2⟩ := idxE hx3_2
   refine J.region (by kernel_rfl) ?_
   refine O.pure 2 [] [13, 14] [] (fr' := [(13, .slice h0.1 a0.length h0.2), (14, .int .i64 a1)]) (bx' := []) (by kernel_rfl) ?_
   refine O.open (d := (Kd.int .i64)) (h := h0) (i := a1) 0 rfl hx3_2 (Lay.int _ _) (fun p3_2 hp3_2A => ?_)
   refine O.q (v := .pointer (some ⟨p3_2.1, p3_2.2.1 + a1.toNat * 1, none⟩)) (some 15) (Qu.idx (t := 23) (x := .tmp 13) (y := .tmp 14) (c := h0.2) (kk := .i64) (sz := 1) (by kernel_rfl) (by kernel_rfl) (by kernel_rfl) (by kernel_rfl) hx3_2a (idx_lt hx3_2) hp3_2A) (by kernel_rfl) ?_
   refine O.pure 2 [(0, 0)] [4] [p3_2.1, p3_2.2.1 + a1.toNat * 1] (fr' := [(4, .int .i64 x3_2)]) (bx' := []) (by kernel_rfl) ?_
   refine O.nil (by kernel_rfl) ?_
   obtain rfl := Option.some.inj H
   exact J.doneS [] [] [] [] [] () (vs := [.int .i64 x3_2]) (by kernel_rfl) (by kernel_rfl) (by kernel_rfl) (by kernel_rfl) (by kernel_rfl) (by decide)
/-! ### haywain/haywainref15.small: function 35 -/
def haywainref15_small.f (K : Nat) (a0 : List Int) (a1 : Int) (a2 : Int) : Option Int := (haywainref15_at.f K a0 a1).bind fun x1_2 => cond (decide (a1 ≥ (a0.length : Int))) (some ((-1))) (cond (decide (x1_2 < 0)) (some ((-1))) (cond (decide (x1_2 > a2)) (some ((-1))) (some (x1_2))))
set_option maxRecDepth 100000 in
set_option maxHeartbeats 1000000 in
theorem haywainref15_small.con (K : Nat) (a0 : List Int) (a1 : Int) (a2 : Int) (h0 : Hd) (r : Int) (X : Nat → Nat → Prop) (w : World) (hS : St X w [] [] [] [] [Rd (Kd.int .i64) h0.1 h0.2 a0] w) (H : haywainref15_small.f K a0 a1 a2 = some r) :
    Cn Try.prog 35 [.slice h0.1 a0.length h0.2, .int .i64 a1, .int .i64 a2] X w [] (fun i : Unit => .int .i64 r) (fun i => []) (fun i => []) (fun i => []) := by
 refine Cn.of Try.func35 (by kernel_rfl) hS ?_
 unfold haywainref15_small.f at H
 refine J.seq (by kernel_rfl) ?_
 refine J.region (by kernel_rfl) ?_
 refine O.pure 1 [] [0, 1, 2] [] (fr' := [(0, .slice h0.1 a0.length h0.2), (1, .int .i64 a1), (2, .int .i64 a2)]) (bx' := []) (by kernel_rfl) ?_
 refine O.nil (by kernel_rfl) ?_
 refine J.seq (by kernel_rfl) ?_
 obtain ⟨x1_2, hx1_2, H⟩ := bindE H
 refine J.region (by kernel_rfl) ?_
 refine O.pure 2 [] [0, 1, 2, 8, 9] [] (fr' := [(0, .slice h0.1 a0.length h0.2), (1, .int .i64 a1), (2, .int .i64 a2), (8, .slice h0.1 a0.length h0.2), (9, .int .i64 a1)]) (bx' := []) (by kernel_rfl) ?_
 refine O.e (some 10) (Ev.call0 (xs := [.tmp 8, .tmp 9]) [0] (by kernel_rfl) (by kernel_rfl) (fun w hS => haywainref15_at.con K a0 a1 h0  _ _ w hS hx1_2)) (by kernel_rfl) (fun _ => ?_)
 refine O.pure 1 [] [0, 1, 2, 7] [] (fr' := [(0, .slice h0.1 a0.length h0.2), (1, .int .i64 a1), (2, .int .i64 a2), (7, .int .i64 x1_2)]) (bx' := []) (by kernel_rfl) ?_
 refine O.nil (by kernel_rfl) ?_
 refine J.seq (by kernel_rfl) ?_
 refine J.seq (by kernel_rfl) ?_
 rcases condE H with ⟨hc1, H⟩ | ⟨hc1, H⟩
 ·refine J.region (by kernel_rfl) ?_
  refine O.pure 3 [] [2, 7, 11, 13] [] (fr' := [(2, .int .i64 a2), (7, .int .i64 x1_2), (11, .int .i64 a1), (13, .int .i64 (a0.length : Int))]) (bx' := []) (by kernel_rfl) ?_
  refine O.q (v := .bool true) (some 14) (Qu.eqv (u := .bool (decide (a1 ≥ (a0.length : Int)))) (v := .bool true) (0, 0) [] (by kernel_rfl) (congrArg Value.bool hc1)) (by kernel_rfl) ?_
  refine O.pure 9 [] [7, 23] [] (fr' := [(7, .int .i64 x1_2), (23, .bool true)]) (bx' := []) (by kernel_rfl) ?_
  refine O.nil (by kernel_rfl) ?_
  refine J.cond (o := .tmp 23) true (by kernel_rfl) (by kernel_rfl) ?_
  refine J.seq (by kernel_rfl) ?_
  refine J.region (by kernel_rfl) ?_
  refine O.pure 1 [] [6] [] (fr' := [(6, .int .i64 (-1))]) (bx' := []) (by kernel_rfl) ?_
  refine O.nil (by kernel_rfl) ?_
  obtain rfl := Option.some.inj H
  exact J.doneS [] [] [] [] [] () (vs := [.int .i64 (-1)]) (by kernel_rfl) (by kernel_rfl) (by kernel_rfl) (by kernel_rfl) (by kernel_rfl) (by decide)
 ·rcases condE H with ⟨hc2, H⟩ | ⟨hc2, H⟩
  ·refine J.region (by kernel_rfl) ?_
   refine O.pure 3 [] [2, 7, 11, 13] [] (fr' := [(2, .int .i64 a2), (7, .int .i64 x1_2), (11, .int .i64 a1), (13, .int .i64 (a0.length : Int))]) (bx' := []) (by kernel_rfl) ?_
   refine O.q (v := .bool false) (some 14) (Qu.eqv (u := .bool (decide (a1 ≥ (a0.length : Int)))) (v := .bool false) (0, 0) [] (by kernel_rfl) (congrArg Value.bool hc1)) (by kernel_rfl) ?_
   refine O.pure 2 [] [2, 7, 15, 16] [] (fr' := [(2, .int .i64 a2), (7, .int .i64 x1_2), (15, .bool false), (16, .int .i64 x1_2)]) (bx' := []) (by kernel_rfl) ?_
   refine O.q (v := .bool true) (some 17) (Qu.eqv (u := .bool (decide (x1_2 < 0))) (v := .bool true) (0, 0) [] (by kernel_rfl) (congrArg Value.bool hc2)) (by kernel_rfl) ?_
   refine O.pure 6 [] [7, 23] [] (fr' := [(7, .int .i64 x1_2), (23, .bool true)]) (bx' := []) (by kernel_rfl) ?_
   refine O.nil (by kernel_rfl) ?_
   refine J.cond (o := .tmp 23) true (by kernel_rfl) (by kernel_rfl) ?_
   refine J.seq (by kernel_rfl) ?_
   refine J.region (by kernel_rfl) ?_
   refine O.pure 1 [] [6] [] (fr' := [(6, .int .i64 (-1))]) (bx' := []) (by kernel_rfl) ?_
   refine O.nil (by kernel_rfl) ?_
   obtain rfl := Option.some.inj H
   exact J.doneS [] [] [] [] [] () (vs := [.int .i64 (-1)]) (by kernel_rfl) (by kernel_rfl) (by kernel_rfl) (by kernel_rfl) (by kernel_rfl) (by decide)
  ·refine J.region (by kernel_rfl) ?_
   refine O.pure 3 [] [2, 7, 11, 13] [] (fr' := [(2, .int .i64 a2), (7, .int .i64 x1_2), (11, .int .i64 a1), (13, .int .i64 (a0.length : Int))]) (bx' := []) (by kernel_rfl) ?_
   refine O.q (v := .bool false) (some 14) (Qu.eqv (u := .bool (decide (a1 ≥ (a0.length : Int)))) (v := .bool false) (0, 0) [] (by kernel_rfl) (congrArg Value.bool hc1)) (by kernel_rfl) ?_
   refine O.pure 2 [] [2, 7, 15, 16] [] (fr' := [(2, .int .i64 a2), (7, .int .i64 x1_2), (15, .bool false), (16, .int .i64 x1_2)]) (bx' := []) (by kernel_rfl) ?_
   refine O.q (v := .bool false) (some 17) (Qu.eqv (u := .bool (decide (x1_2 < 0))) (v := .bool false) (0, 0) [] (by kernel_rfl) (congrArg Value.bool hc2)) (by kernel_rfl) ?_
   refine O.pure 6 [] [7, 23] [] (fr' := [(7, .int .i64 x1_2), (23, .bool (decide (x1_2 > a2)))]) (bx' := []) (by kernel_rfl) ?_
   refine O.nil (by kernel_rfl) ?_
   rcases condE H with ⟨hc3, H⟩ | ⟨hc3, H⟩
   ·refine J.condT (x := .tmp 23) (t := (decide (x1_2 > a2))) (by kernel_rfl) (by kernel_rfl) hc3 ?_
    refine J.seq (by kernel_rfl) ?_
    refine J.region (by kernel_rfl) ?_
    refine O.pure 1 [] [6] [] (fr' := [(6, .int .i64 (-1))]) (bx' := []) (by kernel_rfl) ?_
    refine O.nil (by kernel_rfl) ?_
    obtain rfl := Option.some.inj H
    exact J.doneS [] [] [] [] [] () (vs := [.int .i64 (-1)]) (by kernel_rfl) (by kernel_rfl) (by kernel_rfl) (by kernel_rfl) (by kernel_rfl) (by decide)
   ·refine J.condF (x := .tmp 23) (t := (decide (x1_2 > a2))) (by kernel_rfl) (by kernel_rfl) hc3 ?_
    refine J.skip (by kernel_rfl) ?_
    refine J.seq (by kernel_rfl) ?_
    refine J.region (by kernel_rfl) ?_
    refine O.pure 2 [] [6] [] (fr' := [(6, .int .i64 x1_2)]) (bx' := []) (by kernel_rfl) ?_
    refine O.nil (by kernel_rfl) ?_
    obtain rfl := Option.some.inj H
    exact J.doneS [] [] [] [] [] () (vs := [.int .i64 x1_2]) (by kernel_rfl) (by kernel_rfl) (by kernel_rfl) (by kernel_rfl) (by kernel_rfl) (by decide)
/-! ### haywain/haywainref15.some: function 34 -/
def haywainref15_some.l1 (K : Nat) (a0 : List Int) (a1 : Int) (a2 : Int) : Nat → ((List Int) × Int) → Option ((List Int) × Bool)
  | 0, _ => none
  | k + 1, s1 => cond (decide (s1.2 < a2)) ((haywainref15_small.f K a0 (IntKind.wrap .i64 (a1 + s1.2)) 1099511627776).bind fun x5_4 => cond (decide (x5_4 < 0)) (some ((([] : List Int), false))) ((appO 8 s1.1 ([x5_4] : List Int)).bind fun y8_3 => haywainref15_some.l1 K a0 a1 a2 k ((s1.1 ++ ([x5_4] : List Int)), (IntKind.wrap .i64 (s1.2 + 1))))) (some ((s1.1, true)))
def haywainref15_some.f (K : Nat) (a0 : List Int) (a1 : Int) (a2 : Int) : Option ((List Int) × Bool) := haywainref15_some.l1 K a0 a1 a2 K (([] : List Int), 0)
set_option maxRecDepth 100000 in
set_option maxHeartbeats 1000000 in
theorem haywainref15_some.con (K : Nat) (a0 : List Int) (a1 : Int) (a2 : Int) (h0 : Hd) (r : ((List Int) × Bool)) (X : Nat → Nat → Prop) (w : World) (hS : St X w [] [] [] [] [Rd (Kd.int .i64) h0.1 h0.2 a0] w) (H : haywainref15_some.f K a0 a1 a2 = some r) :
    Cn Try.prog 34 [.slice h0.1 a0.length h0.2, .int .i64 a1, .int .i64 a2] X w [] (fun i : Hd => .tuple #[.slice i.1 r.1.length i.2, .bool r.2]) (fun i => []) (fun i => [mkRow (Kd.int .i64) 3 (.slice i.1 r.1.length i.2) r.1]) (fun i => []) := by
 refine Cn.of Try.func34 (by kernel_rfl) hS ?_
 unfold haywainref15_some.f at H
 refine J.seq (by kernel_rfl) ?_
 refine J.region (by kernel_rfl) ?_
 refine O.pure 2 [] [0, 1, 2] [] (fr' := [(0, .slice h0.1 a0.length h0.2), (1, .int .i64 a1), (2, .int .i64 a2)]) (bx' := []) (by kernel_rfl) ?_
 refine O.nil (by kernel_rfl) ?_
 refine J.seq (by kernel_rfl) ?_
 refine J.region (by kernel_rfl) ?_
 refine O.pure 1 [] [0, 1, 2, 8] [] (fr' := [(0, .slice h0.1 a0.length h0.2), (1, .int .i64 a1), (2, .int .i64 a2), (8, .slice none 0 0)]) (bx' := []) (by kernel_rfl) ?_
 refine O.nil (by kernel_rfl) ?_
 refine J.seq (by kernel_rfl) ?_
 refine J.seq (by kernel_rfl) ?_
 refine J.region (by kernel_rfl) ?_
 refine O.pure 1 [] [0, 1, 2, 8, 9] [] (fr' := [(0, .slice h0.1 a0.length h0.2), (1, .int .i64 a1), (2, .int .i64 a2), (8, .slice none 0 0), (9, .int .i64 0)]) (bx' := []) (by kernel_rfl) ?_
 refine O.nil (by kernel_rfl) ?_
 refine J.block (id := 0) (by kernel_rfl) ?_
 refine J.loopI (σ := (List Int) × Int) (γ := Hd) (f := fun m_ s_ => haywainref15_some.l1 K a0 a1 a2 m_ s_) (fun s1 g1 => [(0, .slice h0.1 a0.length h0.2), (1, .int .i64 a1), (2, .int .i64 a2), (8, .slice g1.1 s1.1.length g1.2), (9, .int .i64 s1.2)]) (fun s1 g1 => St X w [] [] [mkRow (Kd.int .i64) 3 (.slice g1.1 s1.1.length g1.2) s1.1] [] [Rd (Kd.int .i64) h0.1 h0.2 a0]) K (([] : List Int), 0) (none, 0) (by kernel_rfl) H (fun _ => rfl) (fun m_ s1 H ih1 g1 => ?_) (fun h_ => ?_)
 ·unfold haywainref15_some.l1 at H
  refine J.seq (by kernel_rfl) ?_
  refine J.seq (by kernel_rfl) ?_
  refine J.region (by kernel_rfl) ?_
  refine O.pure 3 [] [0, 1, 2, 8, 9, 13] [] (fr' := [(0, .slice h0.1 a0.length h0.2), (1, .int .i64 a1), (2, .int .i64 a2), (8, .slice g1.1 s1.1.length g1.2), (9, .int .i64 s1.2), (13, .bool (decide (s1.2 < a2)))]) (bx' := []) (by kernel_rfl) ?_
  refine O.nil (by kernel_rfl) ?_
  rcases condE H with ⟨hc6, H⟩ | ⟨hc6, H⟩
  ·refine J.condT (x := .tmp 13) (t := (decide (s1.2 < a2))) (by kernel_rfl) (by kernel_rfl) hc6 ?_
   refine J.skip (by kernel_rfl) ?_
   refine J.seq (by kernel_rfl) ?_
   refine J.block (id := 1) (by kernel_rfl) ?_
   refine J.seq (by kernel_rfl) ?_
   obtain ⟨x5_4, hx5_4, H⟩ := bindE H
   refine J.region (by kernel_rfl) ?_
   refine O.pure 4 [] [0, 1, 2, 8, 9, 16, 19] [] (fr' := [(0, .slice h0.1 a0.length h0.2), (1, .int .i64 a1), (2, .int .i64 a2), (8, .slice g1.1 s1.1.length g1.2), (9, .int .i64 s1.2), (16, .slice h0.1 a0.length h0.2), (19, .int .i64 (IntKind.wrap .i64 (a1 + s1.2)))]) (bx' := []) (by kernel_rfl) ?_
   refine O.e (some 20) (Ev.call0 (xs := [.tmp 16, .tmp 19, .const (.int .i64 1099511627776)]) [0] (by kernel_rfl) (by kernel_rfl) (fun w hS => haywainref15_small.con K a0 (IntKind.wrap .i64 (a1 + s1.2)) 1099511627776 h0  _ _ w hS hx5_4)) (by kernel_rfl) (fun _ => ?_)
   refine O.pure 1 [] [0, 1, 2, 8, 9, 10] [] (fr' := [(0, .slice h0.1 a0.length h0.2), (1, .int .i64 a1), (2, .int .i64 a2), (8, .slice g1.1 s1.1.length g1.2), (9, .int .i64 s1.2), (10, .int .i64 x5_4)]) (bx' := []) (by kernel_rfl) ?_
   refine O.nil (by kernel_rfl) ?_
   refine J.seq (by kernel_rfl) ?_
   refine J.seq (by kernel_rfl) ?_
   refine J.region (by kernel_rfl) ?_
   refine O.pure 2 [] [0, 1, 2, 8, 9, 10, 22] [] (fr' := [(0, .slice h0.1 a0.length h0.2), (1, .int .i64 a1), (2, .int .i64 a2), (8, .slice g1.1 s1.1.length g1.2), (9, .int .i64 s1.2), (10, .int .i64 x5_4), (22, .bool (decide (x5_4 < 0)))]) (bx' := []) (by kernel_rfl) ?_
   refine O.nil (by kernel_rfl) ?_
   rcases condE H with ⟨hc7, H⟩ | ⟨hc7, H⟩
   ·refine J.condT (x := .tmp 22) (t := (decide (x5_4 < 0))) (by kernel_rfl) (by kernel_rfl) hc7 ?_
    refine J.seq (by kernel_rfl) ?_
    refine J.region (by kernel_rfl) ?_
    refine O.pure 2 [] [6, 7] [] (fr' := [(6, .slice none 0 0), (7, .bool false)]) (bx' := []) (by kernel_rfl) ?_
    refine O.nil (by kernel_rfl) ?_
    obtain rfl := Option.some.inj H
    refine J.nilrow (Kd.int .i64) 3 ?_
    exact J.doneS [] [] [] [] [0] (none, 0) (vs := [.slice none 0 0, .bool false]) (by kernel_rfl) (by kernel_rfl) (by kernel_rfl) (by kernel_rfl) (by kernel_rfl) (by decide)
   ·refine J.condF (x := .tmp 22) (t := (decide (x5_4 < 0))) (by kernel_rfl) (by kernel_rfl) hc7 ?_
    refine J.skip (by kernel_rfl) ?_
    obtain ⟨y8_3, hy8_3, H⟩ := bindE H
    have hy8_3a := (appE hy8_3).1
    refine J.region (by kernel_rfl) ?_
    refine O.pure 2 [] [0, 1, 2, 8, 9, 23, 24] [] (fr' := [(0, .slice h0.1 a0.length h0.2), (1, .int .i64 a1), (2, .int .i64 a2), (8, .slice g1.1 s1.1.length g1.2), (9, .int .i64 s1.2), (23, .slice g1.1 s1.1.length g1.2), (24, .int .i64 x5_4)]) (bx' := []) (by kernel_rfl) ?_
    refine O.e (some 25) (Ev.lit (t := 22) (len := 1) (parts := #[(0, .tmp 24)]) (ps := [(0, .int .i64 x5_4)]) (cs := [.int .i64 x5_4]) (e := 3) (Kd.int .i64) ([x5_4] : List Int) (by kernel_rfl) (by kernel_rfl) (by kernel_rfl) (by kernel_rfl) (by kernel_rfl) (by decide) (fun w' hφ => (Els.cons (c := [.int .i64 x5_4]) (rfl) (Els.nil _ _ _)))) (by kernel_rfl) (fun p8_2 => ?_)
    refine O.e (some 26) (Ev.appLit (x := .tmp 23) (y := .tmp 25) (t := 22) (bytes := 8) (by kernel_rfl) (by kernel_rfl) (by kernel_rfl) (by kernel_rfl) (by kernel_rfl) (by decide) hy8_3a) (by kernel_rfl) (fun p8_3 => ?_)
    refine O.pure 1 [] [0, 1, 2, 8, 9] [] (fr' := [(0, .slice h0.1 a0.length h0.2), (1, .int .i64 a1), (2, .int .i64 a2), (8, .slice p8_3.1 (s1.1 ++ ([x5_4] : List Int)).length p8_3.2), (9, .int .i64 s1.2)]) (bx' := []) (by kernel_rfl) ?_
    refine O.nil (by kernel_rfl) ?_
    refine J.out ?_
    refine J.region (by kernel_rfl) ?_
    refine O.pure 3 [] [0, 1, 2, 8, 9] [] (fr' := [(0, .slice h0.1 a0.length h0.2), (1, .int .i64 a1), (2, .int .i64 a2), (8, .slice p8_3.1 (s1.1 ++ ([x5_4] : List Int)).length p8_3.2), (9, .int .i64 (IntKind.wrap .i64 (s1.2 + 1)))]) (bx' := []) (by kernel_rfl) ?_
    refine O.nil (by kernel_rfl) ?_
    exact J.conv2 [0, 1, 2, 8, 9] [0] [] [0] (by kernel_rfl) (by kernel_rfl) (by kernel_rfl) (by kernel_rfl) (by decide) (ih1 ((s1.1 ++ ([x5_4] : List Int)), (IntKind.wrap .i64 (s1.2 + 1))) p8_3 H)
  ·refine J.condF (x := .tmp 13) (t := (decide (s1.2 < a2))) (by kernel_rfl) (by kernel_rfl) hc6 ?_
   refine J.exit (id := 0) (by kernel_rfl) rfl ?_
   refine J.seq (by kernel_rfl) ?_
   refine J.region (by kernel_rfl) ?_
   refine O.pure 3 [] [6, 7] [] (fr' := [(6, .slice g1.1 s1.1.length g1.2), (7, .bool true)]) (bx' := []) (by kernel_rfl) ?_
   refine O.nil (by kernel_rfl) ?_
   obtain rfl := Option.some.inj H
   exact J.doneS [] [] [] [] [0] g1 (vs := [.slice g1.1 s1.1.length g1.2, .bool true]) (by kernel_rfl) (by kernel_rfl) (by kernel_rfl) (by kernel_rfl) (by kernel_rfl) (by decide)
 ·refine J.nilrow (Kd.int .i64) 3 ?_
  exact J.conv2 [0, 1, 2, 8, 9] [0] [] [0] (by kernel_rfl) (by kernel_rfl) (by kernel_rfl) (by kernel_rfl) (by decide) h_
/-! ### haywain/haywainref15.taken: function 47 -/
def haywainref15_taken.l3 (K : Nat) (a0 : List Int) (a1 : Int) (x1_2 : Int) : Nat → ((List S77) × Int) → Option ((List S77) × Int × Bool)
  | 0, _ => none
  | k + 1, s3 => cond (decide (s3.2 < x1_2)) ((haywainref15_small.f K a0 (IntKind.wrap .i64 ((IntKind.wrap .i64 (a1 + 1)) + (IntKind.wrap .i64 (2 * s3.2)))) 1099511627776).bind fun x8_6 => cond (decide (x8_6 < 0)) (some ((([] : List S77), 0, false))) ((idxO a0 (IntKind.wrap .i64 ((IntKind.wrap .i64 (a1 + 2)) + (IntKind.wrap .i64 (2 * s3.2))))).bind fun x11_8 => (appO 16 s3.1 ([(⟨x8_6, x11_8⟩ : S77)] : List S77)).bind fun y11_12 => haywainref15_taken.l3 K a0 a1 x1_2 k ((s3.1 ++ ([(⟨x8_6, x11_8⟩ : S77)] : List S77)), (IntKind.wrap .i64 (s3.2 + 1))))) (some ((s3.1, (IntKind.wrap .i64 ((IntKind.wrap .i64 (a1 + 1)) + (IntKind.wrap .i64 (2 * x1_2)))), true)))
def haywainref15_taken.f (K : Nat) (a0 : List Int) (a1 : Int) : Option ((List S77) × Int × Bool) := (haywainref15_small.f K a0 a1 24).bind fun x1_2 => cond (decide (x1_2 < 0)) (some ((([] : List S77), 0, false))) (cond (decide ((IntKind.wrap .i64 ((IntKind.wrap .i64 (a1 + 1)) + (IntKind.wrap .i64 (2 * x1_2)))) > (a0.length : Int))) (some ((([] : List S77), 0, false))) (haywainref15_taken.l3 K a0 a1 x1_2 K (([] : List S77), 0)))
set_option maxRecDepth 100000 in
set_option maxHeartbeats 1000000 in
theorem haywainref15_taken.con (K : Nat) (a0 : List Int) (a1 : Int) (h0 : Hd) (r : ((List S77) × Int × Bool)) (X : Nat → Nat → Prop) (w : World) (hS : St X w [] [] [] [] [Rd (Kd.int .i64) h0.1 h0.2 a0] w) (H : haywainref15_taken.f K a0 a1 = some r) :
    Cn Try.prog 47 [.slice h0.1 a0.length h0.2, .int .i64 a1] X w [] (fun i : Hd => .tuple #[.slice i.1 r.1.length i.2, .int .i64 r.2.1, .bool r.2.2]) (fun i => []) (fun i => [mkRow kd77 77 (.slice i.1 r.1.length i.2) r.1]) (fun i => []) := by
 refine Cn.of Try.func47 (by kernel_rfl) hS ?_
 unfold haywainref15_taken.f at H
 refine J.seq (by kernel_rfl) ?_
 refine J.region (by kernel_rfl) ?_
 refine O.pure 3 [] [0, 1] [] (fr' := [(0, .slice h0.1 a0.length h0.2), (1, .int .i64 a1)]) (bx' := []) (by kernel_rfl) ?_
 refine O.nil (by kernel_rfl) ?_
 refine J.seq (by kernel_rfl) ?_
 obtain ⟨x1_2, hx1_2, H⟩ := bindE H
 refine J.region (by kernel_rfl) ?_
 refine O.pure 2 [] [0, 1, 11, 12] [] (fr' := [(0, .slice h0.1 a0.length h0.2), (1, .int .i64 a1), (11, .slice h0.1 a0.length h0.2), (12, .int .i64 a1)]) (bx' := []) (by kernel_rfl) ?_
 refine O.e (some 13) (Ev.call0 (xs := [.tmp 11, .tmp 12, .const (.int .i64 24)]) [0] (by kernel_rfl) (by kernel_rfl) (fun w hS => haywainref15_small.con K a0 a1 24 h0  _ _ w hS hx1_2)) (by kernel_rfl) (fun _ => ?_)
 refine O.pure 1 [] [0, 1, 7] [] (fr' := [(0, .slice h0.1 a0.length h0.2), (1, .int .i64 a1), (7, .int .i64 x1_2)]) (bx' := []) (by kernel_rfl) ?_
 refine O.nil (by kernel_rfl) ?_
 refine J.seq (by kernel_rfl) ?_
 refine J.seq (by kernel_rfl) ?_
 rcases condE H with ⟨hc1, H⟩ | ⟨hc1, H⟩
 ·refine J.region (by kernel_rfl) ?_
  refine O.pure 1 [] [0, 1, 7, 14] [] (fr' := [(0, .slice h0.1 a0.length h0.2), (1, .int .i64 a1), (7, .int .i64 x1_2), (14, .int .i64 x1_2)]) (bx' := []) (by kernel_rfl) ?_
  refine O.q (v := .bool true) (some 15) (Qu.eqv (u := .bool (decide (x1_2 < 0))) (v := .bool true) (0, 0) [] (by kernel_rfl) (congrArg Value.bool hc1)) (by kernel_rfl) ?_
  refine O.pure 10 [] [0, 1, 7, 25] [] (fr' := [(0, .slice h0.1 a0.length h0.2), (1, .int .i64 a1), (7, .int .i64 x1_2), (25, .bool true)]) (bx' := []) (by kernel_rfl) ?_
  refine O.nil (by kernel_rfl) ?_
  refine J.cond (o := .tmp 25) true (by kernel_rfl) (by kernel_rfl) ?_
  refine J.seq (by kernel_rfl) ?_
  refine J.region (by kernel_rfl) ?_
  refine O.pure 3 [] [4, 5, 6] [] (fr' := [(4, .slice none 0 0), (5, .int .i64 0), (6, .bool false)]) (bx' := []) (by kernel_rfl) ?_
  refine O.nil (by kernel_rfl) ?_
  obtain rfl := Option.some.inj H
  refine J.nilrow kd77 77 ?_
  exact J.doneS [] [] [] [] [0] (none, 0) (vs := [.slice none 0 0, .int .i64 0, .bool false]) (by kernel_rfl) (by kernel_rfl) (by kernel_rfl) (by kernel_rfl) (by kernel_rfl) (by decide)
 ·refine J.region (by kernel_rfl) ?_
  refine O.pure 1 [] [0, 1, 7, 14] [] (fr' := [(0, .slice h0.1 a0.length h0.2), (1, .int .i64 a1), (7, .int .i64 x1_2), (14, .int .i64 x1_2)]) (bx' := []) (by kernel_rfl) ?_
  refine O.q (v := .bool false) (some 15) (Qu.eqv (u := .bool (decide (x1_2 < 0))) (v := .bool false) (0, 0) [] (by kernel_rfl) (congrArg Value.bool hc1)) (by kernel_rfl) ?_
  refine O.pure 10 [] [0, 1, 7, 25] [] (fr' := [(0, .slice h0.1 a0.length h0.2), (1, .int .i64 a1), (7, .int .i64 x1_2), (25, .bool (decide ((IntKind.wrap .i64 ((IntKind.wrap .i64 (a1 + 1)) + (IntKind.wrap .i64 (2 * x1_2)))) > (a0.length : Int))))]) (bx' := []) (by kernel_rfl) ?_
  refine O.nil (by kernel_rfl) ?_
  rcases condE H with ⟨hc2, H⟩ | ⟨hc2, H⟩
  ·refine J.condT (x := .tmp 25) (t := (decide ((IntKind.wrap .i64 ((IntKind.wrap .i64 (a1 + 1)) + (IntKind.wrap .i64 (2 * x1_2)))) > (a0.length : Int)))) (by kernel_rfl) (by kernel_rfl) hc2 ?_
   refine J.seq (by kernel_rfl) ?_
   refine J.region (by kernel_rfl) ?_
   refine O.pure 3 [] [4, 5, 6] [] (fr' := [(4, .slice none 0 0), (5, .int .i64 0), (6, .bool false)]) (bx' := []) (by kernel_rfl) ?_
   refine O.nil (by kernel_rfl) ?_
   obtain rfl := Option.some.inj H
   refine J.nilrow kd77 77 ?_
   exact J.doneS [] [] [] [] [0] (none, 0) (vs := [.slice none 0 0, .int .i64 0, .bool false]) (by kernel_rfl) (by kernel_rfl) (by kernel_rfl) (by kernel_rfl) (by kernel_rfl) (by decide)
  ·refine J.condF (x := .tmp 25) (t := (decide ((IntKind.wrap .i64 ((IntKind.wrap .i64 (a1 + 1)) + (IntKind.wrap .i64 (2 * x1_2)))) > (a0.length : Int)))) (by kernel_rfl) (by kernel_rfl) hc2 ?_
   refine J.skip (by kernel_rfl) ?_
   refine J.seq (by kernel_rfl) ?_
   refine J.region (by kernel_rfl) ?_
   refine O.pure 1 [] [0, 1, 7, 8] [] (fr' := [(0, .slice h0.1 a0.length h0.2), (1, .int .i64 a1), (7, .int .i64 x1_2), (8, .slice none 0 0)]) (bx' := []) (by kernel_rfl) ?_
   refine O.nil (by kernel_rfl) ?_
   refine J.seq (by kernel_rfl) ?_
   refine J.seq (by kernel_rfl) ?_
   refine J.region (by kernel_rfl) ?_
   refine O.pure 1 [] [0, 1, 7, 8, 9] [] (fr' := [(0, .slice h0.1 a0.length h0.2), (1, .int .i64 a1), (7, .int .i64 x1_2), (8, .slice none 0 0), (9, .int .i64 0)]) (bx' := []) (by kernel_rfl) ?_
   refine O.nil (by kernel_rfl) ?_
   refine J.block (id := 0) (by kernel_rfl) ?_
   refine J.loopI (σ := (List S77) × Int) (γ := Hd) (f := fun m_ s_ => haywainref15_taken.l3 K a0 a1 x1_2 m_ s_) (fun s3 g3 => [(0, .slice h0.1 a0.length h0.2), (1, .int .i64 a1), (7, .int .i64 x1_2), (8, .slice g3.1 s3.1.length g3.2), (9, .int .i64 s3.2)]) (fun s3 g3 => St X w [] [] [mkRow kd77 77 (.slice g3.1 s3.1.length g3.2) s3.1] [] [Rd (Kd.int .i64) h0.1 h0.2 a0]) K (([] : List S77), 0) (none, 0) (by kernel_rfl) H (fun _ => rfl) (fun m_ s3 H ih3 g3 => ?_) (fun h_ => ?_)
   ·unfold haywainref15_taken.l3 at H
    refine J.seq (by kernel_rfl) ?_
    refine J.seq (by kernel_rfl) ?_
    refine J.region (by kernel_rfl) ?_
    refine O.pure 3 [] [0, 1, 7, 8, 9, 28] [] (fr' := [(0, .slice h0.1 a0.length h0.2), (1, .int .i64 a1), (7, .int .i64 x1_2), (8, .slice g3.1 s3.1.length g3.2), (9, .int .i64 s3.2), (28, .bool (decide (s3.2 < x1_2)))]) (bx' := []) (by kernel_rfl) ?_
    refine O.nil (by kernel_rfl) ?_
    rcases condE H with ⟨hc8, H⟩ | ⟨hc8, H⟩
    ·refine J.condT (x := .tmp 28) (t := (decide (s3.2 < x1_2))) (by kernel_rfl) (by kernel_rfl) hc8 ?_
     refine J.skip (by kernel_rfl) ?_
     refine J.seq (by kernel_rfl) ?_
     refine J.block (id := 1) (by kernel_rfl) ?_
     refine J.seq (by kernel_rfl) ?_
     obtain ⟨x8_6, hx8_6, H⟩ := bindE H
     refine J.region (by kernel_rfl) ?_
     refine O.pure 6 [] [0, 1, 7, 8, 9, 31, 36] [] (fr' := [(0, .slice h0.1 a0.length h0.2), (1, .int .i64 a1), (7, .int .i64 x1_2), (8, .slice g3.1 s3.1.length g3.2), (9, .int .i64 s3.2), (31, .slice h0.1 a0.length h0.2), (36, .int .i64 (IntKind.wrap .i64 ((IntKind.wrap .i64 (a1 + 1)) + (IntKind.wrap .i64 (2 * s3.2)))))]) (bx' := []) (by kernel_rfl) ?_
     refine O.e (some 37) (Ev.call0 (xs := [.tmp 31, .tmp 36, .const (.int .i64 1099511627776)]) [0] (by kernel_rfl) (by kernel_rfl) (fun w hS => haywainref15_small.con K a0 (IntKind.wrap .i64 ((IntKind.wrap .i64 (a1 + 1)) + (IntKind.wrap .i64 (2 * s3.2)))) 1099511627776 h0  _ _ w hS hx8_6)) (by kernel_rfl) (fun _ => ?_)
     refine O.pure 1 [] [0, 1, 7, 8, 9, 10] [] (fr' := [(0, .slice h0.1 a0.length h0.2), (1, .int .i64 a1), (7, .int .i64 x1_2), (8, .slice g3.1 s3.1.length g3.2), (9, .int .i64 s3.2), (10, .int .i64 x8_6)]) (bx' := []) (by kernel_rfl) ?_
     refine O.nil (by kernel_rfl) ?_
     refine J.seq (by kernel_rfl) ?_
     refine J.seq (by kernel_rfl) ?_
     refine J.region (by kernel_rfl) ?_
     refine O.pure 2 [] [0, 1, 7, 8, 9, 10, 39] [] (fr' := [(0, .slice h0.1 a0.length h0.2), (1, .int .i64 a1), (7, .int .i64 x1_2), (8, .slice g3.1 s3.1.length g3.2), (9, .int .i64 s3.2), (10, .int .i64 x8_6), (39, .bool (decide (x8_6 < 0)))]) (bx' := []) (by kernel_rfl) ?_
     refine O.nil (by kernel_rfl) ?_
     rcases condE H with ⟨hc9, H⟩ | ⟨hc9, H⟩
     ·refine J.condT (x := .tmp 39) (t := (decide (x8_6 < 0))) (by kernel_rfl) (by kernel_rfl) hc9 ?_
      refine J.seq (by kernel_rfl) ?_
      refine J.region (by kernel_rfl) ?_
      refine O.pure 3 [] [4, 5, 6] [] (fr' := [(4, .slice none 0 0), (5, .int .i64 0), (6, .bool false)]) (bx' := []) (by kernel_rfl) ?_
      refine O.nil (by kernel_rfl) ?_
      obtain rfl := Option.some.inj H
      refine J.nilrow kd77 77 ?_
      exact J.doneS [] [] [] [] [0] (none, 0) (vs := [.slice none 0 0, .int .i64 0, .bool false]) (by kernel_rfl) (by kernel_rfl) (by kernel_rfl) (by kernel_rfl) (by kernel_rfl) (by decide)
     ·refine J.condF (x := .tmp 39) (t := (decide (x8_6 < 0))) (by kernel_rfl) (by kernel_rfl) hc9 ?_
      refine J.skip (by kernel_rfl) ?_
      obtain ⟨x11_8, hx11_8, H⟩ := bindE H
      obtain ⟨hx11_8a, hx11_8⟩ := idxE hx11_8
      obtain ⟨y11_12, hy11_12, H⟩ := bindE H
      have hy11_12a := (appE hy11_12).1
      refine J.region (by kernel_rfl) ?_
      refine O.pure 8 [] [0, 1, 7, 8, 9, 40, 41, 42, 47] [] (fr' := [(0, .slice h0.1 a0.length h0.2), (1, .int .i64 a1), (7, .int .i64 x1_2), (8, .slice g3.1 s3.1.length g3.2), (9, .int .i64 s3.2), (40, .slice g3.1 s3.1.length g3.2), (41, .int .i64 x8_6), (42, .slice h0.1 a0.length h0.2), (47, .int .i64 (IntKind.wrap .i64 ((IntKind.wrap .i64 (a1 + 2)) + (IntKind.wrap .i64 (2 * s3.2)))))]) (bx' := []) (by kernel_rfl) ?_
      refine O.open (d := (Kd.int .i64)) (h := h0) (i := (IntKind.wrap .i64 ((IntKind.wrap .i64 (a1 + 2)) + (IntKind.wrap .i64 (2 * s3.2))))) 0 rfl hx11_8 (Lay.int _ _) (fun p11_8 hp11_8A => ?_)
      refine O.q (v := .pointer (some ⟨p11_8.1, p11_8.2.1 + (IntKind.wrap .i64 ((IntKind.wrap .i64 (a1 + 2)) + (IntKind.wrap .i64 (2 * s3.2)))).toNat * 1, none⟩)) (some 48) (Qu.idx (t := 23) (x := .tmp 42) (y := .tmp 47) (c := h0.2) (kk := .i64) (sz := 1) (by kernel_rfl) (by kernel_rfl) (by kernel_rfl) (by kernel_rfl) hx11_8a (idx_lt hx11_8) hp11_8A) (by kernel_rfl) ?_
      refine O.pure 2 [(0, 0)] [0, 1, 7, 8, 9, 40, 50] [p11_8.1, p11_8.2.1 + (IntKind.wrap .i64 ((IntKind.wrap .i64 (a1 + 2)) + (IntKind.wrap .i64 (2 * s3.2)))).toNat * 1] (fr' := [(0, .slice h0.1 a0.length h0.2), (1, .int .i64 a1), (7, .int .i64 x1_2), (8, .slice g3.1 s3.1.length g3.2), (9, .int .i64 s3.2), (40, .slice g3.1 s3.1.length g3.2), (50, .agg #[.int .i64 x8_6, .int .i64 x11_8])]) (bx' := []) (by kernel_rfl) ?_
      refine O.e (some 51) (Ev.lit (t := 25) (len := 1) (parts := #[(0, .tmp 50)]) (ps := [(0, .agg #[.int .i64 x8_6, .int .i64 x11_8])]) (cs := [.int .i64 x8_6, .int .i64 x11_8]) (e := 77) kd77 ([(⟨x8_6, x11_8⟩ : S77)] : List S77) (by kernel_rfl) (by kernel_rfl) (by kernel_rfl) (by kernel_rfl) (by kernel_rfl) (by decide) (fun w' hφ => (Els.cons (c := [.int .i64 x8_6, .int .i64 x11_8]) (rfl) (Els.nil _ _ _)))) (by kernel_rfl) (fun p11_11 => ?_)
      refine O.e (some 52) (Ev.appLit (x := .tmp 40) (y := .tmp 51) (t := 25) (bytes := 16) (by kernel_rfl) (by kernel_rfl) (by kernel_rfl) (by kernel_rfl) (by kernel_rfl) (by decide) hy11_12a) (by kernel_rfl) (fun p11_12 => ?_)
      refine O.pure 1 [] [0, 1, 7, 8, 9] [] (fr' := [(0, .slice h0.1 a0.length h0.2), (1, .int .i64 a1), (7, .int .i64 x1_2), (8, .slice p11_12.1 (s3.1 ++ ([(⟨x8_6, x11_8⟩ : S77)] : List S77)).length p11_12.2), (9, .int .i64 s3.2)]) (bx' := []) (by kernel_rfl) ?_
      refine O.nil (by kernel_rfl) ?_
      refine J.out ?_
      refine J.region (by kernel_rfl) ?_
      refine O.pure 3 [] [0, 1, 7, 8, 9] [] (fr' := [(0, .slice h0.1 a0.length h0.2), (1, .int .i64 a1), (7, .int .i64 x1_2), (8, .slice p11_12.1 (s3.1 ++ ([(⟨x8_6, x11_8⟩ : S77)] : List S77)).length p11_12.2), (9, .int .i64 (IntKind.wrap .i64 (s3.2 + 1)))]) (bx' := []) (by kernel_rfl) ?_
      refine O.nil (by kernel_rfl) ?_
      exact J.conv2 [0, 1, 7, 8, 9] [0] [] [0] (by kernel_rfl) (by kernel_rfl) (by kernel_rfl) (by kernel_rfl) (by decide) (ih3 ((s3.1 ++ ([(⟨x8_6, x11_8⟩ : S77)] : List S77)), (IntKind.wrap .i64 (s3.2 + 1))) p11_12 H)
    ·refine J.condF (x := .tmp 28) (t := (decide (s3.2 < x1_2))) (by kernel_rfl) (by kernel_rfl) hc8 ?_
     refine J.exit (id := 0) (by kernel_rfl) rfl ?_
     refine J.seq (by kernel_rfl) ?_
     refine J.region (by kernel_rfl) ?_
     refine O.pure 9 [] [4, 5, 6] [] (fr' := [(4, .slice g3.1 s3.1.length g3.2), (5, .int .i64 (IntKind.wrap .i64 ((IntKind.wrap .i64 (a1 + 1)) + (IntKind.wrap .i64 (2 * x1_2))))), (6, .bool true)]) (bx' := []) (by kernel_rfl) ?_
     refine O.nil (by kernel_rfl) ?_
     obtain rfl := Option.some.inj H
     exact J.doneS [] [] [] [] [0] g3 (vs := [.slice g3.1 s3.1.length g3.2, .int .i64 (IntKind.wrap .i64 ((IntKind.wrap .i64 (a1 + 1)) + (IntKind.wrap .i64 (2 * x1_2)))), .bool true]) (by kernel_rfl) (by kernel_rfl) (by kernel_rfl) (by kernel_rfl) (by kernel_rfl) (by decide)
   ·refine J.nilrow kd77 77 ?_
    exact J.conv2 [0, 1, 7, 8, 9] [0] [] [0] (by kernel_rfl) (by kernel_rfl) (by kernel_rfl) (by kernel_rfl) (by decide) h_
/-! ### haywain/haywainref15.body: function 36 -/
def haywainref15_body.l19 (K : Nat) (a0 : List Int) (a1 : Int) (x1_10 : Int) : Nat → (Int × (List Int) × (List Bool)) → Option (((List Int) × (List Bool)) ⊕ (S34 × Bool))
  | 0, _ => none
  | k + 1, s19 => cond (decide (s19.1 < x1_10)) ((idxO a0 (IntKind.wrap .i64 ((IntKind.wrap .i64 (a1 + 3)) + s19.1))).bind fun x8_8 => (appO 8 s19.2.1 ([x8_8] : List Int)).bind fun y8_11 => (idxO a0 (IntKind.wrap .i64 ((IntKind.wrap .i64 ((IntKind.wrap .i64 (a1 + 3)) + x1_10)) + s19.1))).bind fun x9_7 => cond (x9_7 != 0) (cond (x9_7 != 1) (some (.inr (((⟨0, 0, 0, 0, 0, 0, 0, 0, ([] : List Int), ([] : List Int), ([] : List Int), (⟨0, 0, ([] : List Int), ([] : List Bool), ([] : List S77)⟩ : S27), ([] : List S77)⟩ : S34), false)))) ((appO 1 s19.2.2 ([(x9_7 == 1)] : List Bool)).bind fun y12_6 => haywainref15_body.l19 K a0 a1 x1_10 k ((IntKind.wrap .i64 (s19.1 + 1)), (s19.2.1 ++ ([x8_8] : List Int)), (s19.2.2 ++ ([(x9_7 == 1)] : List Bool))))) ((appO 1 s19.2.2 ([(x9_7 == 1)] : List Bool)).bind fun y12_6 => haywainref15_body.l19 K a0 a1 x1_10 k ((IntKind.wrap .i64 (s19.1 + 1)), (s19.2.1 ++ ([x8_8] : List Int)), (s19.2.2 ++ ([(x9_7 == 1)] : List Bool))))) (some (.inl (s19.2.1, s19.2.2)))
def haywainref15_body.f (K : Nat) (a0 : List Int) (a1 : Int) (a2 : S34) : Option (S34 × Bool) := (haywainref15_small.f K a0 a1 1099511627776).bind fun x1_2 => (haywainref15_small.f K a0 (IntKind.wrap .i64 (a1 + 1)) 1099511627776).bind fun x1_6 => (haywainref15_small.f K a0 (IntKind.wrap .i64 (a1 + 2)) 24).bind fun x1_10 => cond (decide (x1_2 < 0)) (some (((⟨0, 0, 0, 0, 0, 0, 0, 0, ([] : List Int), ([] : List Int), ([] : List Int), (⟨0, 0, ([] : List Int), ([] : List Bool), ([] : List S77)⟩ : S27), ([] : List S77)⟩ : S34), false))) (cond (decide (x1_6 < 0)) (some (((⟨0, 0, 0, 0, 0, 0, 0, 0, ([] : List Int), ([] : List Int), ([] : List Int), (⟨0, 0, ([] : List Int), ([] : List Bool), ([] : List S77)⟩ : S27), ([] : List S77)⟩ : S34), false))) (cond (decide (x1_10 < 0)) (some (((⟨0, 0, 0, 0, 0, 0, 0, 0, ([] : List Int), ([] : List Int), ([] : List Int), (⟨0, 0, ([] : List Int), ([] : List Bool), ([] : List S77)⟩ : S27), ([] : List S77)⟩ : S34), false))) (cond (decide ((IntKind.wrap .i64 ((IntKind.wrap .i64 (a1 + 3)) + (IntKind.wrap .i64 (2 * x1_10)))) > (a0.length : Int))) (some (((⟨0, 0, 0, 0, 0, 0, 0, 0, ([] : List Int), ([] : List Int), ([] : List Int), (⟨0, 0, ([] : List Int), ([] : List Bool), ([] : List S77)⟩ : S27), ([] : List S77)⟩ : S34), false))) ((haywainref15_body.l19 K a0 a1 x1_10 K (0, a2.f11.f2, a2.f11.f3) : Option (((List Int) × (List Bool)) ⊕ (S34 × Bool))).bind (Sum.elim (fun o5 : (List Int) × (List Bool) => (haywainref15_taken.f K a0 (IntKind.wrap .i64 ((IntKind.wrap .i64 (a1 + 3)) + (IntKind.wrap .i64 (2 * x1_10))))).bind fun x13_6 => cond (!x13_6.2.2) (some (((⟨0, 0, 0, 0, 0, 0, 0, 0, ([] : List Int), ([] : List Int), ([] : List Int), (⟨0, 0, ([] : List Int), ([] : List Bool), ([] : List S77)⟩ : S27), ([] : List S77)⟩ : S34), false))) ((haywainref15_taken.f K a0 x13_6.2.1).bind fun x16_2 => cond (!x16_2.2.2) (some (((⟨0, 0, 0, 0, 0, 0, 0, 0, ([] : List Int), ([] : List Int), ([] : List Int), (⟨0, 0, ([] : List Int), ([] : List Bool), ([] : List S77)⟩ : S27), ([] : List S77)⟩ : S34), false))) (cond (x16_2.2.1 != (a0.length : Int)) (some (((⟨0, 0, 0, 0, 0, 0, 0, 0, ([] : List Int), ([] : List Int), ([] : List Int), (⟨0, 0, ([] : List Int), ([] : List Bool), ([] : List S77)⟩ : S27), ([] : List S77)⟩ : S34), false))) (some (((⟨a2.f0, a2.f1, a2.f2, a2.f3, a2.f4, a2.f5, a2.f6, a2.f7, a2.f8, a2.f9, a2.f10, (⟨x1_2, x1_6, o5.1, o5.2, x13_6.1⟩ : S27), x16_2.1⟩ : S34), true)))))) some)))))
set_option maxRecDepth 100000 in
set_option maxHeartbeats 1000000 in
theorem haywainref15_body.con (K : Nat) (a0 : List Int) (a1 : Int) (a2 : S34) (h0 : Hd) (h1 : Hd) (h2 : Hd) (h3 : Hd) (h4 : Hd) (h5 : Hd) (h6 : Hd) (h7 : Hd) (r : (S34 × Bool)) (X : Nat → Nat → Prop) (w : World) (hS : St X w (keys [] [mkRow (Kd.int .i64) 2 (.slice h4.1 a2.f11.f2.length h4.2) a2.f11.f2, mkRow Kd.bool 4 (.slice h5.1 a2.f11.f3.length h5.2) a2.f11.f3]) [] [mkRow (Kd.int .i64) 2 (.slice h4.1 a2.f11.f2.length h4.2) a2.f11.f2, mkRow Kd.bool 4 (.slice h5.1 a2.f11.f3.length h5.2) a2.f11.f3] [] [Rd (Kd.int .i64) h0.1 h0.2 a0, Rd (Kd.int .i64) h1.1 h1.2 a2.f8, Rd (Kd.int .i64) h2.1 h2.2 a2.f9, Rd (Kd.int .i64) h3.1 h3.2 a2.f10, Rd kd77 h6.1 h6.2 a2.f11.f4, Rd kd77 h7.1 h7.2 a2.f12] w) (H : haywainref15_body.f K a0 a1 a2 = some r) :
    Cn Try.prog 36 [.slice h0.1 a0.length h0.2, .int .i64 a1, .agg #[.int .i64 a2.f0, .int .i64 a2.f1, .int .i64 a2.f2, .int .i64 a2.f3, .int .i64 a2.f4, .int .i64 a2.f5, .int .i64 a2.f6, .int .i64 a2.f7, .slice h1.1 a2.f8.length h1.2, .slice h2.1 a2.f9.length h2.2, .slice h3.1 a2.f10.length h3.2, .int .i64 a2.f11.f0, .int .i64 a2.f11.f1, .slice h4.1 a2.f11.f2.length h4.2, .slice h5.1 a2.f11.f3.length h5.2, .slice h6.1 a2.f11.f4.length h6.2, .slice h7.1 a2.f12.length h7.2]] X w (keys [] [mkRow (Kd.int .i64) 2 (.slice h4.1 a2.f11.f2.length h4.2) a2.f11.f2, mkRow Kd.bool 4 (.slice h5.1 a2.f11.f3.length h5.2) a2.f11.f3]) (fun i : Hd × Hd × Hd × Hd × Hd × Hd × Hd => .tuple #[.agg #[.int .i64 r.1.f0, .int .i64 r.1.f1, .int .i64 r.1.f2, .int .i64 r.1.f3, .int .i64 r.1.f4, .int .i64 r.1.f5, .int .i64 r.1.f6, .int .i64 r.1.f7, .slice i.1.1 r.1.f8.length i.1.2, .slice i.2.1.1 r.1.f9.length i.2.1.2, .slice i.2.2.1.1 r.1.f10.length i.2.2.1.2, .int .i64 r.1.f11.f0, .int .i64 r.1.f11.f1, .slice i.2.2.2.1.1 r.1.f11.f2.length i.2.2.2.1.2, .slice i.2.2.2.2.1.1 r.1.f11.f3.length i.2.2.2.2.1.2, .slice i.2.2.2.2.2.1.1 r.1.f11.f4.length i.2.2.2.2.2.1.2, .slice i.2.2.2.2.2.2.1 r.1.f12.length i.2.2.2.2.2.2.2], .bool r.2]) (fun i => []) (fun i => [mkRow (Kd.int .i64) 2 (.slice i.2.2.2.1.1 r.1.f11.f2.length i.2.2.2.1.2) r.1.f11.f2, mkRow Kd.bool 4 (.slice i.2.2.2.2.1.1 r.1.f11.f3.length i.2.2.2.2.1.2) r.1.f11.f3, mkRow kd77 77 (.slice i.2.2.2.2.2.1.1 r.1.f11.f4.length i.2.2.2.2.2.1.2) r.1.f11.f4, mkRow kd77 77 (.slice i.2.2.2.2.2.2.1 r.1.f12.length i.2.2.2.2.2.2.2) r.1.f12]) (fun i => [Rd (Kd.int .i64) i.1.1 i.1.2 r.1.f8, Rd (Kd.int .i64) i.2.1.1 i.2.1.2 r.1.f9, Rd (Kd.int .i64) i.2.2.1.1 i.2.2.1.2 r.1.f10]) := by
 refine Cn.of Try.func36 (by kernel_rfl) hS ?_
 unfold haywainref15_body.f at H
 refine J.seq (by kernel_rfl) ?_
 refine J.region (by kernel_rfl) ?_
 refine O.e (some 5) (Ev.box (t := 34) (x := .tmp 2) (v := .agg #[.int .i64 a2.f0, .int .i64 a2.f1, .int .i64 a2.f2, .int .i64 a2.f3, .int .i64 a2.f4, .int .i64 a2.f5, .int .i64 a2.f6, .int .i64 a2.f7, .slice h1.1 a2.f8.length h1.2, .slice h2.1 a2.f9.length h2.2, .slice h3.1 a2.f10.length h3.2, .int .i64 a2.f11.f0, .int .i64 a2.f11.f1, .slice h4.1 a2.f11.f2.length h4.2, .slice h5.1 a2.f11.f3.length h5.2, .slice h6.1 a2.f11.f4.length h6.2, .slice h7.1 a2.f12.length h7.2]) (by kernel_rfl) (by kernel_rfl)) (by kernel_rfl) (fun p0_0 => ?_)
 refine O.e (some 6) (Ev.alloc (t := 34) (z := .agg #[.int .i64 0, .int .i64 0, .int .i64 0, .int .i64 0, .int .i64 0, .int .i64 0, .int .i64 0, .int .i64 0, .slice none 0 0, .slice none 0 0, .slice none 0 0, .int .i64 0, .int .i64 0, .slice none 0 0, .slice none 0 0, .slice none 0 0, .slice none 0 0]) (by kernel_rfl) (by kernel_rfl)) (by kernel_rfl) (fun p0_1 => ?_)
 refine O.pure 1 [] [0, 1, 5, 6] [] (fr' := [(0, .slice h0.1 a0.length h0.2), (1, .int .i64 a1), (5, .pointer (some ⟨p0_0, 0, none⟩)), (6, .pointer (some ⟨p0_1, 0, none⟩))]) (bx' := [⟨p0_1, [.int .i64 0, .int .i64 0, .int .i64 0, .int .i64 0, .int .i64 0, .int .i64 0, .int .i64 0, .int .i64 0, .slice none 0 0, .slice none 0 0, .slice none 0 0, .int .i64 0, .int .i64 0, .slice none 0 0, .slice none 0 0, .slice none 0 0, .slice none 0 0], 34⟩, ⟨p0_0, [.int .i64 a2.f0, .int .i64 a2.f1, .int .i64 a2.f2, .int .i64 a2.f3, .int .i64 a2.f4, .int .i64 a2.f5, .int .i64 a2.f6, .int .i64 a2.f7, .slice h1.1 a2.f8.length h1.2, .slice h2.1 a2.f9.length h2.2, .slice h3.1 a2.f10.length h3.2, .int .i64 a2.f11.f0, .int .i64 a2.f11.f1, .slice h4.1 a2.f11.f2.length h4.2, .slice h5.1 a2.f11.f3.length h5.2, .slice h6.1 a2.f11.f4.length h6.2, .slice h7.1 a2.f12.length h7.2], 34⟩]) (by kernel_rfl) ?_
 refine O.nil (by kernel_rfl) ?_
 refine J.seq (by kernel_rfl) ?_
 obtain ⟨x1_2, hx1_2, H⟩ := bindE H
 obtain ⟨x1_6, hx1_6, H⟩ := bindE H
 obtain ⟨x1_10, hx1_10, H⟩ := bindE H
 refine J.region (by kernel_rfl) ?_
 refine O.pure 2 [] [0, 1, 5, 6, 19, 20] [] (fr' := [(0, .slice h0.1 a0.length h0.2), (1, .int .i64 a1), (5, .pointer (some ⟨p0_0, 0, none⟩)), (6, .pointer (some ⟨p0_1, 0, none⟩)), (19, .slice h0.1 a0.length h0.2), (20, .int .i64 a1)]) (bx' := [⟨p0_1, [.int .i64 0, .int .i64 0, .int .i64 0, .int .i64 0, .int .i64 0, .int .i64 0, .int .i64 0, .int .i64 0, .slice none 0 0, .slice none 0 0, .slice none 0 0, .int .i64 0, .int .i64 0, .slice none 0 0, .slice none 0 0, .slice none 0 0, .slice none 0 0], 34⟩, ⟨p0_0, [.int .i64 a2.f0, .int .i64 a2.f1, .int .i64 a2.f2, .int .i64 a2.f3, .int .i64 a2.f4, .int .i64 a2.f5, .int .i64 a2.f6, .int .i64 a2.f7, .slice h1.1 a2.f8.length h1.2, .slice h2.1 a2.f9.length h2.2, .slice h3.1 a2.f10.length h3.2, .int .i64 a2.f11.f0, .int .i64 a2.f11.f1, .slice h4.1 a2.f11.f2.length h4.2, .slice h5.1 a2.f11.f3.length h5.2, .slice h6.1 a2.f11.f4.length h6.2, .slice h7.1 a2.f12.length h7.2], 34⟩]) (by kernel_rfl) ?_
 refine O.e (some 21) (Ev.call0 (xs := [.tmp 19, .tmp 20, .const (.int .i64 1099511627776)]) [0] (by kernel_rfl) (by kernel_rfl) (fun w hS => haywainref15_small.con K a0 a1 1099511627776 h0  _ _ w hS hx1_2)) (by kernel_rfl) (fun _ => ?_)
 refine O.pure 3 [] [0, 1, 5, 6, 21, 22, 24] [] (fr' := [(0, .slice h0.1 a0.length h0.2), (1, .int .i64 a1), (5, .pointer (some ⟨p0_0, 0, none⟩)), (6, .pointer (some ⟨p0_1, 0, none⟩)), (21, .int .i64 x1_2), (22, .slice h0.1 a0.length h0.2), (24, .int .i64 (IntKind.wrap .i64 (a1 + 1)))]) (bx' := [⟨p0_1, [.int .i64 0, .int .i64 0, .int .i64 0, .int .i64 0, .int .i64 0, .int .i64 0, .int .i64 0, .int .i64 0, .slice none 0 0, .slice none 0 0, .slice none 0 0, .int .i64 0, .int .i64 0, .slice none 0 0, .slice none 0 0, .slice none 0 0, .slice none 0 0], 34⟩, ⟨p0_0, [.int .i64 a2.f0, .int .i64 a2.f1, .int .i64 a2.f2, .int .i64 a2.f3, .int .i64 a2.f4, .int .i64 a2.f5, .int .i64 a2.f6, .int .i64 a2.f7, .slice h1.1 a2.f8.length h1.2, .slice h2.1 a2.f9.length h2.2, .slice h3.1 a2.f10.length h3.2, .int .i64 a2.f11.f0, .int .i64 a2.f11.f1, .slice h4.1 a2.f11.f2.length h4.2, .slice h5.1 a2.f11.f3.length h5.2, .slice h6.1 a2.f11.f4.length h6.2, .slice h7.1 a2.f12.length h7.2], 34⟩]) (by kernel_rfl) ?_
 refine O.e (some 25) (Ev.call0 (xs := [.tmp 22, .tmp 24, .const (.int .i64 1099511627776)]) [0] (by kernel_rfl) (by kernel_rfl) (fun w hS => haywainref15_small.con K a0 (IntKind.wrap .i64 (a1 + 1)) 1099511627776 h0  _ _ w hS hx1_6)) (by kernel_rfl) (fun _ => ?_)
 refine O.pure 3 [] [0, 1, 5, 6, 21, 25, 26, 28] [] (fr' := [(0, .slice h0.1 a0.length h0.2), (1, .int .i64 a1), (5, .pointer (some ⟨p0_0, 0, none⟩)), (6, .pointer (some ⟨p0_1, 0, none⟩)), (21, .int .i64 x1_2), (25, .int .i64 x1_6), (26, .slice h0.1 a0.length h0.2), (28, .int .i64 (IntKind.wrap .i64 (a1 + 2)))]) (bx' := [⟨p0_1, [.int .i64 0, .int .i64 0, .int .i64 0, .int .i64 0, .int .i64 0, .int .i64 0, .int .i64 0, .int .i64 0, .slice none 0 0, .slice none 0 0, .slice none 0 0, .int .i64 0, .int .i64 0, .slice none 0 0, .slice none 0 0, .slice none 0 0, .slice none 0 0], 34⟩, ⟨p0_0, [.int .i64 a2.f0, .int .i64 a2.f1, .int .i64 a2.f2, .int .i64 a2.f3, .int .i64 a2.f4, .int .i64 a2.f5, .int .i64 a2.f6, .int .i64 a2.f7, .slice h1.1 a2.f8.length h1.2, .slice h2.1 a2.f9.length h2.2, .slice h3.1 a2.f10.length h3.2, .int .i64 a2.f11.f0, .int .i64 a2.f11.f1, .slice h4.1 a2.f11.f2.length h4.2, .slice h5.1 a2.f11.f3.length h5.2, .slice h6.1 a2.f11.f4.length h6.2, .slice h7.1 a2.f12.length h7.2], 34⟩]) (by kernel_rfl) ?_
 refine O.e (some 29) (Ev.call0 (xs := [.tmp 26, .tmp 28, .const (.int .i64 24)]) [0] (by kernel_rfl) (by kernel_rfl) (fun w hS => haywainref15_small.con K a0 (IntKind.wrap .i64 (a1 + 2)) 24 h0  _ _ w hS hx1_10)) (by kernel_rfl) (fun _ => ?_)
 refine O.pure 3 [] [0, 1, 5, 6, 8, 9, 10] [] (fr' := [(0, .slice h0.1 a0.length h0.2), (1, .int .i64 a1), (5, .pointer (some ⟨p0_0, 0, none⟩)), (6, .pointer (some ⟨p0_1, 0, none⟩)), (8, .int .i64 x1_2), (9, .int .i64 x1_6), (10, .int .i64 x1_10)]) (bx' := [⟨p0_1, [.int .i64 0, .int .i64 0, .int .i64 0, .int .i64 0, .int .i64 0, .int .i64 0, .int .i64 0, .int .i64 0, .slice none 0 0, .slice none 0 0, .slice none 0 0, .int .i64 0, .int .i64 0, .slice none 0 0, .slice none 0 0, .slice none 0 0, .slice none 0 0], 34⟩, ⟨p0_0, [.int .i64 a2.f0, .int .i64 a2.f1, .int .i64 a2.f2, .int .i64 a2.f3, .int .i64 a2.f4, .int .i64 a2.f5, .int .i64 a2.f6, .int .i64 a2.f7, .slice h1.1 a2.f8.length h1.2, .slice h2.1 a2.f9.length h2.2, .slice h3.1 a2.f10.length h3.2, .int .i64 a2.f11.f0, .int .i64 a2.f11.f1, .slice h4.1 a2.f11.f2.length h4.2, .slice h5.1 a2.f11.f3.length h5.2, .slice h6.1 a2.f11.f4.length h6.2, .slice h7.1 a2.f12.length h7.2], 34⟩]) (by kernel_rfl) ?_
 refine O.nil (by kernel_rfl) ?_
 refine J.seq (by kernel_rfl) ?_
 refine J.seq (by kernel_rfl) ?_
 rcases condE H with ⟨hc1, H⟩ | ⟨hc1, H⟩
 ·refine J.region (by kernel_rfl) ?_
  refine O.pure 1 [] [0, 1, 5, 6, 8, 9, 10, 30] [] (fr' := [(0, .slice h0.1 a0.length h0.2), (1, .int .i64 a1), (5, .pointer (some ⟨p0_0, 0, none⟩)), (6, .pointer (some ⟨p0_1, 0, none⟩)), (8, .int .i64 x1_2), (9, .int .i64 x1_6), (10, .int .i64 x1_10), (30, .int .i64 x1_2)]) (bx' := [⟨p0_1, [.int .i64 0, .int .i64 0, .int .i64 0, .int .i64 0, .int .i64 0, .int .i64 0, .int .i64 0, .int .i64 0, .slice none 0 0, .slice none 0 0, .slice none 0 0, .int .i64 0, .int .i64 0, .slice none 0 0, .slice none 0 0, .slice none 0 0, .slice none 0 0], 34⟩, ⟨p0_0, [.int .i64 a2.f0, .int .i64 a2.f1, .int .i64 a2.f2, .int .i64 a2.f3, .int .i64 a2.f4, .int .i64 a2.f5, .int .i64 a2.f6, .int .i64 a2.f7, .slice h1.1 a2.f8.length h1.2, .slice h2.1 a2.f9.length h2.2, .slice h3.1 a2.f10.length h3.2, .int .i64 a2.f11.f0, .int .i64 a2.f11.f1, .slice h4.1 a2.f11.f2.length h4.2, .slice h5.1 a2.f11.f3.length h5.2, .slice h6.1 a2.f11.f4.length h6.2, .slice h7.1 a2.f12.length h7.2], 34⟩]) (by kernel_rfl) ?_
  refine O.q (v := .bool true) (some 31) (Qu.eqv (u := .bool (decide (x1_2 < 0))) (v := .bool true) (0, 0) [] (by kernel_rfl) (congrArg Value.bool hc1)) (by kernel_rfl) ?_
  refine O.pure 18 [] [0, 1, 5, 6, 8, 9, 10, 49] [] (fr' := [(0, .slice h0.1 a0.length h0.2), (1, .int .i64 a1), (5, .pointer (some ⟨p0_0, 0, none⟩)), (6, .pointer (some ⟨p0_1, 0, none⟩)), (8, .int .i64 x1_2), (9, .int .i64 x1_6), (10, .int .i64 x1_10), (49, .bool true)]) (bx' := [⟨p0_1, [.int .i64 0, .int .i64 0, .int .i64 0, .int .i64 0, .int .i64 0, .int .i64 0, .int .i64 0, .int .i64 0, .slice none 0 0, .slice none 0 0, .slice none 0 0, .int .i64 0, .int .i64 0, .slice none 0 0, .slice none 0 0, .slice none 0 0, .slice none 0 0], 34⟩, ⟨p0_0, [.int .i64 a2.f0, .int .i64 a2.f1, .int .i64 a2.f2, .int .i64 a2.f3, .int .i64 a2.f4, .int .i64 a2.f5, .int .i64 a2.f6, .int .i64 a2.f7, .slice h1.1 a2.f8.length h1.2, .slice h2.1 a2.f9.length h2.2, .slice h3.1 a2.f10.length h3.2, .int .i64 a2.f11.f0, .int .i64 a2.f11.f1, .slice h4.1 a2.f11.f2.length h4.2, .slice h5.1 a2.f11.f3.length h5.2, .slice h6.1 a2.f11.f4.length h6.2, .slice h7.1 a2.f12.length h7.2], 34⟩]) (by kernel_rfl) ?_
  refine O.nil (by kernel_rfl) ?_
  refine J.cond (o := .tmp 49) true (by kernel_rfl) (by kernel_rfl) ?_
  refine J.seq (by kernel_rfl) ?_
  refine J.region (by kernel_rfl) ?_
  refine O.pure 3 [(0, 0)] [6, 7] [p0_1, 0] (fr' := [(6, .pointer (some ⟨p0_1, 0, none⟩)), (7, .bool false)]) (bx' := [⟨p0_1, [.int .i64 0, .int .i64 0, .int .i64 0, .int .i64 0, .int .i64 0, .int .i64 0, .int .i64 0, .int .i64 0, .slice none 0 0, .slice none 0 0, .slice none 0 0, .int .i64 0, .int .i64 0, .slice none 0 0, .slice none 0 0, .slice none 0 0, .slice none 0 0], 34⟩, ⟨p0_0, [.int .i64 a2.f0, .int .i64 a2.f1, .int .i64 a2.f2, .int .i64 a2.f3, .int .i64 a2.f4, .int .i64 a2.f5, .int .i64 a2.f6, .int .i64 a2.f7, .slice h1.1 a2.f8.length h1.2, .slice h2.1 a2.f9.length h2.2, .slice h3.1 a2.f10.length h3.2, .int .i64 a2.f11.f0, .int .i64 a2.f11.f1, .slice h4.1 a2.f11.f2.length h4.2, .slice h5.1 a2.f11.f3.length h5.2, .slice h6.1 a2.f11.f4.length h6.2, .slice h7.1 a2.f12.length h7.2], 34⟩]) (by kernel_rfl) ?_
  refine O.nil (by kernel_rfl) ?_
  obtain rfl := Option.some.inj H
  refine J.nilF (Kd.int .i64) ?_
  refine J.nilrow (Kd.int .i64) 2 ?_
  refine J.nilrow Kd.bool 4 ?_
  refine J.nilrow kd77 77 ?_
  refine J.nilrow kd77 77 ?_
  exact J.doneS [(0, 0)] [p0_1, 0] [0, 0, 0] [] [3, 2, 1, 0] ((none, 0), (none, 0), (none, 0), (none, 0), (none, 0), (none, 0), (none, 0)) (vs := [.agg #[.int .i64 0, .int .i64 0, .int .i64 0, .int .i64 0, .int .i64 0, .int .i64 0, .int .i64 0, .int .i64 0, .slice none 0 0, .slice none 0 0, .slice none 0 0, .int .i64 0, .int .i64 0, .slice none 0 0, .slice none 0 0, .slice none 0 0, .slice none 0 0], .bool false]) (by kernel_rfl) (by kernel_rfl) (by kernel_rfl) (by kernel_rfl) (by kernel_rfl) (by decide)
 ·rcases condE H with ⟨hc2, H⟩ | ⟨hc2, H⟩
  ·refine J.region (by kernel_rfl) ?_
   refine O.pure 1 [] [0, 1, 5, 6, 8, 9, 10, 30] [] (fr' := [(0, .slice h0.1 a0.length h0.2), (1, .int .i64 a1), (5, .pointer (some ⟨p0_0, 0, none⟩)), (6, .pointer (some ⟨p0_1, 0, none⟩)), (8, .int .i64 x1_2), (9, .int .i64 x1_6), (10, .int .i64 x1_10), (30, .int .i64 x1_2)]) (bx' := [⟨p0_1, [.int .i64 0, .int .i64 0, .int .i64 0, .int .i64 0, .int .i64 0, .int .i64 0, .int .i64 0, .int .i64 0, .slice none 0 0, .slice none 0 0, .slice none 0 0, .int .i64 0, .int .i64 0, .slice none 0 0, .slice none 0 0, .slice none 0 0, .slice none 0 0], 34⟩, ⟨p0_0, [.int .i64 a2.f0, .int .i64 a2.f1, .int .i64 a2.f2, .int .i64 a2.f3, .int .i64 a2.f4, .int .i64 a2.f5, .int .i64 a2.f6, .int .i64 a2.f7, .slice h1.1 a2.f8.length h1.2, .slice h2.1 a2.f9.length h2.2, .slice h3.1 a2.f10.length h3.2, .int .i64 a2.f11.f0, .int .i64 a2.f11.f1, .slice h4.1 a2.f11.f2.length h4.2, .slice h5.1 a2.f11.f3.length h5.2, .slice h6.1 a2.f11.f4.length h6.2, .slice h7.1 a2.f12.length h7.2], 34⟩]) (by kernel_rfl) ?_
   refine O.q (v := .bool false) (some 31) (Qu.eqv (u := .bool (decide (x1_2 < 0))) (v := .bool false) (0, 0) [] (by kernel_rfl) (congrArg Value.bool hc1)) (by kernel_rfl) ?_
   refine O.pure 2 [] [0, 1, 5, 6, 8, 9, 10, 32, 33] [] (fr' := [(0, .slice h0.1 a0.length h0.2), (1, .int .i64 a1), (5, .pointer (some ⟨p0_0, 0, none⟩)), (6, .pointer (some ⟨p0_1, 0, none⟩)), (8, .int .i64 x1_2), (9, .int .i64 x1_6), (10, .int .i64 x1_10), (32, .bool false), (33, .int .i64 x1_6)]) (bx' := [⟨p0_1, [.int .i64 0, .int .i64 0, .int .i64 0, .int .i64 0, .int .i64 0, .int .i64 0, .int .i64 0, .int .i64 0, .slice none 0 0, .slice none 0 0, .slice none 0 0, .int .i64 0, .int .i64 0, .slice none 0 0, .slice none 0 0, .slice none 0 0, .slice none 0 0], 34⟩, ⟨p0_0, [.int .i64 a2.f0, .int .i64 a2.f1, .int .i64 a2.f2, .int .i64 a2.f3, .int .i64 a2.f4, .int .i64 a2.f5, .int .i64 a2.f6, .int .i64 a2.f7, .slice h1.1 a2.f8.length h1.2, .slice h2.1 a2.f9.length h2.2, .slice h3.1 a2.f10.length h3.2, .int .i64 a2.f11.f0, .int .i64 a2.f11.f1, .slice h4.1 a2.f11.f2.length h4.2, .slice h5.1 a2.f11.f3.length h5.2, .slice h6.1 a2.f11.f4.length h6.2, .slice h7.1 a2.f12.length h7.2], 34⟩]) (by kernel_rfl) ?_
   refine O.q (v := .bool true) (some 34) (Qu.eqv (u := .bool (decide (x1_6 < 0))) (v := .bool true) (0, 0) [] (by kernel_rfl) (congrArg Value.bool hc2)) (by kernel_rfl) ?_
   refine O.pure 15 [] [0, 1, 5, 6, 8, 9, 10, 49] [] (fr' := [(0, .slice h0.1 a0.length h0.2), (1, .int .i64 a1), (5, .pointer (some ⟨p0_0, 0, none⟩)), (6, .pointer (some ⟨p0_1, 0, none⟩)), (8, .int .i64 x1_2), (9, .int .i64 x1_6), (10, .int .i64 x1_10), (49, .bool true)]) (bx' := [⟨p0_1, [.int .i64 0, .int .i64 0, .int .i64 0, .int .i64 0, .int .i64 0, .int .i64 0, .int .i64 0, .int .i64 0, .slice none 0 0, .slice none 0 0, .slice none 0 0, .int .i64 0, .int .i64 0, .slice none 0 0, .slice none 0 0, .slice none 0 0, .slice none 0 0], 34⟩, ⟨p0_0, [.int .i64 a2.f0, .int .i64 a2.f1, .int .i64 a2.f2, .int .i64 a2.f3, .int .i64 a2.f4, .int .i64 a2.f5, .int .i64 a2.f6, .int .i64 a2.f7, .slice h1.1 a2.f8.length h1.2, .slice h2.1 a2.f9.length h2.2, .slice h3.1 a2.f10.length h3.2, .int .i64 a2.f11.f0, .int .i64 a2.f11.f1, .slice h4.1 a2.f11.f2.length h4.2, .slice h5.1 a2.f11.f3.length h5.2, .slice h6.1 a2.f11.f4.length h6.2, .slice h7.1 a2.f12.length h7.2], 34⟩]) (by kernel_rfl) ?_
   refine O.nil (by kernel_rfl) ?_
   refine J.cond (o := .tmp 49) true (by kernel_rfl) (by kernel_rfl) ?_
   refine J.seq (by kernel_rfl) ?_
   refine J.region (by kernel_rfl) ?_
   refine O.pure 3 [(0, 0)] [6, 7] [p0_1, 0] (fr' := [(6, .pointer (some ⟨p0_1, 0, none⟩)), (7, .bool false)]) (bx' := [⟨p0_1, [.int .i64 0, .int .i64 0, .int .i64 0, .int .i64 0, .int .i64 0, .int .i64 0, .int .i64 0, .int .i64 0, .slice none 0 0, .slice none 0 0, .slice none 0 0, .int .i64 0, .int .i64 0, .slice none 0 0, .slice none 0 0, .slice none 0 0, .slice none 0 0], 34⟩, ⟨p0_0, [.int .i64 a2.f0, .int .i64 a2.f1, .int .i64 a2.f2, .int .i64 a2.f3, .int .i64 a2.f4, .int .i64 a2.f5, .int .i64 a2.f6, .int .i64 a2.f7, .slice h1.1 a2.f8.length h1.2, .slice h2.1 a2.f9.length h2.2, .slice h3.1 a2.f10.length h3.2, .int .i64 a2.f11.f0, .int .i64 a2.f11.f1, .slice h4.1 a2.f11.f2.length h4.2, .slice h5.1 a2.f11.f3.length h5.2, .slice h6.1 a2.f11.f4.length h6.2, .slice h7.1 a2.f12.length h7.2], 34⟩]) (by kernel_rfl) ?_
   refine O.nil (by kernel_rfl) ?_
   obtain rfl := Option.some.inj H
   refine J.nilF (Kd.int .i64) ?_
   refine J.nilrow (Kd.int .i64) 2 ?_
   refine J.nilrow Kd.bool 4 ?_
   refine J.nilrow kd77 77 ?_
   refine J.nilrow kd77 77 ?_
   exact J.doneS [(0, 0)] [p0_1, 0] [0, 0, 0] [] [3, 2, 1, 0] ((none, 0), (none, 0), (none, 0), (none, 0), (none, 0), (none, 0), (none, 0)) (vs := [.agg #[.int .i64 0, .int .i64 0, .int .i64 0, .int .i64 0, .int .i64 0, .int .i64 0, .int .i64 0, .int .i64 0, .slice none 0 0, .slice none 0 0, .slice none 0 0, .int .i64 0, .int .i64 0, .slice none 0 0, .slice none 0 0, .slice none 0 0, .slice none 0 0], .bool false]) (by kernel_rfl) (by kernel_rfl) (by kernel_rfl) (by kernel_rfl) (by kernel_rfl) (by decide)
  ·rcases condE H with ⟨hc3, H⟩ | ⟨hc3, H⟩
   ·refine J.region (by kernel_rfl) ?_
    refine O.pure 1 [] [0, 1, 5, 6, 8, 9, 10, 30] [] (fr' := [(0, .slice h0.1 a0.length h0.2), (1, .int .i64 a1), (5, .pointer (some ⟨p0_0, 0, none⟩)), (6, .pointer (some ⟨p0_1, 0, none⟩)), (8, .int .i64 x1_2), (9, .int .i64 x1_6), (10, .int .i64 x1_10), (30, .int .i64 x1_2)]) (bx' := [⟨p0_1, [.int .i64 0, .int .i64 0, .int .i64 0, .int .i64 0, .int .i64 0, .int .i64 0, .int .i64 0, .int .i64 0, .slice none 0 0, .slice none 0 0, .slice none 0 0, .int .i64 0, .int .i64 0, .slice none 0 0, .slice none 0 0, .slice none 0 0, .slice none 0 0], 34⟩, ⟨p0_0, [.int .i64 a2.f0, .int .i64 a2.f1, .int .i64 a2.f2, .int .i64 a2.f3, .int .i64 a2.f4, .int .i64 a2.f5, .int .i64 a2.f6, .int .i64 a2.f7, .slice h1.1 a2.f8.length h1.2, .slice h2.1 a2.f9.length h2.2, .slice h3.1 a2.f10.length h3.2, .int .i64 a2.f11.f0, .int .i64 a2.f11.f1, .slice h4.1 a2.f11.f2.length h4.2, .slice h5.1 a2.f11.f3.length h5.2, .slice h6.1 a2.f11.f4.length h6.2, .slice h7.1 a2.f12.length h7.2], 34⟩]) (by kernel_rfl) ?_
    refine O.q (v := .bool false) (some 31) (Qu.eqv (u := .bool (decide (x1_2 < 0))) (v := .bool false) (0, 0) [] (by kernel_rfl) (congrArg Value.bool hc1)) (by kernel_rfl) ?_
    refine O.pure 2 [] [0, 1, 5, 6, 8, 9, 10, 32, 33] [] (fr' := [(0, .slice h0.1 a0.length h0.2), (1, .int .i64 a1), (5, .pointer (some ⟨p0_0, 0, none⟩)), (6, .pointer (some ⟨p0_1, 0, none⟩)), (8, .int .i64 x1_2), (9, .int .i64 x1_6), (10, .int .i64 x1_10), (32, .bool false), (33, .int .i64 x1_6)]) (bx' := [⟨p0_1, [.int .i64 0, .int .i64 0, .int .i64 0, .int .i64 0, .int .i64 0, .int .i64 0, .int .i64 0, .int .i64 0, .slice none 0 0, .slice none 0 0, .slice none 0 0, .int .i64 0, .int .i64 0, .slice none 0 0, .slice none 0 0, .slice none 0 0, .slice none 0 0], 34⟩, ⟨p0_0, [.int .i64 a2.f0, .int .i64 a2.f1, .int .i64 a2.f2, .int .i64 a2.f3, .int .i64 a2.f4, .int .i64 a2.f5, .int .i64 a2.f6, .int .i64 a2.f7, .slice h1.1 a2.f8.length h1.2, .slice h2.1 a2.f9.length h2.2, .slice h3.1 a2.f10.length h3.2, .int .i64 a2.f11.f0, .int .i64 a2.f11.f1, .slice h4.1 a2.f11.f2.length h4.2, .slice h5.1 a2.f11.f3.length h5.2, .slice h6.1 a2.f11.f4.length h6.2, .slice h7.1 a2.f12.length h7.2], 34⟩]) (by kernel_rfl) ?_
    refine O.q (v := .bool false) (some 34) (Qu.eqv (u := .bool (decide (x1_6 < 0))) (v := .bool false) (0, 0) [] (by kernel_rfl) (congrArg Value.bool hc2)) (by kernel_rfl) ?_
    refine O.pure 3 [] [0, 1, 5, 6, 8, 9, 10, 36, 37] [] (fr' := [(0, .slice h0.1 a0.length h0.2), (1, .int .i64 a1), (5, .pointer (some ⟨p0_0, 0, none⟩)), (6, .pointer (some ⟨p0_1, 0, none⟩)), (8, .int .i64 x1_2), (9, .int .i64 x1_6), (10, .int .i64 x1_10), (36, .bool false), (37, .int .i64 x1_10)]) (bx' := [⟨p0_1, [.int .i64 0, .int .i64 0, .int .i64 0, .int .i64 0, .int .i64 0, .int .i64 0, .int .i64 0, .int .i64 0, .slice none 0 0, .slice none 0 0, .slice none 0 0, .int .i64 0, .int .i64 0, .slice none 0 0, .slice none 0 0, .slice none 0 0, .slice none 0 0], 34⟩, ⟨p0_0, [.int .i64 a2.f0, .int .i64 a2.f1, .int .i64 a2.f2, .int .i64 a2.f3, .int .i64 a2.f4, .int .i64 a2.f5, .int .i64 a2.f6, .int .i64 a2.f7, .slice h1.1 a2.f8.length h1.2, .slice h2.1 a2.f9.length h2.2, .slice h3.1 a2.f10.length h3.2, .int .i64 a2.f11.f0, .int .i64 a2.f11.f1, .slice h4.1 a2.f11.f2.length h4.2, .slice h5.1 a2.f11.f3.length h5.2, .slice h6.1 a2.f11.f4.length h6.2, .slice h7.1 a2.f12.length h7.2], 34⟩]) (by kernel_rfl) ?_
    refine O.q (v := .bool true) (some 38) (Qu.eqv (u := .bool (decide (x1_10 < 0))) (v := .bool true) (0, 0) [] (by kernel_rfl) (congrArg Value.bool hc3)) (by kernel_rfl) ?_
    refine O.pure 11 [] [0, 1, 5, 6, 8, 9, 10, 49] [] (fr' := [(0, .slice h0.1 a0.length h0.2), (1, .int .i64 a1), (5, .pointer (some ⟨p0_0, 0, none⟩)), (6, .pointer (some ⟨p0_1, 0, none⟩)), (8, .int .i64 x1_2), (9, .int .i64 x1_6), (10, .int .i64 x1_10), (49, .bool true)]) (bx' := [⟨p0_1, [.int .i64 0, .int .i64 0, .int .i64 0, .int .i64 0, .int .i64 0, .int .i64 0, .int .i64 0, .int .i64 0, .slice none 0 0, .slice none 0 0, .slice none 0 0, .int .i64 0, .int .i64 0, .slice none 0 0, .slice none 0 0, .slice none 0 0, .slice none 0 0], 34⟩, ⟨p0_0, [.int .i64 a2.f0, .int .i64 a2.f1, .int .i64 a2.f2, .int .i64 a2.f3, .int .i64 a2.f4, .int .i64 a2.f5, .int .i64 a2.f6, .int .i64 a2.f7, .slice h1.1 a2.f8.length h1.2, .slice h2.1 a2.f9.length h2.2, .slice h3.1 a2.f10.length h3.2, .int .i64 a2.f11.f0, .int .i64 a2.f11.f1, .slice h4.1 a2.f11.f2.length h4.2, .slice h5.1 a2.f11.f3.length h5.2, .slice h6.1 a2.f11.f4.length h6.2, .slice h7.1 a2.f12.length h7.2], 34⟩]) (by kernel_rfl) ?_
    refine O.nil (by kernel_rfl) ?_
    refine J.cond (o := .tmp 49) true (by kernel_rfl) (by kernel_rfl) ?_
    refine J.seq (by kernel_rfl) ?_
    refine J.region (by kernel_rfl) ?_
    refine O.pure 3 [(0, 0)] [6, 7] [p0_1, 0] (fr' := [(6, .pointer (some ⟨p0_1, 0, none⟩)), (7, .bool false)]) (bx' := [⟨p0_1, [.int .i64 0, .int .i64 0, .int .i64 0, .int .i64 0, .int .i64 0, .int .i64 0, .int .i64 0, .int .i64 0, .slice none 0 0, .slice none 0 0, .slice none 0 0, .int .i64 0, .int .i64 0, .slice none 0 0, .slice none 0 0, .slice none 0 0, .slice none 0 0], 34⟩, ⟨p0_0, [.int .i64 a2.f0, .int .i64 a2.f1, .int .i64 a2.f2, .int .i64 a2.f3, .int .i64 a2.f4, .int .i64 a2.f5, .int .i64 a2.f6, .int .i64 a2.f7, .slice h1.1 a2.f8.length h1.2, .slice h2.1 a2.f9.length h2.2, .slice h3.1 a2.f10.length h3.2, .int .i64 a2.f11.f0, .int .i64 a2.f11.f1, .slice h4.1 a2.f11.f2.length h4.2, .slice h5.1 a2.f11.f3.length h5.2, .slice h6.1 a2.f11.f4.length h6.2, .slice h7.1 a2.f12.length h7.2], 34⟩]) (by kernel_rfl) ?_
    refine O.nil (by kernel_rfl) ?_
    obtain rfl := Option.some.inj H
    refine J.nilF (Kd.int .i64) ?_
    refine J.nilrow (Kd.int .i64) 2 ?_
    refine J.nilrow Kd.bool 4 ?_
    refine J.nilrow kd77 77 ?_
    refine J.nilrow kd77 77 ?_
    exact J.doneS [(0, 0)] [p0_1, 0] [0, 0, 0] [] [3, 2, 1, 0] ((none, 0), (none, 0), (none, 0), (none, 0), (none, 0), (none, 0), (none, 0)) (vs := [.agg #[.int .i64 0, .int .i64 0, .int .i64 0, .int .i64 0, .int .i64 0, .int .i64 0, .int .i64 0, .int .i64 0, .slice none 0 0, .slice none 0 0, .slice none 0 0, .int .i64 0, .int .i64 0, .slice none 0 0, .slice none 0 0, .slice none 0 0, .slice none 0 0], .bool false]) (by kernel_rfl) (by kernel_rfl) (by kernel_rfl) (by kernel_rfl) (by kernel_rfl) (by decide)
   ·refine J.region (by kernel_rfl) ?_
    refine O.pure 1 [] [0, 1, 5, 6, 8, 9, 10, 30] [] (fr' := [(0, .slice h0.1 a0.length h0.2), (1, .int .i64 a1), (5, .pointer (some ⟨p0_0, 0, none⟩)), (6, .pointer (some ⟨p0_1, 0, none⟩)), (8, .int .i64 x1_2), (9, .int .i64 x1_6), (10, .int .i64 x1_10), (30, .int .i64 x1_2)]) (bx' := [⟨p0_1, [.int .i64 0, .int .i64 0, .int .i64 0, .int .i64 0, .int .i64 0, .int .i64 0, .int .i64 0, .int .i64 0, .slice none 0 0, .slice none 0 0, .slice none 0 0, .int .i64 0, .int .i64 0, .slice none 0 0, .slice none 0 0, .slice none 0 0, .slice none 0 0], 34⟩, ⟨p0_0, [.int .i64 a2.f0, .int .i64 a2.f1, .int .i64 a2.f2, .int .i64 a2.f3, .int .i64 a2.f4, .int .i64 a2.f5, .int .i64 a2.f6, .int .i64 a2.f7, .slice h1.1 a2.f8.length h1.2, .slice h2.1 a2.f9.length h2.2, .slice h3.1 a2.f10.length h3.2, .int .i64 a2.f11.f0, .int .i64 a2.f11.f1, .slice h4.1 a2.f11.f2.length h4.2, .slice h5.1 a2.f11.f3.length h5.2, .slice h6.1 a2.f11.f4.length h6.2, .slice h7.1 a2.f12.length h7.2], 34⟩]) (by kernel_rfl) ?_
    refine O.q (v := .bool false) (some 31) (Qu.eqv (u := .bool (decide (x1_2 < 0))) (v := .bool false) (0, 0) [] (by kernel_rfl) (congrArg Value.bool hc1)) (by kernel_rfl) ?_
    refine O.pure 2 [] [0, 1, 5, 6, 8, 9, 10, 32, 33] [] (fr' := [(0, .slice h0.1 a0.length h0.2), (1, .int .i64 a1), (5, .pointer (some ⟨p0_0, 0, none⟩)), (6, .pointer (some ⟨p0_1, 0, none⟩)), (8, .int .i64 x1_2), (9, .int .i64 x1_6), (10, .int .i64 x1_10), (32, .bool false), (33, .int .i64 x1_6)]) (bx' := [⟨p0_1, [.int .i64 0, .int .i64 0, .int .i64 0, .int .i64 0, .int .i64 0, .int .i64 0, .int .i64 0, .int .i64 0, .slice none 0 0, .slice none 0 0, .slice none 0 0, .int .i64 0, .int .i64 0, .slice none 0 0, .slice none 0 0, .slice none 0 0, .slice none 0 0], 34⟩, ⟨p0_0, [.int .i64 a2.f0, .int .i64 a2.f1, .int .i64 a2.f2, .int .i64 a2.f3, .int .i64 a2.f4, .int .i64 a2.f5, .int .i64 a2.f6, .int .i64 a2.f7, .slice h1.1 a2.f8.length h1.2, .slice h2.1 a2.f9.length h2.2, .slice h3.1 a2.f10.length h3.2, .int .i64 a2.f11.f0, .int .i64 a2.f11.f1, .slice h4.1 a2.f11.f2.length h4.2, .slice h5.1 a2.f11.f3.length h5.2, .slice h6.1 a2.f11.f4.length h6.2, .slice h7.1 a2.f12.length h7.2], 34⟩]) (by kernel_rfl) ?_
    refine O.q (v := .bool false) (some 34) (Qu.eqv (u := .bool (decide (x1_6 < 0))) (v := .bool false) (0, 0) [] (by kernel_rfl) (congrArg Value.bool hc2)) (by kernel_rfl) ?_
    refine O.pure 3 [] [0, 1, 5, 6, 8, 9, 10, 36, 37] [] (fr' := [(0, .slice h0.1 a0.length h0.2), (1, .int .i64 a1), (5, .pointer (some ⟨p0_0, 0, none⟩)), (6, .pointer (some ⟨p0_1, 0, none⟩)), (8, .int .i64 x1_2), (9, .int .i64 x1_6), (10, .int .i64 x1_10), (36, .bool false), (37, .int .i64 x1_10)]) (bx' := [⟨p0_1, [.int .i64 0, .int .i64 0, .int .i64 0, .int .i64 0, .int .i64 0, .int .i64 0, .int .i64 0, .int .i64 0, .slice none 0 0, .slice none 0 0, .slice none 0 0, .int .i64 0, .int .i64 0, .slice none 0 0, .slice none 0 0, .slice none 0 0, .slice none 0 0], 34⟩, ⟨p0_0, [.int .i64 a2.f0, .int .i64 a2.f1, .int .i64 a2.f2, .int .i64 a2.f3, .int .i64 a2.f4, .int .i64 a2.f5, .int .i64 a2.f6, .int .i64 a2.f7, .slice h1.1 a2.f8.length h1.2, .slice h2.1 a2.f9.length h2.2, .slice h3.1 a2.f10.length h3.2, .int .i64 a2.f11.f0, .int .i64 a2.f11.f1, .slice h4.1 a2.f11.f2.length h4.2, .slice h5.1 a2.f11.f3.length h5.2, .slice h6.1 a2.f11.f4.length h6.2, .slice h7.1 a2.f12.length h7.2], 34⟩]) (by kernel_rfl) ?_
    refine O.q (v := .bool false) (some 38) (Qu.eqv (u := .bool (decide (x1_10 < 0))) (v := .bool false) (0, 0) [] (by kernel_rfl) (congrArg Value.bool hc3)) (by kernel_rfl) ?_
    refine O.pure 11 [] [0, 1, 5, 6, 8, 9, 10, 49] [] (fr' := [(0, .slice h0.1 a0.length h0.2), (1, .int .i64 a1), (5, .pointer (some ⟨p0_0, 0, none⟩)), (6, .pointer (some ⟨p0_1, 0, none⟩)), (8, .int .i64 x1_2), (9, .int .i64 x1_6), (10, .int .i64 x1_10), (49, .bool (decide ((IntKind.wrap .i64 ((IntKind.wrap .i64 (a1 + 3)) + (IntKind.wrap .i64 (2 * x1_10)))) > (a0.length : Int))))]) (bx' := [⟨p0_1, [.int .i64 0, .int .i64 0, .int .i64 0, .int .i64 0, .int .i64 0, .int .i64 0, .int .i64 0, .int .i64 0, .slice none 0 0, .slice none 0 0, .slice none 0 0, .int .i64 0, .int .i64 0, .slice none 0 0, .slice none 0 0, .slice none 0 0, .slice none 0 0], 34⟩, ⟨p0_0, [.int .i64 a2.f0, .int .i64 a2.f1, .int .i64 a2.f2, .int .i64 a2.f3, .int .i64 a2.f4, .int .i64 a2.f5, .int .i64 a2.f6, .int .i64 a2.f7, .slice h1.1 a2.f8.length h1.2, .slice h2.1 a2.f9.length h2.2, .slice h3.1 a2.f10.length h3.2, .int .i64 a2.f11.f0, .int .i64 a2.f11.f1, .slice h4.1 a2.f11.f2.length h4.2, .slice h5.1 a2.f11.f3.length h5.2, .slice h6.1 a2.f11.f4.length h6.2, .slice h7.1 a2.f12.length h7.2], 34⟩]) (by kernel_rfl) ?_
    refine O.nil (by kernel_rfl) ?_
    rcases condE H with ⟨hc4, H⟩ | ⟨hc4, H⟩
    ·refine J.condT (x := .tmp 49) (t := (decide ((IntKind.wrap .i64 ((IntKind.wrap .i64 (a1 + 3)) + (IntKind.wrap .i64 (2 * x1_10)))) > (a0.length : Int)))) (by kernel_rfl) (by kernel_rfl) hc4 ?_
     refine J.seq (by kernel_rfl) ?_
     refine J.region (by kernel_rfl) ?_
     refine O.pure 3 [(0, 0)] [6, 7] [p0_1, 0] (fr' := [(6, .pointer (some ⟨p0_1, 0, none⟩)), (7, .bool false)]) (bx' := [⟨p0_1, [.int .i64 0, .int .i64 0, .int .i64 0, .int .i64 0, .int .i64 0, .int .i64 0, .int .i64 0, .int .i64 0, .slice none 0 0, .slice none 0 0, .slice none 0 0, .int .i64 0, .int .i64 0, .slice none 0 0, .slice none 0 0, .slice none 0 0, .slice none 0 0], 34⟩, ⟨p0_0, [.int .i64 a2.f0, .int .i64 a2.f1, .int .i64 a2.f2, .int .i64 a2.f3, .int .i64 a2.f4, .int .i64 a2.f5, .int .i64 a2.f6, .int .i64 a2.f7, .slice h1.1 a2.f8.length h1.2, .slice h2.1 a2.f9.length h2.2, .slice h3.1 a2.f10.length h3.2, .int .i64 a2.f11.f0, .int .i64 a2.f11.f1, .slice h4.1 a2.f11.f2.length h4.2, .slice h5.1 a2.f11.f3.length h5.2, .slice h6.1 a2.f11.f4.length h6.2, .slice h7.1 a2.f12.length h7.2], 34⟩]) (by kernel_rfl) ?_
     refine O.nil (by kernel_rfl) ?_
     obtain rfl := Option.some.inj H
     refine J.nilF (Kd.int .i64) ?_
     refine J.nilrow (Kd.int .i64) 2 ?_
     refine J.nilrow Kd.bool 4 ?_
     refine J.nilrow kd77 77 ?_
     refine J.nilrow kd77 77 ?_
     exact J.doneS [(0, 0)] [p0_1, 0] [0, 0, 0] [] [3, 2, 1, 0] ((none, 0), (none, 0), (none, 0), (none, 0), (none, 0), (none, 0), (none, 0)) (vs := [.agg #[.int .i64 0, .int .i64 0, .int .i64 0, .int .i64 0, .int .i64 0, .int .i64 0, .int .i64 0, .int .i64 0, .slice none 0 0, .slice none 0 0, .slice none 0 0, .int .i64 0, .int .i64 0, .slice none 0 0, .slice none 0 0, .slice none 0 0, .slice none 0 0], .bool false]) (by kernel_rfl) (by kernel_rfl) (by kernel_rfl) (by kernel_rfl) (by kernel_rfl) (by decide)
    ·refine J.condF (x := .tmp 49) (t := (decide ((IntKind.wrap .i64 ((IntKind.wrap .i64 (a1 + 3)) + (IntKind.wrap .i64 (2 * x1_10)))) > (a0.length : Int)))) (by kernel_rfl) (by kernel_rfl) hc4 ?_
     refine J.skip (by kernel_rfl) ?_
     refine J.seq (by kernel_rfl) ?_
     refine J.region (by kernel_rfl) ?_
     refine O.pure 8 [(1, 11), (1, 12)] [0, 1, 5, 6, 10] [p0_0, 11, p0_0, 12] (fr' := [(0, .slice h0.1 a0.length h0.2), (1, .int .i64 a1), (5, .pointer (some ⟨p0_0, 0, none⟩)), (6, .pointer (some ⟨p0_1, 0, none⟩)), (10, .int .i64 x1_10)]) (bx' := [⟨p0_1, [.int .i64 0, .int .i64 0, .int .i64 0, .int .i64 0, .int .i64 0, .int .i64 0, .int .i64 0, .int .i64 0, .slice none 0 0, .slice none 0 0, .slice none 0 0, .int .i64 0, .int .i64 0, .slice none 0 0, .slice none 0 0, .slice none 0 0, .slice none 0 0], 34⟩, ⟨p0_0, [.int .i64 a2.f0, .int .i64 a2.f1, .int .i64 a2.f2, .int .i64 a2.f3, .int .i64 a2.f4, .int .i64 a2.f5, .int .i64 a2.f6, .int .i64 a2.f7, .slice h1.1 a2.f8.length h1.2, .slice h2.1 a2.f9.length h2.2, .slice h3.1 a2.f10.length h3.2, .int .i64 x1_2, .int .i64 x1_6, .slice h4.1 a2.f11.f2.length h4.2, .slice h5.1 a2.f11.f3.length h5.2, .slice h6.1 a2.f11.f4.length h6.2, .slice h7.1 a2.f12.length h7.2], 34⟩]) (by kernel_rfl) ?_
     refine O.nil (by kernel_rfl) ?_
     refine J.seq (by kernel_rfl) ?_
     refine J.seq (by kernel_rfl) ?_
     refine J.region (by kernel_rfl) ?_
     refine O.pure 1 [] [0, 1, 5, 6, 10, 11] [] (fr' := [(0, .slice h0.1 a0.length h0.2), (1, .int .i64 a1), (5, .pointer (some ⟨p0_0, 0, none⟩)), (6, .pointer (some ⟨p0_1, 0, none⟩)), (10, .int .i64 x1_10), (11, .int .i64 0)]) (bx' := [⟨p0_1, [.int .i64 0, .int .i64 0, .int .i64 0, .int .i64 0, .int .i64 0, .int .i64 0, .int .i64 0, .int .i64 0, .slice none 0 0, .slice none 0 0, .slice none 0 0, .int .i64 0, .int .i64 0, .slice none 0 0, .slice none 0 0, .slice none 0 0, .slice none 0 0], 34⟩, ⟨p0_0, [.int .i64 a2.f0, .int .i64 a2.f1, .int .i64 a2.f2, .int .i64 a2.f3, .int .i64 a2.f4, .int .i64 a2.f5, .int .i64 a2.f6, .int .i64 a2.f7, .slice h1.1 a2.f8.length h1.2, .slice h2.1 a2.f9.length h2.2, .slice h3.1 a2.f10.length h3.2, .int .i64 x1_2, .int .i64 x1_6, .slice h4.1 a2.f11.f2.length h4.2, .slice h5.1 a2.f11.f3.length h5.2, .slice h6.1 a2.f11.f4.length h6.2, .slice h7.1 a2.f12.length h7.2], 34⟩]) (by kernel_rfl) ?_
     refine O.nil (by kernel_rfl) ?_
     refine J.joinS (α := (List Int) × (List Bool)) (γ := Hd × Hd) (fun o5 q5 => [(0, .slice h0.1 a0.length h0.2), (1, .int .i64 a1), (5, .pointer (some ⟨p0_0, 0, none⟩)), (6, .pointer (some ⟨p0_1, 0, none⟩)), (10, .int .i64 x1_10)]) (fun o5 q5 => St X w (keys [] [mkRow (Kd.int .i64) 2 (.slice h4.1 a2.f11.f2.length h4.2) a2.f11.f2, mkRow Kd.bool 4 (.slice h5.1 a2.f11.f3.length h5.2) a2.f11.f3]) [⟨p0_1, [.int .i64 0, .int .i64 0, .int .i64 0, .int .i64 0, .int .i64 0, .int .i64 0, .int .i64 0, .int .i64 0, .slice none 0 0, .slice none 0 0, .slice none 0 0, .int .i64 0, .int .i64 0, .slice none 0 0, .slice none 0 0, .slice none 0 0, .slice none 0 0], 34⟩, ⟨p0_0, [.int .i64 a2.f0, .int .i64 a2.f1, .int .i64 a2.f2, .int .i64 a2.f3, .int .i64 a2.f4, .int .i64 a2.f5, .int .i64 a2.f6, .int .i64 a2.f7, .slice h1.1 a2.f8.length h1.2, .slice h2.1 a2.f9.length h2.2, .slice h3.1 a2.f10.length h3.2, .int .i64 x1_2, .int .i64 x1_6, .slice q5.1.1 o5.1.length q5.1.2, .slice q5.2.1 o5.2.length q5.2.2, .slice h6.1 a2.f11.f4.length h6.2, .slice h7.1 a2.f12.length h7.2], 34⟩] [mkRow (Kd.int .i64) 2 (.slice q5.1.1 o5.1.length q5.1.2) o5.1, mkRow Kd.bool 4 (.slice q5.2.1 o5.2.length q5.2.2) o5.2] [] [Rd (Kd.int .i64) h0.1 h0.2 a0, Rd (Kd.int .i64) h1.1 h1.2 a2.f8, Rd (Kd.int .i64) h2.1 h2.2 a2.f9, Rd (Kd.int .i64) h3.1 h3.2 a2.f10, Rd kd77 h6.1 h6.2 a2.f11.f4, Rd kd77 h7.1 h7.2 a2.f12]) H (fun o5 q5 H => ?_) (fun o5 H hj5 => ?_)
     ·refine J.seq (by kernel_rfl) ?_
      obtain ⟨x13_6, hx13_6, H⟩ := bindE H
      refine J.region (by kernel_rfl) ?_
      refine O.pure 6 [] [0, 5, 6, 102, 107] [] (fr' := [(0, .slice h0.1 a0.length h0.2), (5, .pointer (some ⟨p0_0, 0, none⟩)), (6, .pointer (some ⟨p0_1, 0, none⟩)), (102, .slice h0.1 a0.length h0.2), (107, .int .i64 (IntKind.wrap .i64 ((IntKind.wrap .i64 (a1 + 3)) + (IntKind.wrap .i64 (2 * x1_10)))))]) (bx' := [⟨p0_1, [.int .i64 0, .int .i64 0, .int .i64 0, .int .i64 0, .int .i64 0, .int .i64 0, .int .i64 0, .int .i64 0, .slice none 0 0, .slice none 0 0, .slice none 0 0, .int .i64 0, .int .i64 0, .slice none 0 0, .slice none 0 0, .slice none 0 0, .slice none 0 0], 34⟩, ⟨p0_0, [.int .i64 a2.f0, .int .i64 a2.f1, .int .i64 a2.f2, .int .i64 a2.f3, .int .i64 a2.f4, .int .i64 a2.f5, .int .i64 a2.f6, .int .i64 a2.f7, .slice h1.1 a2.f8.length h1.2, .slice h2.1 a2.f9.length h2.2, .slice h3.1 a2.f10.length h3.2, .int .i64 x1_2, .int .i64 x1_6, .slice q5.1.1 o5.1.length q5.1.2, .slice q5.2.1 o5.2.length q5.2.2, .slice h6.1 a2.f11.f4.length h6.2, .slice h7.1 a2.f12.length h7.2], 34⟩]) (by kernel_rfl) ?_
      refine O.e (some 108) (Ev.call0 (xs := [.tmp 102, .tmp 107]) [0] (by kernel_rfl) (by kernel_rfl) (fun w hS => haywainref15_taken.con K a0 (IntKind.wrap .i64 ((IntKind.wrap .i64 (a1 + 3)) + (IntKind.wrap .i64 (2 * x1_10)))) h0  _ _ w hS hx13_6)) (by kernel_rfl) (fun p13_6 => ?_)
      refine O.pure 7 [] [0, 5, 6, 13, 14, 15] [] (fr' := [(0, .slice h0.1 a0.length h0.2), (5, .pointer (some ⟨p0_0, 0, none⟩)), (6, .pointer (some ⟨p0_1, 0, none⟩)), (13, .slice p13_6.1 x13_6.1.length p13_6.2), (14, .int .i64 x13_6.2.1), (15, .bool x13_6.2.2)]) (bx' := [⟨p0_1, [.int .i64 0, .int .i64 0, .int .i64 0, .int .i64 0, .int .i64 0, .int .i64 0, .int .i64 0, .int .i64 0, .slice none 0 0, .slice none 0 0, .slice none 0 0, .int .i64 0, .int .i64 0, .slice none 0 0, .slice none 0 0, .slice none 0 0, .slice none 0 0], 34⟩, ⟨p0_0, [.int .i64 a2.f0, .int .i64 a2.f1, .int .i64 a2.f2, .int .i64 a2.f3, .int .i64 a2.f4, .int .i64 a2.f5, .int .i64 a2.f6, .int .i64 a2.f7, .slice h1.1 a2.f8.length h1.2, .slice h2.1 a2.f9.length h2.2, .slice h3.1 a2.f10.length h3.2, .int .i64 x1_2, .int .i64 x1_6, .slice q5.1.1 o5.1.length q5.1.2, .slice q5.2.1 o5.2.length q5.2.2, .slice h6.1 a2.f11.f4.length h6.2, .slice h7.1 a2.f12.length h7.2], 34⟩]) (by kernel_rfl) ?_
      refine O.nil (by kernel_rfl) ?_
      refine J.seq (by kernel_rfl) ?_
      refine J.seq (by kernel_rfl) ?_
      refine J.region (by kernel_rfl) ?_
      refine O.pure 2 [] [0, 5, 6, 13, 14, 113] [] (fr' := [(0, .slice h0.1 a0.length h0.2), (5, .pointer (some ⟨p0_0, 0, none⟩)), (6, .pointer (some ⟨p0_1, 0, none⟩)), (13, .slice p13_6.1 x13_6.1.length p13_6.2), (14, .int .i64 x13_6.2.1), (113, .bool (!x13_6.2.2))]) (bx' := [⟨p0_1, [.int .i64 0, .int .i64 0, .int .i64 0, .int .i64 0, .int .i64 0, .int .i64 0, .int .i64 0, .int .i64 0, .slice none 0 0, .slice none 0 0, .slice none 0 0, .int .i64 0, .int .i64 0, .slice none 0 0, .slice none 0 0, .slice none 0 0, .slice none 0 0], 34⟩, ⟨p0_0, [.int .i64 a2.f0, .int .i64 a2.f1, .int .i64 a2.f2, .int .i64 a2.f3, .int .i64 a2.f4, .int .i64 a2.f5, .int .i64 a2.f6, .int .i64 a2.f7, .slice h1.1 a2.f8.length h1.2, .slice h2.1 a2.f9.length h2.2, .slice h3.1 a2.f10.length h3.2, .int .i64 x1_2, .int .i64 x1_6, .slice q5.1.1 o5.1.length q5.1.2, .slice q5.2.1 o5.2.length q5.2.2, .slice h6.1 a2.f11.f4.length h6.2, .slice h7.1 a2.f12.length h7.2], 34⟩]) (by kernel_rfl) ?_
      refine O.nil (by kernel_rfl) ?_
      rcases condE H with ⟨hc16, H⟩ | ⟨hc16, H⟩
      ·refine J.condT (x := .tmp 113) (t := (!x13_6.2.2)) (by kernel_rfl) (by kernel_rfl) hc16 ?_
       refine J.seq (by kernel_rfl) ?_
       refine J.region (by kernel_rfl) ?_
       refine O.pure 3 [(0, 0)] [6, 7] [p0_1, 0] (fr' := [(6, .pointer (some ⟨p0_1, 0, none⟩)), (7, .bool false)]) (bx' := [⟨p0_1, [.int .i64 0, .int .i64 0, .int .i64 0, .int .i64 0, .int .i64 0, .int .i64 0, .int .i64 0, .int .i64 0, .slice none 0 0, .slice none 0 0, .slice none 0 0, .int .i64 0, .int .i64 0, .slice none 0 0, .slice none 0 0, .slice none 0 0, .slice none 0 0], 34⟩, ⟨p0_0, [.int .i64 a2.f0, .int .i64 a2.f1, .int .i64 a2.f2, .int .i64 a2.f3, .int .i64 a2.f4, .int .i64 a2.f5, .int .i64 a2.f6, .int .i64 a2.f7, .slice h1.1 a2.f8.length h1.2, .slice h2.1 a2.f9.length h2.2, .slice h3.1 a2.f10.length h3.2, .int .i64 x1_2, .int .i64 x1_6, .slice q5.1.1 o5.1.length q5.1.2, .slice q5.2.1 o5.2.length q5.2.2, .slice h6.1 a2.f11.f4.length h6.2, .slice h7.1 a2.f12.length h7.2], 34⟩]) (by kernel_rfl) ?_
       refine O.nil (by kernel_rfl) ?_
       obtain rfl := Option.some.inj H
       refine J.nilF (Kd.int .i64) ?_
       refine J.nilrow (Kd.int .i64) 2 ?_
       refine J.nilrow Kd.bool 4 ?_
       refine J.nilrow kd77 77 ?_
       refine J.nilrow kd77 77 ?_
       exact J.doneS [(0, 0)] [p0_1, 0] [0, 0, 0] [] [3, 2, 1, 0] ((none, 0), (none, 0), (none, 0), (none, 0), (none, 0), (none, 0), (none, 0)) (vs := [.agg #[.int .i64 0, .int .i64 0, .int .i64 0, .int .i64 0, .int .i64 0, .int .i64 0, .int .i64 0, .int .i64 0, .slice none 0 0, .slice none 0 0, .slice none 0 0, .int .i64 0, .int .i64 0, .slice none 0 0, .slice none 0 0, .slice none 0 0, .slice none 0 0], .bool false]) (by kernel_rfl) (by kernel_rfl) (by kernel_rfl) (by kernel_rfl) (by kernel_rfl) (by decide)
      ·refine J.condF (x := .tmp 113) (t := (!x13_6.2.2)) (by kernel_rfl) (by kernel_rfl) hc16 ?_
       refine J.skip (by kernel_rfl) ?_
       refine J.seq (by kernel_rfl) ?_
       obtain ⟨x16_2, hx16_2, H⟩ := bindE H
       refine J.region (by kernel_rfl) ?_
       refine O.pure 2 [] [0, 5, 6, 13, 116, 117] [] (fr' := [(0, .slice h0.1 a0.length h0.2), (5, .pointer (some ⟨p0_0, 0, none⟩)), (6, .pointer (some ⟨p0_1, 0, none⟩)), (13, .slice p13_6.1 x13_6.1.length p13_6.2), (116, .slice h0.1 a0.length h0.2), (117, .int .i64 x13_6.2.1)]) (bx' := [⟨p0_1, [.int .i64 0, .int .i64 0, .int .i64 0, .int .i64 0, .int .i64 0, .int .i64 0, .int .i64 0, .int .i64 0, .slice none 0 0, .slice none 0 0, .slice none 0 0, .int .i64 0, .int .i64 0, .slice none 0 0, .slice none 0 0, .slice none 0 0, .slice none 0 0], 34⟩, ⟨p0_0, [.int .i64 a2.f0, .int .i64 a2.f1, .int .i64 a2.f2, .int .i64 a2.f3, .int .i64 a2.f4, .int .i64 a2.f5, .int .i64 a2.f6, .int .i64 a2.f7, .slice h1.1 a2.f8.length h1.2, .slice h2.1 a2.f9.length h2.2, .slice h3.1 a2.f10.length h3.2, .int .i64 x1_2, .int .i64 x1_6, .slice q5.1.1 o5.1.length q5.1.2, .slice q5.2.1 o5.2.length q5.2.2, .slice h6.1 a2.f11.f4.length h6.2, .slice h7.1 a2.f12.length h7.2], 34⟩]) (by kernel_rfl) ?_
       refine O.e (some 118) (Ev.call0 (xs := [.tmp 116, .tmp 117]) [0] (by kernel_rfl) (by kernel_rfl) (fun w hS => haywainref15_taken.con K a0 x13_6.2.1 h0  _ _ w hS hx16_2)) (by kernel_rfl) (fun p16_2 => ?_)
       refine O.pure 7 [] [0, 5, 6, 13, 16, 17, 18] [] (fr' := [(0, .slice h0.1 a0.length h0.2), (5, .pointer (some ⟨p0_0, 0, none⟩)), (6, .pointer (some ⟨p0_1, 0, none⟩)), (13, .slice p13_6.1 x13_6.1.length p13_6.2), (16, .slice p16_2.1 x16_2.1.length p16_2.2), (17, .int .i64 x16_2.2.1), (18, .bool x16_2.2.2)]) (bx' := [⟨p0_1, [.int .i64 0, .int .i64 0, .int .i64 0, .int .i64 0, .int .i64 0, .int .i64 0, .int .i64 0, .int .i64 0, .slice none 0 0, .slice none 0 0, .slice none 0 0, .int .i64 0, .int .i64 0, .slice none 0 0, .slice none 0 0, .slice none 0 0, .slice none 0 0], 34⟩, ⟨p0_0, [.int .i64 a2.f0, .int .i64 a2.f1, .int .i64 a2.f2, .int .i64 a2.f3, .int .i64 a2.f4, .int .i64 a2.f5, .int .i64 a2.f6, .int .i64 a2.f7, .slice h1.1 a2.f8.length h1.2, .slice h2.1 a2.f9.length h2.2, .slice h3.1 a2.f10.length h3.2, .int .i64 x1_2, .int .i64 x1_6, .slice q5.1.1 o5.1.length q5.1.2, .slice q5.2.1 o5.2.length q5.2.2, .slice h6.1 a2.f11.f4.length h6.2, .slice h7.1 a2.f12.length h7.2], 34⟩]) (by kernel_rfl) ?_
       refine O.nil (by kernel_rfl) ?_
       refine J.seq (by kernel_rfl) ?_
       refine J.seq (by kernel_rfl) ?_
       rcases condE H with ⟨hc17, H⟩ | ⟨hc17, H⟩
       ·refine J.region (by kernel_rfl) ?_
        refine O.pure 1 [] [0, 5, 6, 13, 16, 17, 122] [] (fr' := [(0, .slice h0.1 a0.length h0.2), (5, .pointer (some ⟨p0_0, 0, none⟩)), (6, .pointer (some ⟨p0_1, 0, none⟩)), (13, .slice p13_6.1 x13_6.1.length p13_6.2), (16, .slice p16_2.1 x16_2.1.length p16_2.2), (17, .int .i64 x16_2.2.1), (122, .bool x16_2.2.2)]) (bx' := [⟨p0_1, [.int .i64 0, .int .i64 0, .int .i64 0, .int .i64 0, .int .i64 0, .int .i64 0, .int .i64 0, .int .i64 0, .slice none 0 0, .slice none 0 0, .slice none 0 0, .int .i64 0, .int .i64 0, .slice none 0 0, .slice none 0 0, .slice none 0 0, .slice none 0 0], 34⟩, ⟨p0_0, [.int .i64 a2.f0, .int .i64 a2.f1, .int .i64 a2.f2, .int .i64 a2.f3, .int .i64 a2.f4, .int .i64 a2.f5, .int .i64 a2.f6, .int .i64 a2.f7, .slice h1.1 a2.f8.length h1.2, .slice h2.1 a2.f9.length h2.2, .slice h3.1 a2.f10.length h3.2, .int .i64 x1_2, .int .i64 x1_6, .slice q5.1.1 o5.1.length q5.1.2, .slice q5.2.1 o5.2.length q5.2.2, .slice h6.1 a2.f11.f4.length h6.2, .slice h7.1 a2.f12.length h7.2], 34⟩]) (by kernel_rfl) ?_
        refine O.q (v := .bool true) (some 123) (Qu.eqv (u := .bool (!x16_2.2.2)) (v := .bool true) (0, 0) [] (by kernel_rfl) (congrArg Value.bool hc17)) (by kernel_rfl) ?_
        refine O.pure 6 [] [5, 6, 13, 16, 129] [] (fr' := [(5, .pointer (some ⟨p0_0, 0, none⟩)), (6, .pointer (some ⟨p0_1, 0, none⟩)), (13, .slice p13_6.1 x13_6.1.length p13_6.2), (16, .slice p16_2.1 x16_2.1.length p16_2.2), (129, .bool true)]) (bx' := [⟨p0_1, [.int .i64 0, .int .i64 0, .int .i64 0, .int .i64 0, .int .i64 0, .int .i64 0, .int .i64 0, .int .i64 0, .slice none 0 0, .slice none 0 0, .slice none 0 0, .int .i64 0, .int .i64 0, .slice none 0 0, .slice none 0 0, .slice none 0 0, .slice none 0 0], 34⟩, ⟨p0_0, [.int .i64 a2.f0, .int .i64 a2.f1, .int .i64 a2.f2, .int .i64 a2.f3, .int .i64 a2.f4, .int .i64 a2.f5, .int .i64 a2.f6, .int .i64 a2.f7, .slice h1.1 a2.f8.length h1.2, .slice h2.1 a2.f9.length h2.2, .slice h3.1 a2.f10.length h3.2, .int .i64 x1_2, .int .i64 x1_6, .slice q5.1.1 o5.1.length q5.1.2, .slice q5.2.1 o5.2.length q5.2.2, .slice h6.1 a2.f11.f4.length h6.2, .slice h7.1 a2.f12.length h7.2], 34⟩]) (by kernel_rfl) ?_
        refine O.nil (by kernel_rfl) ?_
        refine J.cond (o := .tmp 129) true (by kernel_rfl) (by kernel_rfl) ?_
        refine J.seq (by kernel_rfl) ?_
        refine J.region (by kernel_rfl) ?_
        refine O.pure 3 [(0, 0)] [6, 7] [p0_1, 0] (fr' := [(6, .pointer (some ⟨p0_1, 0, none⟩)), (7, .bool false)]) (bx' := [⟨p0_1, [.int .i64 0, .int .i64 0, .int .i64 0, .int .i64 0, .int .i64 0, .int .i64 0, .int .i64 0, .int .i64 0, .slice none 0 0, .slice none 0 0, .slice none 0 0, .int .i64 0, .int .i64 0, .slice none 0 0, .slice none 0 0, .slice none 0 0, .slice none 0 0], 34⟩, ⟨p0_0, [.int .i64 a2.f0, .int .i64 a2.f1, .int .i64 a2.f2, .int .i64 a2.f3, .int .i64 a2.f4, .int .i64 a2.f5, .int .i64 a2.f6, .int .i64 a2.f7, .slice h1.1 a2.f8.length h1.2, .slice h2.1 a2.f9.length h2.2, .slice h3.1 a2.f10.length h3.2, .int .i64 x1_2, .int .i64 x1_6, .slice q5.1.1 o5.1.length q5.1.2, .slice q5.2.1 o5.2.length q5.2.2, .slice h6.1 a2.f11.f4.length h6.2, .slice h7.1 a2.f12.length h7.2], 34⟩]) (by kernel_rfl) ?_
        refine O.nil (by kernel_rfl) ?_
        obtain rfl := Option.some.inj H
        refine J.nilF (Kd.int .i64) ?_
        refine J.nilrow (Kd.int .i64) 2 ?_
        refine J.nilrow Kd.bool 4 ?_
        refine J.nilrow kd77 77 ?_
        refine J.nilrow kd77 77 ?_
        exact J.doneS [(0, 0)] [p0_1, 0] [0, 0, 0] [] [3, 2, 1, 0] ((none, 0), (none, 0), (none, 0), (none, 0), (none, 0), (none, 0), (none, 0)) (vs := [.agg #[.int .i64 0, .int .i64 0, .int .i64 0, .int .i64 0, .int .i64 0, .int .i64 0, .int .i64 0, .int .i64 0, .slice none 0 0, .slice none 0 0, .slice none 0 0, .int .i64 0, .int .i64 0, .slice none 0 0, .slice none 0 0, .slice none 0 0, .slice none 0 0], .bool false]) (by kernel_rfl) (by kernel_rfl) (by kernel_rfl) (by kernel_rfl) (by kernel_rfl) (by decide)
       ·refine J.region (by kernel_rfl) ?_
        refine O.pure 1 [] [0, 5, 6, 13, 16, 17, 122] [] (fr' := [(0, .slice h0.1 a0.length h0.2), (5, .pointer (some ⟨p0_0, 0, none⟩)), (6, .pointer (some ⟨p0_1, 0, none⟩)), (13, .slice p13_6.1 x13_6.1.length p13_6.2), (16, .slice p16_2.1 x16_2.1.length p16_2.2), (17, .int .i64 x16_2.2.1), (122, .bool x16_2.2.2)]) (bx' := [⟨p0_1, [.int .i64 0, .int .i64 0, .int .i64 0, .int .i64 0, .int .i64 0, .int .i64 0, .int .i64 0, .int .i64 0, .slice none 0 0, .slice none 0 0, .slice none 0 0, .int .i64 0, .int .i64 0, .slice none 0 0, .slice none 0 0, .slice none 0 0, .slice none 0 0], 34⟩, ⟨p0_0, [.int .i64 a2.f0, .int .i64 a2.f1, .int .i64 a2.f2, .int .i64 a2.f3, .int .i64 a2.f4, .int .i64 a2.f5, .int .i64 a2.f6, .int .i64 a2.f7, .slice h1.1 a2.f8.length h1.2, .slice h2.1 a2.f9.length h2.2, .slice h3.1 a2.f10.length h3.2, .int .i64 x1_2, .int .i64 x1_6, .slice q5.1.1 o5.1.length q5.1.2, .slice q5.2.1 o5.2.length q5.2.2, .slice h6.1 a2.f11.f4.length h6.2, .slice h7.1 a2.f12.length h7.2], 34⟩]) (by kernel_rfl) ?_
        refine O.q (v := .bool false) (some 123) (Qu.eqv (u := .bool (!x16_2.2.2)) (v := .bool false) (0, 0) [] (by kernel_rfl) (congrArg Value.bool hc17)) (by kernel_rfl) ?_
        refine O.pure 6 [] [5, 6, 13, 16, 129] [] (fr' := [(5, .pointer (some ⟨p0_0, 0, none⟩)), (6, .pointer (some ⟨p0_1, 0, none⟩)), (13, .slice p13_6.1 x13_6.1.length p13_6.2), (16, .slice p16_2.1 x16_2.1.length p16_2.2), (129, .bool (x16_2.2.1 != (a0.length : Int)))]) (bx' := [⟨p0_1, [.int .i64 0, .int .i64 0, .int .i64 0, .int .i64 0, .int .i64 0, .int .i64 0, .int .i64 0, .int .i64 0, .slice none 0 0, .slice none 0 0, .slice none 0 0, .int .i64 0, .int .i64 0, .slice none 0 0, .slice none 0 0, .slice none 0 0, .slice none 0 0], 34⟩, ⟨p0_0, [.int .i64 a2.f0, .int .i64 a2.f1, .int .i64 a2.f2, .int .i64 a2.f3, .int .i64 a2.f4, .int .i64 a2.f5, .int .i64 a2.f6, .int .i64 a2.f7, .slice h1.1 a2.f8.length h1.2, .slice h2.1 a2.f9.length h2.2, .slice h3.1 a2.f10.length h3.2, .int .i64 x1_2, .int .i64 x1_6, .slice q5.1.1 o5.1.length q5.1.2, .slice q5.2.1 o5.2.length q5.2.2, .slice h6.1 a2.f11.f4.length h6.2, .slice h7.1 a2.f12.length h7.2], 34⟩]) (by kernel_rfl) ?_
        refine O.nil (by kernel_rfl) ?_
        rcases condE H with ⟨hc18, H⟩ | ⟨hc18, H⟩
        ·refine J.condT (x := .tmp 129) (t := (x16_2.2.1 != (a0.length : Int))) (by kernel_rfl) (by kernel_rfl) hc18 ?_
         refine J.seq (by kernel_rfl) ?_
         refine J.region (by kernel_rfl) ?_
         refine O.pure 3 [(0, 0)] [6, 7] [p0_1, 0] (fr' := [(6, .pointer (some ⟨p0_1, 0, none⟩)), (7, .bool false)]) (bx' := [⟨p0_1, [.int .i64 0, .int .i64 0, .int .i64 0, .int .i64 0, .int .i64 0, .int .i64 0, .int .i64 0, .int .i64 0, .slice none 0 0, .slice none 0 0, .slice none 0 0, .int .i64 0, .int .i64 0, .slice none 0 0, .slice none 0 0, .slice none 0 0, .slice none 0 0], 34⟩, ⟨p0_0, [.int .i64 a2.f0, .int .i64 a2.f1, .int .i64 a2.f2, .int .i64 a2.f3, .int .i64 a2.f4, .int .i64 a2.f5, .int .i64 a2.f6, .int .i64 a2.f7, .slice h1.1 a2.f8.length h1.2, .slice h2.1 a2.f9.length h2.2, .slice h3.1 a2.f10.length h3.2, .int .i64 x1_2, .int .i64 x1_6, .slice q5.1.1 o5.1.length q5.1.2, .slice q5.2.1 o5.2.length q5.2.2, .slice h6.1 a2.f11.f4.length h6.2, .slice h7.1 a2.f12.length h7.2], 34⟩]) (by kernel_rfl) ?_
         refine O.nil (by kernel_rfl) ?_
         obtain rfl := Option.some.inj H
         refine J.nilF (Kd.int .i64) ?_
         refine J.nilrow (Kd.int .i64) 2 ?_
         refine J.nilrow Kd.bool 4 ?_
         refine J.nilrow kd77 77 ?_
         refine J.nilrow kd77 77 ?_
         exact J.doneS [(0, 0)] [p0_1, 0] [0, 0, 0] [] [3, 2, 1, 0] ((none, 0), (none, 0), (none, 0), (none, 0), (none, 0), (none, 0), (none, 0)) (vs := [.agg #[.int .i64 0, .int .i64 0, .int .i64 0, .int .i64 0, .int .i64 0, .int .i64 0, .int .i64 0, .int .i64 0, .slice none 0 0, .slice none 0 0, .slice none 0 0, .int .i64 0, .int .i64 0, .slice none 0 0, .slice none 0 0, .slice none 0 0, .slice none 0 0], .bool false]) (by kernel_rfl) (by kernel_rfl) (by kernel_rfl) (by kernel_rfl) (by kernel_rfl) (by decide)
        ·refine J.condF (x := .tmp 129) (t := (x16_2.2.1 != (a0.length : Int))) (by kernel_rfl) (by kernel_rfl) hc18 ?_
         refine J.skip (by kernel_rfl) ?_
         refine J.seq (by kernel_rfl) ?_
         refine J.region (by kernel_rfl) ?_
         refine O.pure 4 [(1, 15)] [5, 6, 16] [p0_0, 15] (fr' := [(5, .pointer (some ⟨p0_0, 0, none⟩)), (6, .pointer (some ⟨p0_1, 0, none⟩)), (16, .slice p16_2.1 x16_2.1.length p16_2.2)]) (bx' := [⟨p0_1, [.int .i64 0, .int .i64 0, .int .i64 0, .int .i64 0, .int .i64 0, .int .i64 0, .int .i64 0, .int .i64 0, .slice none 0 0, .slice none 0 0, .slice none 0 0, .int .i64 0, .int .i64 0, .slice none 0 0, .slice none 0 0, .slice none 0 0, .slice none 0 0], 34⟩, ⟨p0_0, [.int .i64 a2.f0, .int .i64 a2.f1, .int .i64 a2.f2, .int .i64 a2.f3, .int .i64 a2.f4, .int .i64 a2.f5, .int .i64 a2.f6, .int .i64 a2.f7, .slice h1.1 a2.f8.length h1.2, .slice h2.1 a2.f9.length h2.2, .slice h3.1 a2.f10.length h3.2, .int .i64 x1_2, .int .i64 x1_6, .slice q5.1.1 o5.1.length q5.1.2, .slice q5.2.1 o5.2.length q5.2.2, .slice p13_6.1 x13_6.1.length p13_6.2, .slice h7.1 a2.f12.length h7.2], 34⟩]) (by kernel_rfl) ?_
         refine O.nil (by kernel_rfl) ?_
         refine J.seq (by kernel_rfl) ?_
         refine J.region (by kernel_rfl) ?_
         refine O.pure 3 [(1, 16)] [5, 6] [p0_0, 16] (fr' := [(5, .pointer (some ⟨p0_0, 0, none⟩)), (6, .pointer (some ⟨p0_1, 0, none⟩))]) (bx' := [⟨p0_1, [.int .i64 0, .int .i64 0, .int .i64 0, .int .i64 0, .int .i64 0, .int .i64 0, .int .i64 0, .int .i64 0, .slice none 0 0, .slice none 0 0, .slice none 0 0, .int .i64 0, .int .i64 0, .slice none 0 0, .slice none 0 0, .slice none 0 0, .slice none 0 0], 34⟩, ⟨p0_0, [.int .i64 a2.f0, .int .i64 a2.f1, .int .i64 a2.f2, .int .i64 a2.f3, .int .i64 a2.f4, .int .i64 a2.f5, .int .i64 a2.f6, .int .i64 a2.f7, .slice h1.1 a2.f8.length h1.2, .slice h2.1 a2.f9.length h2.2, .slice h3.1 a2.f10.length h3.2, .int .i64 x1_2, .int .i64 x1_6, .slice q5.1.1 o5.1.length q5.1.2, .slice q5.2.1 o5.2.length q5.2.2, .slice p13_6.1 x13_6.1.length p13_6.2, .slice p16_2.1 x16_2.1.length p16_2.2], 34⟩]) (by kernel_rfl) ?_
         refine O.nil (by kernel_rfl) ?_
         refine J.seq (by kernel_rfl) ?_
         refine J.region (by kernel_rfl) ?_
         refine O.pure 3 [(1, 0), (0, 0)] [6, 7] [p0_0, 0, p0_1, 0] (fr' := [(6, .pointer (some ⟨p0_1, 0, none⟩)), (7, .bool true)]) (bx' := [⟨p0_1, [.int .i64 a2.f0, .int .i64 a2.f1, .int .i64 a2.f2, .int .i64 a2.f3, .int .i64 a2.f4, .int .i64 a2.f5, .int .i64 a2.f6, .int .i64 a2.f7, .slice h1.1 a2.f8.length h1.2, .slice h2.1 a2.f9.length h2.2, .slice h3.1 a2.f10.length h3.2, .int .i64 x1_2, .int .i64 x1_6, .slice q5.1.1 o5.1.length q5.1.2, .slice q5.2.1 o5.2.length q5.2.2, .slice p13_6.1 x13_6.1.length p13_6.2, .slice p16_2.1 x16_2.1.length p16_2.2], 34⟩, ⟨p0_0, [.int .i64 a2.f0, .int .i64 a2.f1, .int .i64 a2.f2, .int .i64 a2.f3, .int .i64 a2.f4, .int .i64 a2.f5, .int .i64 a2.f6, .int .i64 a2.f7, .slice h1.1 a2.f8.length h1.2, .slice h2.1 a2.f9.length h2.2, .slice h3.1 a2.f10.length h3.2, .int .i64 x1_2, .int .i64 x1_6, .slice q5.1.1 o5.1.length q5.1.2, .slice q5.2.1 o5.2.length q5.2.2, .slice p13_6.1 x13_6.1.length p13_6.2, .slice p16_2.1 x16_2.1.length p16_2.2], 34⟩]) (by kernel_rfl) ?_
         refine O.nil (by kernel_rfl) ?_
         obtain rfl := Option.some.inj H
         exact J.doneS [(0, 0)] [p0_1, 0] [1, 2, 3] [] [2, 3, 1, 0] (h1, h2, h3, q5.1, q5.2, p13_6, p16_2) (vs := [.agg #[.int .i64 a2.f0, .int .i64 a2.f1, .int .i64 a2.f2, .int .i64 a2.f3, .int .i64 a2.f4, .int .i64 a2.f5, .int .i64 a2.f6, .int .i64 a2.f7, .slice h1.1 a2.f8.length h1.2, .slice h2.1 a2.f9.length h2.2, .slice h3.1 a2.f10.length h3.2, .int .i64 x1_2, .int .i64 x1_6, .slice q5.1.1 o5.1.length q5.1.2, .slice q5.2.1 o5.2.length q5.2.2, .slice p13_6.1 x13_6.1.length p13_6.2, .slice p16_2.1 x16_2.1.length p16_2.2], .bool true]) (by kernel_rfl) (by kernel_rfl) (by kernel_rfl) (by kernel_rfl) (by kernel_rfl) (by decide)
     ·refine J.block (id := 0) (by kernel_rfl) ?_
      refine J.loopI (σ := Int × (List Int) × (List Bool)) (γ := Hd × Hd) (f := fun m_ s_ => haywainref15_body.l19 K a0 a1 x1_10 m_ s_) (fun s19 g19 => [(0, .slice h0.1 a0.length h0.2), (1, .int .i64 a1), (5, .pointer (some ⟨p0_0, 0, none⟩)), (6, .pointer (some ⟨p0_1, 0, none⟩)), (10, .int .i64 x1_10), (11, .int .i64 s19.1)]) (fun s19 g19 => St X w (keys [] [mkRow (Kd.int .i64) 2 (.slice h4.1 a2.f11.f2.length h4.2) a2.f11.f2, mkRow Kd.bool 4 (.slice h5.1 a2.f11.f3.length h5.2) a2.f11.f3]) [⟨p0_1, [.int .i64 0, .int .i64 0, .int .i64 0, .int .i64 0, .int .i64 0, .int .i64 0, .int .i64 0, .int .i64 0, .slice none 0 0, .slice none 0 0, .slice none 0 0, .int .i64 0, .int .i64 0, .slice none 0 0, .slice none 0 0, .slice none 0 0, .slice none 0 0], 34⟩, ⟨p0_0, [.int .i64 a2.f0, .int .i64 a2.f1, .int .i64 a2.f2, .int .i64 a2.f3, .int .i64 a2.f4, .int .i64 a2.f5, .int .i64 a2.f6, .int .i64 a2.f7, .slice h1.1 a2.f8.length h1.2, .slice h2.1 a2.f9.length h2.2, .slice h3.1 a2.f10.length h3.2, .int .i64 x1_2, .int .i64 x1_6, .slice g19.1.1 s19.2.1.length g19.1.2, .slice g19.2.1 s19.2.2.length g19.2.2, .slice h6.1 a2.f11.f4.length h6.2, .slice h7.1 a2.f12.length h7.2], 34⟩] [mkRow (Kd.int .i64) 2 (.slice g19.1.1 s19.2.1.length g19.1.2) s19.2.1, mkRow Kd.bool 4 (.slice g19.2.1 s19.2.2.length g19.2.2) s19.2.2] [] [Rd (Kd.int .i64) h0.1 h0.2 a0, Rd (Kd.int .i64) h1.1 h1.2 a2.f8, Rd (Kd.int .i64) h2.1 h2.2 a2.f9, Rd (Kd.int .i64) h3.1 h3.2 a2.f10, Rd kd77 h6.1 h6.2 a2.f11.f4, Rd kd77 h7.1 h7.2 a2.f12]) K (0, a2.f11.f2, a2.f11.f3) (h4, h5) (by kernel_rfl) H (fun _ => rfl) (fun m_ s19 H ih19 g19 => ?_) (fun h_ => ?_)
      ·unfold haywainref15_body.l19 at H
       refine J.seq (by kernel_rfl) ?_
       refine J.seq (by kernel_rfl) ?_
       refine J.region (by kernel_rfl) ?_
       refine O.pure 3 [] [0, 1, 5, 6, 10, 11, 59] [] (fr' := [(0, .slice h0.1 a0.length h0.2), (1, .int .i64 a1), (5, .pointer (some ⟨p0_0, 0, none⟩)), (6, .pointer (some ⟨p0_1, 0, none⟩)), (10, .int .i64 x1_10), (11, .int .i64 s19.1), (59, .bool (decide (s19.1 < x1_10)))]) (bx' := [⟨p0_1, [.int .i64 0, .int .i64 0, .int .i64 0, .int .i64 0, .int .i64 0, .int .i64 0, .int .i64 0, .int .i64 0, .slice none 0 0, .slice none 0 0, .slice none 0 0, .int .i64 0, .int .i64 0, .slice none 0 0, .slice none 0 0, .slice none 0 0, .slice none 0 0], 34⟩, ⟨p0_0, [.int .i64 a2.f0, .int .i64 a2.f1, .int .i64 a2.f2, .int .i64 a2.f3, .int .i64 a2.f4, .int .i64 a2.f5, .int .i64 a2.f6, .int .i64 a2.f7, .slice h1.1 a2.f8.length h1.2, .slice h2.1 a2.f9.length h2.2, .slice h3.1 a2.f10.length h3.2, .int .i64 x1_2, .int .i64 x1_6, .slice g19.1.1 s19.2.1.length g19.1.2, .slice g19.2.1 s19.2.2.length g19.2.2, .slice h6.1 a2.f11.f4.length h6.2, .slice h7.1 a2.f12.length h7.2], 34⟩]) (by kernel_rfl) ?_
       refine O.nil (by kernel_rfl) ?_
       rcases condE H with ⟨hc26, H⟩ | ⟨hc26, H⟩
       ·refine J.condT (x := .tmp 59) (t := (decide (s19.1 < x1_10))) (by kernel_rfl) (by kernel_rfl) hc26 ?_
        refine J.skip (by kernel_rfl) ?_
        refine J.seq (by kernel_rfl) ?_
        refine J.block (id := 1) (by kernel_rfl) ?_
        refine J.seq (by kernel_rfl) ?_
        obtain ⟨x8_8, hx8_8, H⟩ := bindE H
        obtain ⟨hx8_8a, hx8_8⟩ := idxE hx8_8
        obtain ⟨y8_11, hy8_11, H⟩ := bindE H
        have hy8_11a := (appE hy8_11).1
        refine J.open (d := (Kd.int .i64)) (h := h0) (i := (IntKind.wrap .i64 ((IntKind.wrap .i64 (a1 + 3)) + s19.1))) 0 rfl hx8_8 (Lay.int _ _) (fun p8_8 hp8_8A => ?_)
        refine J.drawS (by kernel_rfl) [(0, some 62, .pointer (some ⟨p0_0, 11, none⟩)), (1, some 63, .pointer (some ⟨p0_0, 13, none⟩)), (2, some 64, .slice g19.1.1 s19.2.1.length g19.1.2), (3, some 65, .slice h0.1 a0.length h0.2), (4, some 66, .int .i64 a1), (5, some 67, .int .i64 (IntKind.wrap .i64 (a1 + 3))), (6, some 68, .int .i64 s19.1), (7, some 69, .int .i64 (IntKind.wrap .i64 ((IntKind.wrap .i64 (a1 + 3)) + s19.1))), (9, some 71, .int .i64 x8_8), (8, some 70, .pointer (some ⟨p8_8.1, p8_8.2.1 + (IntKind.wrap .i64 ((IntKind.wrap .i64 (a1 + 3)) + s19.1)).toNat * 1, none⟩))] ([0, 1, 2, 3, 4, 5, 6, 7, 9] ++ [8]) (by kernel_rfl) ?_
        refine D.mid (cs := [10]) [0, 1, 2, 3, 4, 5, 6, 7, 9] [8] [(1, 13), (2, 0)] [p0_0, 13, p8_8.1, p8_8.2.1 + (IntKind.wrap .i64 ((IntKind.wrap .i64 (a1 + 3)) + s19.1)).toNat * 1] (by kernel_rfl) (by kernel_rfl) (⟨QuAt.mk (v := .pointer (some ⟨p8_8.1, p8_8.2.1 + (IntKind.wrap .i64 ((IntKind.wrap .i64 (a1 + 3)) + s19.1)).toNat * 1, none⟩)) (some 70) (by kernel_rfl) (by kernel_rfl) (Qu.idx (t := 23) (x := .tmp 65) (y := .tmp 69) (c := h0.2) (kk := .i64) (sz := 1) (by kernel_rfl) (by kernel_rfl) (by kernel_rfl) (by kernel_rfl) hx8_8a (idx_lt hx8_8) hp8_8A), trivial⟩) (by kernel_rfl) ⟨?_, trivial⟩
        refine EvStep.mk (some 72) (new := fun p8_10 => []) ([0, 1, 2, 3, 4, 5, 6, 7] ++ [8]) (by kernel_rfl) (Ev.lit (t := 23) (len := 1) (parts := #[(0, .tmp 71)]) (ps := [(0, .int .i64 x8_8)]) (cs := [.int .i64 x8_8]) (e := 2) (Kd.int .i64) ([x8_8] : List Int) (by kernel_rfl) (by kernel_rfl) (by kernel_rfl) (by kernel_rfl) (by kernel_rfl) (by decide) (fun w' hφ => (Els.cons (c := [.int .i64 x8_8]) (rfl) (Els.nil _ _ _)))) (fun p8_10 => by kernel_rfl) (fun p8_10 => ?_)
        refine D.mid (cs := [11]) [0, 1, 2, 3, 4, 5, 6, 7] [8] [(1, 13)] [p0_0, 13] (by kernel_rfl) (by kernel_rfl) (⟨QuAt.mk (v := .pointer (some ⟨p8_8.1, p8_8.2.1 + (IntKind.wrap .i64 ((IntKind.wrap .i64 (a1 + 3)) + s19.1)).toNat * 1, none⟩)) (some 70) (by kernel_rfl) (by kernel_rfl) (Qu.idx (t := 23) (x := .tmp 65) (y := .tmp 69) (c := h0.2) (kk := .i64) (sz := 1) (by kernel_rfl) (by kernel_rfl) (by kernel_rfl) (by kernel_rfl) hx8_8a (idx_lt hx8_8) hp8_8A), trivial⟩) (by kernel_rfl) ⟨?_, trivial⟩
        refine EvStep.mk (some 73) (new := fun p8_11 => [(12, some 74, .pointer (some ⟨p0_0, 11, none⟩)), (13, some 75, .pointer (some ⟨p0_0, 13, none⟩))]) ([0, 1, 3, 4, 5, 6, 7, 12, 13] ++ [8]) (by kernel_rfl) (Ev.appLit (x := .tmp 64) (y := .tmp 72) (t := 23) (bytes := 8) (by kernel_rfl) (by kernel_rfl) (by kernel_rfl) (by kernel_rfl) (by kernel_rfl) (by decide) hy8_11a) (fun p8_11 => by kernel_rfl) (fun p8_11 => ?_)
        refine D.mid (cs := [14]) [0, 1, 3, 4, 5, 6, 7, 12, 13] [8] [] [] (by kernel_rfl) (by kernel_rfl) (⟨QuAt.mk (v := .pointer (some ⟨p8_8.1, p8_8.2.1 + (IntKind.wrap .i64 ((IntKind.wrap .i64 (a1 + 3)) + s19.1)).toNat * 1, none⟩)) (some 70) (by kernel_rfl) (by kernel_rfl) (Qu.idx (t := 23) (x := .tmp 65) (y := .tmp 69) (c := h0.2) (kk := .i64) (sz := 1) (by kernel_rfl) (by kernel_rfl) (by kernel_rfl) (by kernel_rfl) hx8_8a (idx_lt hx8_8) hp8_8A), trivial⟩) (by kernel_rfl) ⟨?_, trivial⟩
        refine EvStep.mk none (new := fun _ => []) ([12] ++ []) (by kernel_rfl) (Ev.store (kk := 1) (cs := [.int .i64 a2.f0, .int .i64 a2.f1, .int .i64 a2.f2, .int .i64 a2.f3, .int .i64 a2.f4, .int .i64 a2.f5, .int .i64 a2.f6, .int .i64 a2.f7, .slice h1.1 a2.f8.length h1.2, .slice h2.1 a2.f9.length h2.2, .slice h3.1 a2.f10.length h3.2, .int .i64 x1_2, .int .i64 x1_6, .slice p8_11.1 (s19.2.1 ++ ([x8_8] : List Int)).length p8_11.2, .slice g19.2.1 s19.2.2.length g19.2.2, .slice h6.1 a2.f11.f4.length h6.2, .slice h7.1 a2.f12.length h7.2]) (1, 13) [p0_0, 13] (by kernel_rfl)) (fun _ => by kernel_rfl) (fun _ => ?_)
        refine D.fin (fr' := [(0, .slice h0.1 a0.length h0.2), (1, .int .i64 a1), (5, .pointer (some ⟨p0_0, 0, none⟩)), (6, .pointer (some ⟨p0_1, 0, none⟩)), (10, .int .i64 x1_10), (11, .int .i64 s19.1)]) [12] [] [] [] [0, 1, 5, 6, 10, 11] (by kernel_rfl) (by kernel_rfl) trivial (by kernel_rfl) ?_
        refine J.seq (by kernel_rfl) ?_
        obtain ⟨x9_7, hx9_7, H⟩ := bindE H
        obtain ⟨hx9_7a, hx9_7⟩ := idxE hx9_7
        refine J.region (by kernel_rfl) ?_
        refine O.pure 7 [] [0, 1, 5, 6, 10, 11, 76, 82] [] (fr' := [(0, .slice h0.1 a0.length h0.2), (1, .int .i64 a1), (5, .pointer (some ⟨p0_0, 0, none⟩)), (6, .pointer (some ⟨p0_1, 0, none⟩)), (10, .int .i64 x1_10), (11, .int .i64 s19.1), (76, .slice h0.1 a0.length h0.2), (82, .int .i64 (IntKind.wrap .i64 ((IntKind.wrap .i64 ((IntKind.wrap .i64 (a1 + 3)) + x1_10)) + s19.1)))]) (bx' := [⟨p0_1, [.int .i64 0, .int .i64 0, .int .i64 0, .int .i64 0, .int .i64 0, .int .i64 0, .int .i64 0, .int .i64 0, .slice none 0 0, .slice none 0 0, .slice none 0 0, .int .i64 0, .int .i64 0, .slice none 0 0, .slice none 0 0, .slice none 0 0, .slice none 0 0], 34⟩, ⟨p0_0, [.int .i64 a2.f0, .int .i64 a2.f1, .int .i64 a2.f2, .int .i64 a2.f3, .int .i64 a2.f4, .int .i64 a2.f5, .int .i64 a2.f6, .int .i64 a2.f7, .slice h1.1 a2.f8.length h1.2, .slice h2.1 a2.f9.length h2.2, .slice h3.1 a2.f10.length h3.2, .int .i64 x1_2, .int .i64 x1_6, .slice p8_11.1 (s19.2.1 ++ ([x8_8] : List Int)).length p8_11.2, .slice g19.2.1 s19.2.2.length g19.2.2, .slice h6.1 a2.f11.f4.length h6.2, .slice h7.1 a2.f12.length h7.2], 34⟩]) (by kernel_rfl) ?_
        refine O.open (d := (Kd.int .i64)) (h := h0) (i := (IntKind.wrap .i64 ((IntKind.wrap .i64 ((IntKind.wrap .i64 (a1 + 3)) + x1_10)) + s19.1))) 0 rfl hx9_7 (Lay.int _ _) (fun p9_7 hp9_7A => ?_)
        refine O.q (v := .pointer (some ⟨p9_7.1, p9_7.2.1 + (IntKind.wrap .i64 ((IntKind.wrap .i64 ((IntKind.wrap .i64 (a1 + 3)) + x1_10)) + s19.1)).toNat * 1, none⟩)) (some 83) (Qu.idx (t := 23) (x := .tmp 76) (y := .tmp 82) (c := h0.2) (kk := .i64) (sz := 1) (by kernel_rfl) (by kernel_rfl) (by kernel_rfl) (by kernel_rfl) hx9_7a (idx_lt hx9_7) hp9_7A) (by kernel_rfl) ?_
        refine O.pure 2 [(2, 0)] [0, 1, 5, 6, 10, 11, 12] [p9_7.1, p9_7.2.1 + (IntKind.wrap .i64 ((IntKind.wrap .i64 ((IntKind.wrap .i64 (a1 + 3)) + x1_10)) + s19.1)).toNat * 1] (fr' := [(0, .slice h0.1 a0.length h0.2), (1, .int .i64 a1), (5, .pointer (some ⟨p0_0, 0, none⟩)), (6, .pointer (some ⟨p0_1, 0, none⟩)), (10, .int .i64 x1_10), (11, .int .i64 s19.1), (12, .int .i64 x9_7)]) (bx' := [⟨p0_1, [.int .i64 0, .int .i64 0, .int .i64 0, .int .i64 0, .int .i64 0, .int .i64 0, .int .i64 0, .int .i64 0, .slice none 0 0, .slice none 0 0, .slice none 0 0, .int .i64 0, .int .i64 0, .slice none 0 0, .slice none 0 0, .slice none 0 0, .slice none 0 0], 34⟩, ⟨p0_0, [.int .i64 a2.f0, .int .i64 a2.f1, .int .i64 a2.f2, .int .i64 a2.f3, .int .i64 a2.f4, .int .i64 a2.f5, .int .i64 a2.f6, .int .i64 a2.f7, .slice h1.1 a2.f8.length h1.2, .slice h2.1 a2.f9.length h2.2, .slice h3.1 a2.f10.length h3.2, .int .i64 x1_2, .int .i64 x1_6, .slice p8_11.1 (s19.2.1 ++ ([x8_8] : List Int)).length p8_11.2, .slice g19.2.1 s19.2.2.length g19.2.2, .slice h6.1 a2.f11.f4.length h6.2, .slice h7.1 a2.f12.length h7.2], 34⟩]) (by kernel_rfl) ?_
        refine O.nil (by kernel_rfl) ?_
        refine J.seq (by kernel_rfl) ?_
        refine J.seq (by kernel_rfl) ?_
        rcases condE H with ⟨hc27, H⟩ | ⟨hc27, H⟩
        ·refine J.region (by kernel_rfl) ?_
         refine O.pure 1 [] [0, 1, 5, 6, 10, 11, 12, 85] [] (fr' := [(0, .slice h0.1 a0.length h0.2), (1, .int .i64 a1), (5, .pointer (some ⟨p0_0, 0, none⟩)), (6, .pointer (some ⟨p0_1, 0, none⟩)), (10, .int .i64 x1_10), (11, .int .i64 s19.1), (12, .int .i64 x9_7), (85, .int .i64 x9_7)]) (bx' := [⟨p0_1, [.int .i64 0, .int .i64 0, .int .i64 0, .int .i64 0, .int .i64 0, .int .i64 0, .int .i64 0, .int .i64 0, .slice none 0 0, .slice none 0 0, .slice none 0 0, .int .i64 0, .int .i64 0, .slice none 0 0, .slice none 0 0, .slice none 0 0, .slice none 0 0], 34⟩, ⟨p0_0, [.int .i64 a2.f0, .int .i64 a2.f1, .int .i64 a2.f2, .int .i64 a2.f3, .int .i64 a2.f4, .int .i64 a2.f5, .int .i64 a2.f6, .int .i64 a2.f7, .slice h1.1 a2.f8.length h1.2, .slice h2.1 a2.f9.length h2.2, .slice h3.1 a2.f10.length h3.2, .int .i64 x1_2, .int .i64 x1_6, .slice p8_11.1 (s19.2.1 ++ ([x8_8] : List Int)).length p8_11.2, .slice g19.2.1 s19.2.2.length g19.2.2, .slice h6.1 a2.f11.f4.length h6.2, .slice h7.1 a2.f12.length h7.2], 34⟩]) (by kernel_rfl) ?_
         refine O.q (v := .bool true) (some 86) (Qu.eqv (u := .bool (x9_7 != 0)) (v := .bool true) (0, 0) [] (by kernel_rfl) (congrArg Value.bool hc27)) (by kernel_rfl) ?_
         refine O.pure 4 [] [0, 1, 5, 6, 10, 11, 12, 88, 89, 90] [] (fr' := [(0, .slice h0.1 a0.length h0.2), (1, .int .i64 a1), (5, .pointer (some ⟨p0_0, 0, none⟩)), (6, .pointer (some ⟨p0_1, 0, none⟩)), (10, .int .i64 x1_10), (11, .int .i64 s19.1), (12, .int .i64 x9_7), (88, .int .i64 x9_7), (89, .bool (x9_7 != 1)), (90, .bool (x9_7 != 1))]) (bx' := [⟨p0_1, [.int .i64 0, .int .i64 0, .int .i64 0, .int .i64 0, .int .i64 0, .int .i64 0, .int .i64 0, .int .i64 0, .slice none 0 0, .slice none 0 0, .slice none 0 0, .int .i64 0, .int .i64 0, .slice none 0 0, .slice none 0 0, .slice none 0 0, .slice none 0 0], 34⟩, ⟨p0_0, [.int .i64 a2.f0, .int .i64 a2.f1, .int .i64 a2.f2, .int .i64 a2.f3, .int .i64 a2.f4, .int .i64 a2.f5, .int .i64 a2.f6, .int .i64 a2.f7, .slice h1.1 a2.f8.length h1.2, .slice h2.1 a2.f9.length h2.2, .slice h3.1 a2.f10.length h3.2, .int .i64 x1_2, .int .i64 x1_6, .slice p8_11.1 (s19.2.1 ++ ([x8_8] : List Int)).length p8_11.2, .slice g19.2.1 s19.2.2.length g19.2.2, .slice h6.1 a2.f11.f4.length h6.2, .slice h7.1 a2.f12.length h7.2], 34⟩]) (by kernel_rfl) ?_
         refine O.nil (by kernel_rfl) ?_
         rcases condE H with ⟨hc28, H⟩ | ⟨hc28, H⟩
         ·refine J.condT (x := .tmp 90) (t := (x9_7 != 1)) (by kernel_rfl) (by kernel_rfl) hc28 ?_
          refine J.seq (by kernel_rfl) ?_
          refine J.region (by kernel_rfl) ?_
          refine O.pure 3 [(0, 0)] [6, 7] [p0_1, 0] (fr' := [(6, .pointer (some ⟨p0_1, 0, none⟩)), (7, .bool false)]) (bx' := [⟨p0_1, [.int .i64 0, .int .i64 0, .int .i64 0, .int .i64 0, .int .i64 0, .int .i64 0, .int .i64 0, .int .i64 0, .slice none 0 0, .slice none 0 0, .slice none 0 0, .int .i64 0, .int .i64 0, .slice none 0 0, .slice none 0 0, .slice none 0 0, .slice none 0 0], 34⟩, ⟨p0_0, [.int .i64 a2.f0, .int .i64 a2.f1, .int .i64 a2.f2, .int .i64 a2.f3, .int .i64 a2.f4, .int .i64 a2.f5, .int .i64 a2.f6, .int .i64 a2.f7, .slice h1.1 a2.f8.length h1.2, .slice h2.1 a2.f9.length h2.2, .slice h3.1 a2.f10.length h3.2, .int .i64 x1_2, .int .i64 x1_6, .slice p8_11.1 (s19.2.1 ++ ([x8_8] : List Int)).length p8_11.2, .slice g19.2.1 s19.2.2.length g19.2.2, .slice h6.1 a2.f11.f4.length h6.2, .slice h7.1 a2.f12.length h7.2], 34⟩]) (by kernel_rfl) ?_
          refine O.nil (by kernel_rfl) ?_
          obtain rfl := Option.some.inj H
          obtain rfl := hj5.2 _ rfl
          refine J.nilF (Kd.int .i64) ?_
          refine J.nilrow (Kd.int .i64) 2 ?_
          refine J.nilrow Kd.bool 4 ?_
          refine J.nilrow kd77 77 ?_
          refine J.nilrow kd77 77 ?_
          exact J.doneS [(0, 0)] [p0_1, 0] [0, 0, 0] [] [3, 2, 1, 0] ((none, 0), (none, 0), (none, 0), (none, 0), (none, 0), (none, 0), (none, 0)) (vs := [.agg #[.int .i64 0, .int .i64 0, .int .i64 0, .int .i64 0, .int .i64 0, .int .i64 0, .int .i64 0, .int .i64 0, .slice none 0 0, .slice none 0 0, .slice none 0 0, .int .i64 0, .int .i64 0, .slice none 0 0, .slice none 0 0, .slice none 0 0, .slice none 0 0], .bool false]) (by kernel_rfl) (by kernel_rfl) (by kernel_rfl) (by kernel_rfl) (by kernel_rfl) (by decide)
         ·refine J.condF (x := .tmp 90) (t := (x9_7 != 1)) (by kernel_rfl) (by kernel_rfl) hc28 ?_
          refine J.skip (by kernel_rfl) ?_
          obtain ⟨y12_6, hy12_6, H⟩ := bindE H
          have hy12_6a := (appE hy12_6).1
          refine J.region (by kernel_rfl) ?_
          refine O.pure 5 [(1, 14)] [0, 1, 5, 6, 10, 11, 88, 89, 94, 96] [p0_0, 14] (fr' := [(0, .slice h0.1 a0.length h0.2), (1, .int .i64 a1), (5, .pointer (some ⟨p0_0, 0, none⟩)), (6, .pointer (some ⟨p0_1, 0, none⟩)), (10, .int .i64 x1_10), (11, .int .i64 s19.1), (88, .int .i64 x9_7), (89, .bool (x9_7 != 1)), (94, .slice g19.2.1 s19.2.2.length g19.2.2), (96, .bool (x9_7 == 1))]) (bx' := [⟨p0_1, [.int .i64 0, .int .i64 0, .int .i64 0, .int .i64 0, .int .i64 0, .int .i64 0, .int .i64 0, .int .i64 0, .slice none 0 0, .slice none 0 0, .slice none 0 0, .int .i64 0, .int .i64 0, .slice none 0 0, .slice none 0 0, .slice none 0 0, .slice none 0 0], 34⟩, ⟨p0_0, [.int .i64 a2.f0, .int .i64 a2.f1, .int .i64 a2.f2, .int .i64 a2.f3, .int .i64 a2.f4, .int .i64 a2.f5, .int .i64 a2.f6, .int .i64 a2.f7, .slice h1.1 a2.f8.length h1.2, .slice h2.1 a2.f9.length h2.2, .slice h3.1 a2.f10.length h3.2, .int .i64 x1_2, .int .i64 x1_6, .slice p8_11.1 (s19.2.1 ++ ([x8_8] : List Int)).length p8_11.2, .slice g19.2.1 s19.2.2.length g19.2.2, .slice h6.1 a2.f11.f4.length h6.2, .slice h7.1 a2.f12.length h7.2], 34⟩]) (by kernel_rfl) ?_
          refine O.e (some 97) (Ev.mono (fun w hS => hS.rowsel [1, 0] rfl (by decide)) (Ev.lit (t := 24) (len := 1) (parts := #[(0, .tmp 96)]) (ps := [(0, .bool (x9_7 == 1))]) (cs := [.bool (x9_7 == 1)]) (e := 4) Kd.bool ([(x9_7 == 1)] : List Bool) (by kernel_rfl) (by kernel_rfl) (by kernel_rfl) (by kernel_rfl) (by kernel_rfl) (by decide) (fun w' hφ => (Els.cons (c := [.bool (x9_7 == 1)]) (rfl) (Els.nil _ _ _))))) (by kernel_rfl) (fun p12_5 => ?_)
          refine O.e (some 98) (Ev.appLit (x := .tmp 94) (y := .tmp 97) (t := 24) (bytes := 1) (by kernel_rfl) (by kernel_rfl) (by kernel_rfl) (by kernel_rfl) (by kernel_rfl) (by decide) hy12_6a) (by kernel_rfl) (fun p12_6 => ?_)
          refine O.pure 3 [(1, 14)] [0, 1, 5, 6, 10, 11, 88, 89] [p0_0, 14] (fr' := [(0, .slice h0.1 a0.length h0.2), (1, .int .i64 a1), (5, .pointer (some ⟨p0_0, 0, none⟩)), (6, .pointer (some ⟨p0_1, 0, none⟩)), (10, .int .i64 x1_10), (11, .int .i64 s19.1), (88, .int .i64 x9_7), (89, .bool (x9_7 != 1))]) (bx' := [⟨p0_1, [.int .i64 0, .int .i64 0, .int .i64 0, .int .i64 0, .int .i64 0, .int .i64 0, .int .i64 0, .int .i64 0, .slice none 0 0, .slice none 0 0, .slice none 0 0, .int .i64 0, .int .i64 0, .slice none 0 0, .slice none 0 0, .slice none 0 0, .slice none 0 0], 34⟩, ⟨p0_0, [.int .i64 a2.f0, .int .i64 a2.f1, .int .i64 a2.f2, .int .i64 a2.f3, .int .i64 a2.f4, .int .i64 a2.f5, .int .i64 a2.f6, .int .i64 a2.f7, .slice h1.1 a2.f8.length h1.2, .slice h2.1 a2.f9.length h2.2, .slice h3.1 a2.f10.length h3.2, .int .i64 x1_2, .int .i64 x1_6, .slice p8_11.1 (s19.2.1 ++ ([x8_8] : List Int)).length p8_11.2, .slice p12_6.1 (s19.2.2 ++ ([(x9_7 == 1)] : List Bool)).length p12_6.2, .slice h6.1 a2.f11.f4.length h6.2, .slice h7.1 a2.f12.length h7.2], 34⟩]) (by kernel_rfl) ?_
          refine O.nil (by kernel_rfl) ?_
          refine J.out ?_
          refine J.region (by kernel_rfl) ?_
          refine O.pure 3 [] [0, 1, 5, 6, 10, 11, 88, 89] [] (fr' := [(0, .slice h0.1 a0.length h0.2), (1, .int .i64 a1), (5, .pointer (some ⟨p0_0, 0, none⟩)), (6, .pointer (some ⟨p0_1, 0, none⟩)), (10, .int .i64 x1_10), (11, .int .i64 (IntKind.wrap .i64 (s19.1 + 1))), (88, .int .i64 x9_7), (89, .bool (x9_7 != 1))]) (bx' := [⟨p0_1, [.int .i64 0, .int .i64 0, .int .i64 0, .int .i64 0, .int .i64 0, .int .i64 0, .int .i64 0, .int .i64 0, .slice none 0 0, .slice none 0 0, .slice none 0 0, .int .i64 0, .int .i64 0, .slice none 0 0, .slice none 0 0, .slice none 0 0, .slice none 0 0], 34⟩, ⟨p0_0, [.int .i64 a2.f0, .int .i64 a2.f1, .int .i64 a2.f2, .int .i64 a2.f3, .int .i64 a2.f4, .int .i64 a2.f5, .int .i64 a2.f6, .int .i64 a2.f7, .slice h1.1 a2.f8.length h1.2, .slice h2.1 a2.f9.length h2.2, .slice h3.1 a2.f10.length h3.2, .int .i64 x1_2, .int .i64 x1_6, .slice p8_11.1 (s19.2.1 ++ ([x8_8] : List Int)).length p8_11.2, .slice p12_6.1 (s19.2.2 ++ ([(x9_7 == 1)] : List Bool)).length p12_6.2, .slice h6.1 a2.f11.f4.length h6.2, .slice h7.1 a2.f12.length h7.2], 34⟩]) (by kernel_rfl) ?_
          refine O.nil (by kernel_rfl) ?_
          exact J.conv2 [0, 1, 5, 6, 10, 11] [0, 1, 2, 3, 4, 5] [0, 1] [1, 0] (by kernel_rfl) (by kernel_rfl) (by kernel_rfl) (by kernel_rfl) (by decide) (ih19 ((IntKind.wrap .i64 (s19.1 + 1)), (s19.2.1 ++ ([x8_8] : List Int)), (s19.2.2 ++ ([(x9_7 == 1)] : List Bool))) (p8_11, p12_6) H)
        ·refine J.region (by kernel_rfl) ?_
         refine O.pure 1 [] [0, 1, 5, 6, 10, 11, 12, 85] [] (fr' := [(0, .slice h0.1 a0.length h0.2), (1, .int .i64 a1), (5, .pointer (some ⟨p0_0, 0, none⟩)), (6, .pointer (some ⟨p0_1, 0, none⟩)), (10, .int .i64 x1_10), (11, .int .i64 s19.1), (12, .int .i64 x9_7), (85, .int .i64 x9_7)]) (bx' := [⟨p0_1, [.int .i64 0, .int .i64 0, .int .i64 0, .int .i64 0, .int .i64 0, .int .i64 0, .int .i64 0, .int .i64 0, .slice none 0 0, .slice none 0 0, .slice none 0 0, .int .i64 0, .int .i64 0, .slice none 0 0, .slice none 0 0, .slice none 0 0, .slice none 0 0], 34⟩, ⟨p0_0, [.int .i64 a2.f0, .int .i64 a2.f1, .int .i64 a2.f2, .int .i64 a2.f3, .int .i64 a2.f4, .int .i64 a2.f5, .int .i64 a2.f6, .int .i64 a2.f7, .slice h1.1 a2.f8.length h1.2, .slice h2.1 a2.f9.length h2.2, .slice h3.1 a2.f10.length h3.2, .int .i64 x1_2, .int .i64 x1_6, .slice p8_11.1 (s19.2.1 ++ ([x8_8] : List Int)).length p8_11.2, .slice g19.2.1 s19.2.2.length g19.2.2, .slice h6.1 a2.f11.f4.length h6.2, .slice h7.1 a2.f12.length h7.2], 34⟩]) (by kernel_rfl) ?_
         refine O.q (v := .bool false) (some 86) (Qu.eqv (u := .bool (x9_7 != 0)) (v := .bool false) (0, 0) [] (by kernel_rfl) (congrArg Value.bool hc27)) (by kernel_rfl) ?_
         refine O.pure 4 [] [0, 1, 5, 6, 10, 11, 12, 88, 89, 90] [] (fr' := [(0, .slice h0.1 a0.length h0.2), (1, .int .i64 a1), (5, .pointer (some ⟨p0_0, 0, none⟩)), (6, .pointer (some ⟨p0_1, 0, none⟩)), (10, .int .i64 x1_10), (11, .int .i64 s19.1), (12, .int .i64 x9_7), (88, undef), (89, undef), (90, .bool false)]) (bx' := [⟨p0_1, [.int .i64 0, .int .i64 0, .int .i64 0, .int .i64 0, .int .i64 0, .int .i64 0, .int .i64 0, .int .i64 0, .slice none 0 0, .slice none 0 0, .slice none 0 0, .int .i64 0, .int .i64 0, .slice none 0 0, .slice none 0 0, .slice none 0 0, .slice none 0 0], 34⟩, ⟨p0_0, [.int .i64 a2.f0, .int .i64 a2.f1, .int .i64 a2.f2, .int .i64 a2.f3, .int .i64 a2.f4, .int .i64 a2.f5, .int .i64 a2.f6, .int .i64 a2.f7, .slice h1.1 a2.f8.length h1.2, .slice h2.1 a2.f9.length h2.2, .slice h3.1 a2.f10.length h3.2, .int .i64 x1_2, .int .i64 x1_6, .slice p8_11.1 (s19.2.1 ++ ([x8_8] : List Int)).length p8_11.2, .slice g19.2.1 s19.2.2.length g19.2.2, .slice h6.1 a2.f11.f4.length h6.2, .slice h7.1 a2.f12.length h7.2], 34⟩]) (by kernel_rfl) ?_
         refine O.nil (by kernel_rfl) ?_
         refine J.cond (o := .tmp 90) false (by kernel_rfl) (by kernel_rfl) ?_
         refine J.skip (by kernel_rfl) ?_
         obtain ⟨y12_6, hy12_6, H⟩ := bindE H
         have hy12_6a := (appE hy12_6).1
         refine J.region (by kernel_rfl) ?_
         refine O.pure 5 [(1, 14)] [0, 1, 5, 6, 10, 11, 88, 89, 94, 96] [p0_0, 14] (fr' := [(0, .slice h0.1 a0.length h0.2), (1, .int .i64 a1), (5, .pointer (some ⟨p0_0, 0, none⟩)), (6, .pointer (some ⟨p0_1, 0, none⟩)), (10, .int .i64 x1_10), (11, .int .i64 s19.1), (88, undef), (89, undef), (94, .slice g19.2.1 s19.2.2.length g19.2.2), (96, .bool (x9_7 == 1))]) (bx' := [⟨p0_1, [.int .i64 0, .int .i64 0, .int .i64 0, .int .i64 0, .int .i64 0, .int .i64 0, .int .i64 0, .int .i64 0, .slice none 0 0, .slice none 0 0, .slice none 0 0, .int .i64 0, .int .i64 0, .slice none 0 0, .slice none 0 0, .slice none 0 0, .slice none 0 0], 34⟩, ⟨p0_0, [.int .i64 a2.f0, .int .i64 a2.f1, .int .i64 a2.f2, .int .i64 a2.f3, .int .i64 a2.f4, .int .i64 a2.f5, .int .i64 a2.f6, .int .i64 a2.f7, .slice h1.1 a2.f8.length h1.2, .slice h2.1 a2.f9.length h2.2, .slice h3.1 a2.f10.length h3.2, .int .i64 x1_2, .int .i64 x1_6, .slice p8_11.1 (s19.2.1 ++ ([x8_8] : List Int)).length p8_11.2, .slice g19.2.1 s19.2.2.length g19.2.2, .slice h6.1 a2.f11.f4.length h6.2, .slice h7.1 a2.f12.length h7.2], 34⟩]) (by kernel_rfl) ?_
         refine O.e (some 97) (Ev.mono (fun w hS => hS.rowsel [1, 0] rfl (by decide)) (Ev.lit (t := 24) (len := 1) (parts := #[(0, .tmp 96)]) (ps := [(0, .bool (x9_7 == 1))]) (cs := [.bool (x9_7 == 1)]) (e := 4) Kd.bool ([(x9_7 == 1)] : List Bool) (by kernel_rfl) (by kernel_rfl) (by kernel_rfl) (by kernel_rfl) (by kernel_rfl) (by decide) (fun w' hφ => (Els.cons (c := [.bool (x9_7 == 1)]) (rfl) (Els.nil _ _ _))))) (by kernel_rfl) (fun p12_5 => ?_)
         refine O.e (some 98) (Ev.appLit (x := .tmp 94) (y := .tmp 97) (t := 24) (bytes := 1) (by kernel_rfl) (by kernel_rfl) (by kernel_rfl) (by kernel_rfl) (by kernel_rfl) (by decide) hy12_6a) (by kernel_rfl) (fun p12_6 => ?_)
         refine O.pure 3 [(1, 14)] [0, 1, 5, 6, 10, 11, 88, 89] [p0_0, 14] (fr' := [(0, .slice h0.1 a0.length h0.2), (1, .int .i64 a1), (5, .pointer (some ⟨p0_0, 0, none⟩)), (6, .pointer (some ⟨p0_1, 0, none⟩)), (10, .int .i64 x1_10), (11, .int .i64 s19.1), (88, undef), (89, undef)]) (bx' := [⟨p0_1, [.int .i64 0, .int .i64 0, .int .i64 0, .int .i64 0, .int .i64 0, .int .i64 0, .int .i64 0, .int .i64 0, .slice none 0 0, .slice none 0 0, .slice none 0 0, .int .i64 0, .int .i64 0, .slice none 0 0, .slice none 0 0, .slice none 0 0, .slice none 0 0], 34⟩, ⟨p0_0, [.int .i64 a2.f0, .int .i64 a2.f1, .int .i64 a2.f2, .int .i64 a2.f3, .int .i64 a2.f4, .int .i64 a2.f5, .int .i64 a2.f6, .int .i64 a2.f7, .slice h1.1 a2.f8.length h1.2, .slice h2.1 a2.f9.length h2.2, .slice h3.1 a2.f10.length h3.2, .int .i64 x1_2, .int .i64 x1_6, .slice p8_11.1 (s19.2.1 ++ ([x8_8] : List Int)).length p8_11.2, .slice p12_6.1 (s19.2.2 ++ ([(x9_7 == 1)] : List Bool)).length p12_6.2, .slice h6.1 a2.f11.f4.length h6.2, .slice h7.1 a2.f12.length h7.2], 34⟩]) (by kernel_rfl) ?_
         refine O.nil (by kernel_rfl) ?_
         refine J.out ?_
         refine J.region (by kernel_rfl) ?_
         refine O.pure 3 [] [0, 1, 5, 6, 10, 11, 88, 89] [] (fr' := [(0, .slice h0.1 a0.length h0.2), (1, .int .i64 a1), (5, .pointer (some ⟨p0_0, 0, none⟩)), (6, .pointer (some ⟨p0_1, 0, none⟩)), (10, .int .i64 x1_10), (11, .int .i64 (IntKind.wrap .i64 (s19.1 + 1))), (88, undef), (89, undef)]) (bx' := [⟨p0_1, [.int .i64 0, .int .i64 0, .int .i64 0, .int .i64 0, .int .i64 0, .int .i64 0, .int .i64 0, .int .i64 0, .slice none 0 0, .slice none 0 0, .slice none 0 0, .int .i64 0, .int .i64 0, .slice none 0 0, .slice none 0 0, .slice none 0 0, .slice none 0 0], 34⟩, ⟨p0_0, [.int .i64 a2.f0, .int .i64 a2.f1, .int .i64 a2.f2, .int .i64 a2.f3, .int .i64 a2.f4, .int .i64 a2.f5, .int .i64 a2.f6, .int .i64 a2.f7, .slice h1.1 a2.f8.length h1.2, .slice h2.1 a2.f9.length h2.2, .slice h3.1 a2.f10.length h3.2, .int .i64 x1_2, .int .i64 x1_6, .slice p8_11.1 (s19.2.1 ++ ([x8_8] : List Int)).length p8_11.2, .slice p12_6.1 (s19.2.2 ++ ([(x9_7 == 1)] : List Bool)).length p12_6.2, .slice h6.1 a2.f11.f4.length h6.2, .slice h7.1 a2.f12.length h7.2], 34⟩]) (by kernel_rfl) ?_
         refine O.nil (by kernel_rfl) ?_
         exact J.conv2 [0, 1, 5, 6, 10, 11] [0, 1, 2, 3, 4, 5] [0, 1] [1, 0] (by kernel_rfl) (by kernel_rfl) (by kernel_rfl) (by kernel_rfl) (by decide) (ih19 ((IntKind.wrap .i64 (s19.1 + 1)), (s19.2.1 ++ ([x8_8] : List Int)), (s19.2.2 ++ ([(x9_7 == 1)] : List Bool))) (p8_11, p12_6) H)
       ·refine J.condF (x := .tmp 59) (t := (decide (s19.1 < x1_10))) (by kernel_rfl) (by kernel_rfl) hc26 ?_
        refine J.exit (id := 0) (by kernel_rfl) rfl ?_
        obtain rfl := Option.some.inj H
        exact J.conv2 [0, 1, 5, 6, 10] [0, 1, 2, 3, 4, 5] [0, 1] [0, 1] (by kernel_rfl) (by kernel_rfl) (by kernel_rfl) (by kernel_rfl) (by decide) (hj5.1 _ rfl (g19.1, g19.2))
      ·exact J.conv2 [0, 1, 5, 6, 10, 11] [0, 1, 2, 3, 4, 5] [0, 1] [0, 1] (by kernel_rfl) (by kernel_rfl) (by kernel_rfl) (by kernel_rfl) (by decide) h_
/-! ### haywain/haywainref15.Decode: function 17 -/
def haywainref15_Decode.l16 (K : Nat) (a0 : List Int) : Nat → ((List Int) × Int) → Option (List Int)
  | 0, _ => none
  | k + 1, s16 => cond (decide (s16.2 < (a0.length : Int))) ((cutO a0 s16.2 (a0.length : Int)).bind fun y7_2 => (haywainref02_TakeNum.f K (cutL a0 ((s16.2 : Int).toNat) (((a0.length : Int) : Int).toNat))).bind fun x7_3 => (appO 8 s16.1 ([x7_3.1] : List Int)).bind fun y8_3 => haywainref15_Decode.l16 K a0 k ((s16.1 ++ ([x7_3.1] : List Int)), (IntKind.wrap .i64 (s16.2 + 8)))) (some (s16.1))
def haywainref15_Decode.f (K : Nat) (a0 : List Int) : Option (S34 × Bool) := (remO (a0.length : Int) 8).bind fun z1_2 => cond (((a0.length : Int).tmod 8) != 0) (some (((⟨0, 0, 0, 0, 0, 0, 0, 0, ([] : List Int), ([] : List Int), ([] : List Int), (⟨0, 0, ([] : List Int), ([] : List Bool), ([] : List S77)⟩ : S27), ([] : List S77)⟩ : S34), false))) (cond (decide ((a0.length : Int) > 2400)) (some (((⟨0, 0, 0, 0, 0, 0, 0, 0, ([] : List Int), ([] : List Int), ([] : List Int), (⟨0, 0, ([] : List Int), ([] : List Bool), ([] : List S77)⟩ : S27), ([] : List S77)⟩ : S34), false))) ((haywainref15_Decode.l16 K a0 K (([] : List Int), 0) : Option (List Int)).bind fun o3 : (List Int) => (haywainref15_some.f K o3 0 8).bind fun x9_1 => (haywainref15_small.f K o3 8 6).bind fun x10_1 => cond (!x9_1.2) (some (((⟨0, 0, 0, 0, 0, 0, 0, 0, ([] : List Int), ([] : List Int), ([] : List Int), (⟨0, 0, ([] : List Int), ([] : List Bool), ([] : List S77)⟩ : S27), ([] : List S77)⟩ : S34), false))) (cond (decide (x10_1 < 0)) (some (((⟨0, 0, 0, 0, 0, 0, 0, 0, ([] : List Int), ([] : List Int), ([] : List Int), (⟨0, 0, ([] : List Int), ([] : List Bool), ([] : List S77)⟩ : S27), ([] : List S77)⟩ : S34), false))) ((idxO x9_1.1 0).bind fun x13_1 => (idxO x9_1.1 1).bind fun x13_4 => (idxO x9_1.1 2).bind fun x13_7 => (idxO x9_1.1 3).bind fun x13_10 => (idxO x9_1.1 4).bind fun x13_13 => (idxO x9_1.1 5).bind fun x13_16 => (idxO x9_1.1 6).bind fun x13_19 => (idxO x9_1.1 7).bind fun x13_22 => (haywainref15_some.f K o3 9 x10_1).bind fun x14_2 => (haywainref15_small.f K o3 (IntKind.wrap .i64 (9 + x10_1)) 5).bind fun x15_3 => cond (!x14_2.2) (some (((⟨0, 0, 0, 0, 0, 0, 0, 0, ([] : List Int), ([] : List Int), ([] : List Int), (⟨0, 0, ([] : List Int), ([] : List Bool), ([] : List S77)⟩ : S27), ([] : List S77)⟩ : S34), false))) (cond (decide (x15_3 < 0)) (some (((⟨0, 0, 0, 0, 0, 0, 0, 0, ([] : List Int), ([] : List Int), ([] : List Int), (⟨0, 0, ([] : List Int), ([] : List Bool), ([] : List S77)⟩ : S27), ([] : List S77)⟩ : S34), false))) ((haywainref15_some.f K o3 (IntKind.wrap .i64 (10 + x10_1)) x15_3).bind fun x18_4 => (haywainref15_some.f K o3 (IntKind.wrap .i64 ((IntKind.wrap .i64 (10 + x10_1)) + x15_3)) x15_3).bind fun x19_6 => cond (!x18_4.2) (some (((⟨0, 0, 0, 0, 0, 0, 0, 0, ([] : List Int), ([] : List Int), ([] : List Int), (⟨0, 0, ([] : List Int), ([] : List Bool), ([] : List S77)⟩ : S27), ([] : List S77)⟩ : S34), false))) (cond (!x19_6.2) (some (((⟨0, 0, 0, 0, 0, 0, 0, 0, ([] : List Int), ([] : List Int), ([] : List Int), (⟨0, 0, ([] : List Int), ([] : List Bool), ([] : List S77)⟩ : S27), ([] : List S77)⟩ : S34), false))) ((haywainref15_body.f K o3 (IntKind.wrap .i64 ((IntKind.wrap .i64 (10 + x10_1)) + (IntKind.wrap .i64 (2 * x15_3)))) (⟨x13_1, x13_4, x13_7, x13_10, x13_13, x13_16, x13_19, x13_22, x14_2.1, x18_4.1, x19_6.1, (⟨0, 0, ([] : List Int), ([] : List Bool), ([] : List S77)⟩ : S27), ([] : List S77)⟩ : S34)).bind fun x23_7 => cond (!x23_7.2) (some (((⟨0, 0, 0, 0, 0, 0, 0, 0, ([] : List Int), ([] : List Int), ([] : List Int), (⟨0, 0, ([] : List Int), ([] : List Bool), ([] : List S77)⟩ : S27), ([] : List S77)⟩ : S34), false))) ((haywainref15_Right.f K x23_7.1).bind fun x24_4 => cond (!x24_4) (some (((⟨0, 0, 0, 0, 0, 0, 0, 0, ([] : List Int), ([] : List Int), ([] : List Int), (⟨0, 0, ([] : List Int), ([] : List Bool), ([] : List S77)⟩ : S27), ([] : List S77)⟩ : S34), false))) (some ((x23_7.1, true))))))))))))
set_option maxRecDepth 100000 in
set_option maxHeartbeats 1000000 in
theorem haywainref15_Decode.con (K : Nat) (a0 : List Int) (h0 : Hd) (r : (S34 × Bool)) (X : Nat → Nat → Prop) (w : World) (hS : St X w [] [] [] [] [Rd (Kd.int .u8) h0.1 h0.2 a0] w) (H : haywainref15_Decode.f K a0 = some r) :
    Cn Try.prog 17 [.slice h0.1 a0.length h0.2] X w [] (fun i : Hd × Hd × Hd × Hd × Hd × Hd × Hd => .tuple #[.agg #[.int .i64 r.1.f0, .int .i64 r.1.f1, .int .i64 r.1.f2, .int .i64 r.1.f3, .int .i64 r.1.f4, .int .i64 r.1.f5, .int .i64 r.1.f6, .int .i64 r.1.f7, .slice i.1.1 r.1.f8.length i.1.2, .slice i.2.1.1 r.1.f9.length i.2.1.2, .slice i.2.2.1.1 r.1.f10.length i.2.2.1.2, .int .i64 r.1.f11.f0, .int .i64 r.1.f11.f1, .slice i.2.2.2.1.1 r.1.f11.f2.length i.2.2.2.1.2, .slice i.2.2.2.2.1.1 r.1.f11.f3.length i.2.2.2.2.1.2, .slice i.2.2.2.2.2.1.1 r.1.f11.f4.length i.2.2.2.2.2.1.2, .slice i.2.2.2.2.2.2.1 r.1.f12.length i.2.2.2.2.2.2.2], .bool r.2]) (fun i => []) (fun i => [mkRow (Kd.int .i64) 2 (.slice i.2.2.2.1.1 r.1.f11.f2.length i.2.2.2.1.2) r.1.f11.f2, mkRow Kd.bool 4 (.slice i.2.2.2.2.1.1 r.1.f11.f3.length i.2.2.2.2.1.2) r.1.f11.f3, mkRow kd77 77 (.slice i.2.2.2.2.2.1.1 r.1.f11.f4.length i.2.2.2.2.2.1.2) r.1.f11.f4, mkRow kd77 77 (.slice i.2.2.2.2.2.2.1 r.1.f12.length i.2.2.2.2.2.2.2) r.1.f12]) (fun i => [Rd (Kd.int .i64) i.1.1 i.1.2 r.1.f8, Rd (Kd.int .i64) i.2.1.1 i.2.1.2 r.1.f9, Rd (Kd.int .i64) i.2.2.1.1 i.2.2.1.2 r.1.f10]) := by
 refine Cn.of Try.func17 (by kernel_rfl) hS ?_
 unfold haywainref15_Decode.f at H
 refine J.seq (by kernel_rfl) ?_
 refine J.region (by kernel_rfl) ?_
 refine O.e (some 2) (Ev.alloc (t := 34) (z := .agg #[.int .i64 0, .int .i64 0, .int .i64 0, .int .i64 0, .int .i64 0, .int .i64 0, .int .i64 0, .int .i64 0, .slice none 0 0, .slice none 0 0, .slice none 0 0, .int .i64 0, .int .i64 0, .slice none 0 0, .slice none 0 0, .slice none 0 0, .slice none 0 0]) (by kernel_rfl) (by kernel_rfl)) (by kernel_rfl) (fun p0_0 => ?_)
 refine O.pure 1 [] [0, 2] [] (fr' := [(0, .slice h0.1 a0.length h0.2), (2, .pointer (some ⟨p0_0, 0, none⟩))]) (bx' := [⟨p0_0, [.int .i64 0, .int .i64 0, .int .i64 0, .int .i64 0, .int .i64 0, .int .i64 0, .int .i64 0, .int .i64 0, .slice none 0 0, .slice none 0 0, .slice none 0 0, .int .i64 0, .int .i64 0, .slice none 0 0, .slice none 0 0, .slice none 0 0, .slice none 0 0], 34⟩]) (by kernel_rfl) ?_
 refine O.nil (by kernel_rfl) ?_
 refine J.seq (by kernel_rfl) ?_
 refine J.seq (by kernel_rfl) ?_
 obtain ⟨z1_2, hz1_2, H⟩ := bindE H
 have hz1_2a := (remE hz1_2).1
 rcases condE H with ⟨hc1, H⟩ | ⟨hc1, H⟩
 ·refine J.region (by kernel_rfl) ?_
  refine O.pure 2 [] [0, 2, 22] [] (fr' := [(0, .slice h0.1 a0.length h0.2), (2, .pointer (some ⟨p0_0, 0, none⟩)), (22, .int .i64 (a0.length : Int))]) (bx' := [⟨p0_0, [.int .i64 0, .int .i64 0, .int .i64 0, .int .i64 0, .int .i64 0, .int .i64 0, .int .i64 0, .int .i64 0, .slice none 0 0, .slice none 0 0, .slice none 0 0, .int .i64 0, .int .i64 0, .slice none 0 0, .slice none 0 0, .slice none 0 0, .slice none 0 0], 34⟩]) (by kernel_rfl) ?_
  refine O.q (v := .int .i64 ((a0.length : Int).tmod 8)) (some 23) (Qu.rem (t := 3) (t' := 3) (x := .tmp 22) (y := .const (.int .i64 8)) (a := (a0.length : Int)) (b := 8) (by kernel_rfl) (by kernel_rfl) (by kernel_rfl) hz1_2a) (by kernel_rfl) ?_
  refine O.q (v := .bool true) (some 24) (Qu.eqv (u := .bool (((a0.length : Int).tmod 8) != 0)) (v := .bool true) (0, 0) [] (by kernel_rfl) (congrArg Value.bool hc1)) (by kernel_rfl) ?_
  refine O.pure 5 [] [0, 2, 29] [] (fr' := [(0, .slice h0.1 a0.length h0.2), (2, .pointer (some ⟨p0_0, 0, none⟩)), (29, .bool true)]) (bx' := [⟨p0_0, [.int .i64 0, .int .i64 0, .int .i64 0, .int .i64 0, .int .i64 0, .int .i64 0, .int .i64 0, .int .i64 0, .slice none 0 0, .slice none 0 0, .slice none 0 0, .int .i64 0, .int .i64 0, .slice none 0 0, .slice none 0 0, .slice none 0 0, .slice none 0 0], 34⟩]) (by kernel_rfl) ?_
  refine O.nil (by kernel_rfl) ?_
  refine J.cond (o := .tmp 29) true (by kernel_rfl) (by kernel_rfl) ?_
  refine J.seq (by kernel_rfl) ?_
  refine J.region (by kernel_rfl) ?_
  refine O.pure 3 [(0, 0)] [2, 3] [p0_0, 0] (fr' := [(2, .pointer (some ⟨p0_0, 0, none⟩)), (3, .bool false)]) (bx' := [⟨p0_0, [.int .i64 0, .int .i64 0, .int .i64 0, .int .i64 0, .int .i64 0, .int .i64 0, .int .i64 0, .int .i64 0, .slice none 0 0, .slice none 0 0, .slice none 0 0, .int .i64 0, .int .i64 0, .slice none 0 0, .slice none 0 0, .slice none 0 0, .slice none 0 0], 34⟩]) (by kernel_rfl) ?_
  refine O.nil (by kernel_rfl) ?_
  obtain rfl := Option.some.inj H
  refine J.nilF (Kd.int .i64) ?_
  refine J.nilrow (Kd.int .i64) 2 ?_
  refine J.nilrow Kd.bool 4 ?_
  refine J.nilrow kd77 77 ?_
  refine J.nilrow kd77 77 ?_
  exact J.doneS [(0, 0)] [p0_0, 0] [0, 0, 0] [] [3, 2, 1, 0] ((none, 0), (none, 0), (none, 0), (none, 0), (none, 0), (none, 0), (none, 0)) (vs := [.agg #[.int .i64 0, .int .i64 0, .int .i64 0, .int .i64 0, .int .i64 0, .int .i64 0, .int .i64 0, .int .i64 0, .slice none 0 0, .slice none 0 0, .slice none 0 0, .int .i64 0, .int .i64 0, .slice none 0 0, .slice none 0 0, .slice none 0 0, .slice none 0 0], .bool false]) (by kernel_rfl) (by kernel_rfl) (by kernel_rfl) (by kernel_rfl) (by kernel_rfl) (by decide)
 ·refine J.region (by kernel_rfl) ?_
  refine O.pure 2 [] [0, 2, 22] [] (fr' := [(0, .slice h0.1 a0.length h0.2), (2, .pointer (some ⟨p0_0, 0, none⟩)), (22, .int .i64 (a0.length : Int))]) (bx' := [⟨p0_0, [.int .i64 0, .int .i64 0, .int .i64 0, .int .i64 0, .int .i64 0, .int .i64 0, .int .i64 0, .int .i64 0, .slice none 0 0, .slice none 0 0, .slice none 0 0, .int .i64 0, .int .i64 0, .slice none 0 0, .slice none 0 0, .slice none 0 0, .slice none 0 0], 34⟩]) (by kernel_rfl) ?_
  refine O.q (v := .int .i64 ((a0.length : Int).tmod 8)) (some 23) (Qu.rem (t := 3) (t' := 3) (x := .tmp 22) (y := .const (.int .i64 8)) (a := (a0.length : Int)) (b := 8) (by kernel_rfl) (by kernel_rfl) (by kernel_rfl) hz1_2a) (by kernel_rfl) ?_
  refine O.q (v := .bool false) (some 24) (Qu.eqv (u := .bool (((a0.length : Int).tmod 8) != 0)) (v := .bool false) (0, 0) [] (by kernel_rfl) (congrArg Value.bool hc1)) (by kernel_rfl) ?_
  refine O.pure 5 [] [0, 2, 29] [] (fr' := [(0, .slice h0.1 a0.length h0.2), (2, .pointer (some ⟨p0_0, 0, none⟩)), (29, .bool (decide ((a0.length : Int) > 2400)))]) (bx' := [⟨p0_0, [.int .i64 0, .int .i64 0, .int .i64 0, .int .i64 0, .int .i64 0, .int .i64 0, .int .i64 0, .int .i64 0, .slice none 0 0, .slice none 0 0, .slice none 0 0, .int .i64 0, .int .i64 0, .slice none 0 0, .slice none 0 0, .slice none 0 0, .slice none 0 0], 34⟩]) (by kernel_rfl) ?_
  refine O.nil (by kernel_rfl) ?_
  rcases condE H with ⟨hc2, H⟩ | ⟨hc2, H⟩
  ·refine J.condT (x := .tmp 29) (t := (decide ((a0.length : Int) > 2400))) (by kernel_rfl) (by kernel_rfl) hc2 ?_
   refine J.seq (by kernel_rfl) ?_
   refine J.region (by kernel_rfl) ?_
   refine O.pure 3 [(0, 0)] [2, 3] [p0_0, 0] (fr' := [(2, .pointer (some ⟨p0_0, 0, none⟩)), (3, .bool false)]) (bx' := [⟨p0_0, [.int .i64 0, .int .i64 0, .int .i64 0, .int .i64 0, .int .i64 0, .int .i64 0, .int .i64 0, .int .i64 0, .slice none 0 0, .slice none 0 0, .slice none 0 0, .int .i64 0, .int .i64 0, .slice none 0 0, .slice none 0 0, .slice none 0 0, .slice none 0 0], 34⟩]) (by kernel_rfl) ?_
   refine O.nil (by kernel_rfl) ?_
   obtain rfl := Option.some.inj H
   refine J.nilF (Kd.int .i64) ?_
   refine J.nilrow (Kd.int .i64) 2 ?_
   refine J.nilrow Kd.bool 4 ?_
   refine J.nilrow kd77 77 ?_
   refine J.nilrow kd77 77 ?_
   exact J.doneS [(0, 0)] [p0_0, 0] [0, 0, 0] [] [3, 2, 1, 0] ((none, 0), (none, 0), (none, 0), (none, 0), (none, 0), (none, 0), (none, 0)) (vs := [.agg #[.int .i64 0, .int .i64 0, .int .i64 0, .int .i64 0, .int .i64 0, .int .i64 0, .int .i64 0, .int .i64 0, .slice none 0 0, .slice none 0 0, .slice none 0 0, .int .i64 0, .int .i64 0, .slice none 0 0, .slice none 0 0, .slice none 0 0, .slice none 0 0], .bool false]) (by kernel_rfl) (by kernel_rfl) (by kernel_rfl) (by kernel_rfl) (by kernel_rfl) (by decide)
  ·refine J.condF (x := .tmp 29) (t := (decide ((a0.length : Int) > 2400))) (by kernel_rfl) (by kernel_rfl) hc2 ?_
   refine J.skip (by kernel_rfl) ?_
   refine J.seq (by kernel_rfl) ?_
   refine J.region (by kernel_rfl) ?_
   refine O.pure 1 [] [0, 2, 4] [] (fr' := [(0, .slice h0.1 a0.length h0.2), (2, .pointer (some ⟨p0_0, 0, none⟩)), (4, .slice none 0 0)]) (bx' := [⟨p0_0, [.int .i64 0, .int .i64 0, .int .i64 0, .int .i64 0, .int .i64 0, .int .i64 0, .int .i64 0, .int .i64 0, .slice none 0 0, .slice none 0 0, .slice none 0 0, .int .i64 0, .int .i64 0, .slice none 0 0, .slice none 0 0, .slice none 0 0, .slice none 0 0], 34⟩]) (by kernel_rfl) ?_
   refine O.nil (by kernel_rfl) ?_
   refine J.seq (by kernel_rfl) ?_
   refine J.seq (by kernel_rfl) ?_
   refine J.region (by kernel_rfl) ?_
   refine O.pure 1 [] [0, 2, 4, 5] [] (fr' := [(0, .slice h0.1 a0.length h0.2), (2, .pointer (some ⟨p0_0, 0, none⟩)), (4, .slice none 0 0), (5, .int .i64 0)]) (bx' := [⟨p0_0, [.int .i64 0, .int .i64 0, .int .i64 0, .int .i64 0, .int .i64 0, .int .i64 0, .int .i64 0, .int .i64 0, .slice none 0 0, .slice none 0 0, .slice none 0 0, .int .i64 0, .int .i64 0, .slice none 0 0, .slice none 0 0, .slice none 0 0, .slice none 0 0], 34⟩]) (by kernel_rfl) ?_
   refine O.nil (by kernel_rfl) ?_
   refine J.join (α := (List Int)) (γ := Hd) (fun o3 q3 => [(2, .pointer (some ⟨p0_0, 0, none⟩)), (4, .slice q3.1 o3.length q3.2)]) (fun o3 q3 => St X w [] [⟨p0_0, [.int .i64 0, .int .i64 0, .int .i64 0, .int .i64 0, .int .i64 0, .int .i64 0, .int .i64 0, .int .i64 0, .slice none 0 0, .slice none 0 0, .slice none 0 0, .int .i64 0, .int .i64 0, .slice none 0 0, .slice none 0 0, .slice none 0 0, .slice none 0 0], 34⟩] [mkRow (Kd.int .i64) 2 (.slice q3.1 o3.length q3.2) o3] [] [Rd (Kd.int .u8) h0.1 h0.2 a0]) H (fun o3 q3 H => ?_) (fun o3 H hj3 => ?_)
   ·refine J.seq (by kernel_rfl) ?_
    obtain ⟨x9_1, hx9_1, H⟩ := bindE H
    refine J.region (by kernel_rfl) ?_
    refine O.pure 1 [] [2, 4, 49] [] (fr' := [(2, .pointer (some ⟨p0_0, 0, none⟩)), (4, .slice q3.1 o3.length q3.2), (49, .slice q3.1 o3.length q3.2)]) (bx' := [⟨p0_0, [.int .i64 0, .int .i64 0, .int .i64 0, .int .i64 0, .int .i64 0, .int .i64 0, .int .i64 0, .int .i64 0, .slice none 0 0, .slice none 0 0, .slice none 0 0, .int .i64 0, .int .i64 0, .slice none 0 0, .slice none 0 0, .slice none 0 0, .slice none 0 0], 34⟩]) (by kernel_rfl) ?_
    refine O.e (some 50) (Ev.callLb (xs1 := [.tmp 49, .const (.int .i64 0), .const (.int .i64 8)]) [0] (fun w hS => (hS.rowsel [0] rfl (by decide)).freezeL (hh := q3) (m := o3.length) (xs := o3) rfl) (by kernel_rfl) (by kernel_rfl) (fun _ q hq _ _ _ h => by obtain rfl := List.mem_singleton.1 hq; exact h) (fun w hS => haywainref15_some.con K o3 0 8 q3  _ _ w hS hx9_1)) (by kernel_rfl) (fun p9_1 => ?_)
    refine O.pure 5 [] [2, 4, 8, 9] [] (fr' := [(2, .pointer (some ⟨p0_0, 0, none⟩)), (4, .slice q3.1 o3.length q3.2), (8, .slice p9_1.1 x9_1.1.length p9_1.2), (9, .bool x9_1.2)]) (bx' := [⟨p0_0, [.int .i64 0, .int .i64 0, .int .i64 0, .int .i64 0, .int .i64 0, .int .i64 0, .int .i64 0, .int .i64 0, .slice none 0 0, .slice none 0 0, .slice none 0 0, .int .i64 0, .int .i64 0, .slice none 0 0, .slice none 0 0, .slice none 0 0, .slice none 0 0], 34⟩]) (by kernel_rfl) ?_
    refine O.nil (by kernel_rfl) ?_
    refine J.seq (by kernel_rfl) ?_
    obtain ⟨x10_1, hx10_1, H⟩ := bindE H
    refine J.region (by kernel_rfl) ?_
    refine O.pure 1 [] [2, 4, 8, 9, 53] [] (fr' := [(2, .pointer (some ⟨p0_0, 0, none⟩)), (4, .slice q3.1 o3.length q3.2), (8, .slice p9_1.1 x9_1.1.length p9_1.2), (9, .bool x9_1.2), (53, .slice q3.1 o3.length q3.2)]) (bx' := [⟨p0_0, [.int .i64 0, .int .i64 0, .int .i64 0, .int .i64 0, .int .i64 0, .int .i64 0, .int .i64 0, .int .i64 0, .slice none 0 0, .slice none 0 0, .slice none 0 0, .int .i64 0, .int .i64 0, .slice none 0 0, .slice none 0 0, .slice none 0 0, .slice none 0 0], 34⟩]) (by kernel_rfl) ?_
    refine O.e (some 54) (Ev.callLb (xs1 := [.tmp 53, .const (.int .i64 8), .const (.int .i64 6)]) [0] (fun w hS => (hS.rowsel [1, 0] rfl (by decide)).freezeL (hh := q3) (m := o3.length) (xs := o3) rfl) (by kernel_rfl) (by kernel_rfl) (fun _ q hq => by cases hq) (fun w hS => haywainref15_small.con K o3 8 6 q3  _ _ w hS hx10_1)) (by kernel_rfl) (fun _ => ?_)
    refine O.pure 1 [] [2, 4, 8, 9, 10] [] (fr' := [(2, .pointer (some ⟨p0_0, 0, none⟩)), (4, .slice q3.1 o3.length q3.2), (8, .slice p9_1.1 x9_1.1.length p9_1.2), (9, .bool x9_1.2), (10, .int .i64 x10_1)]) (bx' := [⟨p0_0, [.int .i64 0, .int .i64 0, .int .i64 0, .int .i64 0, .int .i64 0, .int .i64 0, .int .i64 0, .int .i64 0, .slice none 0 0, .slice none 0 0, .slice none 0 0, .int .i64 0, .int .i64 0, .slice none 0 0, .slice none 0 0, .slice none 0 0, .slice none 0 0], 34⟩]) (by kernel_rfl) ?_
    refine O.nil (by kernel_rfl) ?_
    refine J.seq (by kernel_rfl) ?_
    refine J.seq (by kernel_rfl) ?_
    rcases condE H with ⟨hc8, H⟩ | ⟨hc8, H⟩
    ·refine J.region (by kernel_rfl) ?_
     refine O.pure 1 [] [2, 4, 8, 10, 55] [] (fr' := [(2, .pointer (some ⟨p0_0, 0, none⟩)), (4, .slice q3.1 o3.length q3.2), (8, .slice p9_1.1 x9_1.1.length p9_1.2), (10, .int .i64 x10_1), (55, .bool x9_1.2)]) (bx' := [⟨p0_0, [.int .i64 0, .int .i64 0, .int .i64 0, .int .i64 0, .int .i64 0, .int .i64 0, .int .i64 0, .int .i64 0, .slice none 0 0, .slice none 0 0, .slice none 0 0, .int .i64 0, .int .i64 0, .slice none 0 0, .slice none 0 0, .slice none 0 0, .slice none 0 0], 34⟩]) (by kernel_rfl) ?_
     refine O.q (v := .bool true) (some 56) (Qu.eqv (u := .bool (!x9_1.2)) (v := .bool true) (0, 0) [] (by kernel_rfl) (congrArg Value.bool hc8)) (by kernel_rfl) ?_
     refine O.pure 4 [] [2, 4, 8, 10, 60] [] (fr' := [(2, .pointer (some ⟨p0_0, 0, none⟩)), (4, .slice q3.1 o3.length q3.2), (8, .slice p9_1.1 x9_1.1.length p9_1.2), (10, .int .i64 x10_1), (60, .bool true)]) (bx' := [⟨p0_0, [.int .i64 0, .int .i64 0, .int .i64 0, .int .i64 0, .int .i64 0, .int .i64 0, .int .i64 0, .int .i64 0, .slice none 0 0, .slice none 0 0, .slice none 0 0, .int .i64 0, .int .i64 0, .slice none 0 0, .slice none 0 0, .slice none 0 0, .slice none 0 0], 34⟩]) (by kernel_rfl) ?_
     refine O.nil (by kernel_rfl) ?_
     refine J.cond (o := .tmp 60) true (by kernel_rfl) (by kernel_rfl) ?_
     refine J.seq (by kernel_rfl) ?_
     refine J.region (by kernel_rfl) ?_
     refine O.pure 3 [(0, 0)] [2, 3] [p0_0, 0] (fr' := [(2, .pointer (some ⟨p0_0, 0, none⟩)), (3, .bool false)]) (bx' := [⟨p0_0, [.int .i64 0, .int .i64 0, .int .i64 0, .int .i64 0, .int .i64 0, .int .i64 0, .int .i64 0, .int .i64 0, .slice none 0 0, .slice none 0 0, .slice none 0 0, .int .i64 0, .int .i64 0, .slice none 0 0, .slice none 0 0, .slice none 0 0, .slice none 0 0], 34⟩]) (by kernel_rfl) ?_
     refine O.nil (by kernel_rfl) ?_
     obtain rfl := Option.some.inj H
     refine J.nilF (Kd.int .i64) ?_
     refine J.nilrow (Kd.int .i64) 2 ?_
     refine J.nilrow Kd.bool 4 ?_
     refine J.nilrow kd77 77 ?_
     refine J.nilrow kd77 77 ?_
     exact J.doneS [(0, 0)] [p0_0, 0] [0, 0, 0] [] [3, 2, 1, 0] ((none, 0), (none, 0), (none, 0), (none, 0), (none, 0), (none, 0), (none, 0)) (vs := [.agg #[.int .i64 0, .int .i64 0, .int .i64 0, .int .i64 0, .int .i64 0, .int .i64 0, .int .i64 0, .int .i64 0, .slice none 0 0, .slice none 0 0, .slice none 0 0, .int .i64 0, .int .i64 0, .slice none 0 0, .slice none 0 0, .slice none 0 0, .slice none 0 0], .bool false]) (by kernel_rfl) (by kernel_rfl) (by kernel_rfl) (by kernel_rfl) (by kernel_rfl) (by decide)
    ·refine J.region (by kernel_rfl) ?_
     refine O.pure 1 [] [2, 4, 8, 10, 55] [] (fr' := [(2, .pointer (some ⟨p0_0, 0, none⟩)), (4, .slice q3.1 o3.length q3.2), (8, .slice p9_1.1 x9_1.1.length p9_1.2), (10, .int .i64 x10_1), (55, .bool x9_1.2)]) (bx' := [⟨p0_0, [.int .i64 0, .int .i64 0, .int .i64 0, .int .i64 0, .int .i64 0, .int .i64 0, .int .i64 0, .int .i64 0, .slice none 0 0, .slice none 0 0, .slice none 0 0, .int .i64 0, .int .i64 0, .slice none 0 0, .slice none 0 0, .slice none 0 0, .slice none 0 0], 34⟩]) (by kernel_rfl) ?_
     refine O.q (v := .bool false) (some 56) (Qu.eqv (u := .bool (!x9_1.2)) (v := .bool false) (0, 0) [] (by kernel_rfl) (congrArg Value.bool hc8)) (by kernel_rfl) ?_
     refine O.pure 4 [] [2, 4, 8, 10, 60] [] (fr' := [(2, .pointer (some ⟨p0_0, 0, none⟩)), (4, .slice q3.1 o3.length q3.2), (8, .slice p9_1.1 x9_1.1.length p9_1.2), (10, .int .i64 x10_1), (60, .bool (decide (x10_1 < 0)))]) (bx' := [⟨p0_0, [.int .i64 0, .int .i64 0, .int .i64 0, .int .i64 0, .int .i64 0, .int .i64 0, .int .i64 0, .int .i64 0, .slice none 0 0, .slice none 0 0, .slice none 0 0, .int .i64 0, .int .i64 0, .slice none 0 0, .slice none 0 0, .slice none 0 0, .slice none 0 0], 34⟩]) (by kernel_rfl) ?_
     refine O.nil (by kernel_rfl) ?_
     rcases condE H with ⟨hc9, H⟩ | ⟨hc9, H⟩
     ·refine J.condT (x := .tmp 60) (t := (decide (x10_1 < 0))) (by kernel_rfl) (by kernel_rfl) hc9 ?_
      refine J.seq (by kernel_rfl) ?_
      refine J.region (by kernel_rfl) ?_
      refine O.pure 3 [(0, 0)] [2, 3] [p0_0, 0] (fr' := [(2, .pointer (some ⟨p0_0, 0, none⟩)), (3, .bool false)]) (bx' := [⟨p0_0, [.int .i64 0, .int .i64 0, .int .i64 0, .int .i64 0, .int .i64 0, .int .i64 0, .int .i64 0, .int .i64 0, .slice none 0 0, .slice none 0 0, .slice none 0 0, .int .i64 0, .int .i64 0, .slice none 0 0, .slice none 0 0, .slice none 0 0, .slice none 0 0], 34⟩]) (by kernel_rfl) ?_
      refine O.nil (by kernel_rfl) ?_
      obtain rfl := Option.some.inj H
      refine J.nilF (Kd.int .i64) ?_
      refine J.nilrow (Kd.int .i64) 2 ?_
      refine J.nilrow Kd.bool 4 ?_
      refine J.nilrow kd77 77 ?_
      refine J.nilrow kd77 77 ?_
      exact J.doneS [(0, 0)] [p0_0, 0] [0, 0, 0] [] [3, 2, 1, 0] ((none, 0), (none, 0), (none, 0), (none, 0), (none, 0), (none, 0), (none, 0)) (vs := [.agg #[.int .i64 0, .int .i64 0, .int .i64 0, .int .i64 0, .int .i64 0, .int .i64 0, .int .i64 0, .int .i64 0, .slice none 0 0, .slice none 0 0, .slice none 0 0, .int .i64 0, .int .i64 0, .slice none 0 0, .slice none 0 0, .slice none 0 0, .slice none 0 0], .bool false]) (by kernel_rfl) (by kernel_rfl) (by kernel_rfl) (by kernel_rfl) (by kernel_rfl) (by decide)
     ·refine J.condF (x := .tmp 60) (t := (decide (x10_1 < 0))) (by kernel_rfl) (by kernel_rfl) hc9 ?_
      refine J.skip (by kernel_rfl) ?_
      refine J.seq (by kernel_rfl) ?_
      obtain ⟨x13_1, hx13_1, H⟩ := bindE H
      obtain ⟨hx13_1a, hx13_1⟩ := idxE hx13_1
      obtain ⟨x13_4, hx13_4, H⟩ := bindE H
      obtain ⟨hx13_4a, hx13_4⟩ := idxE hx13_4
      obtain ⟨x13_7, hx13_7, H⟩ := bindE H
      obtain ⟨hx13_7a, hx13_7⟩ := idxE hx13_7
      obtain ⟨x13_10, hx13_10, H⟩ := bindE H
      obtain ⟨hx13_10a, hx13_10⟩ := idxE hx13_10
      obtain ⟨x13_13, hx13_13, H⟩ := bindE H
      obtain ⟨hx13_13a, hx13_13⟩ := idxE hx13_13
      obtain ⟨x13_16, hx13_16, H⟩ := bindE H
      obtain ⟨hx13_16a, hx13_16⟩ := idxE hx13_16
      obtain ⟨x13_19, hx13_19, H⟩ := bindE H
      obtain ⟨hx13_19a, hx13_19⟩ := idxE hx13_19
      obtain ⟨x13_22, hx13_22, H⟩ := bindE H
      obtain ⟨hx13_22a, hx13_22⟩ := idxE hx13_22
      refine J.mono (fun w hS => hS.freezeH (h := p9_1) (xs := x9_1.1)) ?_
      refine J.open (d := (Kd.int .i64)) (h := p9_1) (i := 0) 0 rfl hx13_1 (Lay.int _ _) (fun p13_1 hp13_1A => ?_)
      refine J.open (d := (Kd.int .i64)) (h := p9_1) (i := 1) 0 rfl hx13_4 (Lay.int _ _) (fun p13_4 hp13_4A => ?_)
      refine J.open (d := (Kd.int .i64)) (h := p9_1) (i := 2) 0 rfl hx13_7 (Lay.int _ _) (fun p13_7 hp13_7A => ?_)
      refine J.open (d := (Kd.int .i64)) (h := p9_1) (i := 3) 0 rfl hx13_10 (Lay.int _ _) (fun p13_10 hp13_10A => ?_)
      refine J.open (d := (Kd.int .i64)) (h := p9_1) (i := 4) 0 rfl hx13_13 (Lay.int _ _) (fun p13_13 hp13_13A => ?_)
      refine J.open (d := (Kd.int .i64)) (h := p9_1) (i := 5) 0 rfl hx13_16 (Lay.int _ _) (fun p13_16 hp13_16A => ?_)
      refine J.open (d := (Kd.int .i64)) (h := p9_1) (i := 6) 0 rfl hx13_19 (Lay.int _ _) (fun p13_19 hp13_19A => ?_)
      refine J.open (d := (Kd.int .i64)) (h := p9_1) (i := 7) 0 rfl hx13_22 (Lay.int _ _) (fun p13_22 hp13_22A => ?_)
      refine J.drawS (by kernel_rfl) [(0, some 62, .slice p9_1.1 x9_1.1.length p9_1.2), (2, some 64, .int .i64 x13_1), (3, some 65, .slice p9_1.1 x9_1.1.length p9_1.2), (5, some 67, .int .i64 x13_4), (6, some 68, .slice p9_1.1 x9_1.1.length p9_1.2), (8, some 70, .int .i64 x13_7), (9, some 71, .slice p9_1.1 x9_1.1.length p9_1.2), (11, some 73, .int .i64 x13_10), (12, some 74, .slice p9_1.1 x9_1.1.length p9_1.2), (14, some 76, .int .i64 x13_13), (15, some 77, .slice p9_1.1 x9_1.1.length p9_1.2), (17, some 79, .int .i64 x13_16), (18, some 80, .slice p9_1.1 x9_1.1.length p9_1.2), (20, some 82, .int .i64 x13_19), (21, some 83, .slice p9_1.1 x9_1.1.length p9_1.2), (23, some 85, .int .i64 x13_22), (24, some 86, .agg #[.int .i64 x13_1, .int .i64 x13_4, .int .i64 x13_7, .int .i64 x13_10, .int .i64 x13_13, .int .i64 x13_16, .int .i64 x13_19, .int .i64 x13_22, .slice none 0 0, .slice none 0 0, .slice none 0 0, .int .i64 0, .int .i64 0, .slice none 0 0, .slice none 0 0, .slice none 0 0, .slice none 0 0]), (1, some 63, .pointer (some ⟨p13_1.1, p13_1.2.1 + (0 : Int).toNat * 1, none⟩)), (4, some 66, .pointer (some ⟨p13_4.1, p13_4.2.1 + (1 : Int).toNat * 1, none⟩)), (7, some 69, .pointer (some ⟨p13_7.1, p13_7.2.1 + (2 : Int).toNat * 1, none⟩)), (10, some 72, .pointer (some ⟨p13_10.1, p13_10.2.1 + (3 : Int).toNat * 1, none⟩)), (13, some 75, .pointer (some ⟨p13_13.1, p13_13.2.1 + (4 : Int).toNat * 1, none⟩)), (16, some 78, .pointer (some ⟨p13_16.1, p13_16.2.1 + (5 : Int).toNat * 1, none⟩)), (19, some 81, .pointer (some ⟨p13_19.1, p13_19.2.1 + (6 : Int).toNat * 1, none⟩)), (22, some 84, .pointer (some ⟨p13_22.1, p13_22.2.1 + (7 : Int).toNat * 1, none⟩))] ([0, 2, 3, 5, 6, 8, 9, 11, 12, 14, 15, 17, 18, 20, 21, 23, 24] ++ [1, 4, 7, 10, 13, 16, 19, 22]) (by kernel_rfl) ?_
      refine D.mid (cs := [25]) [0, 2, 3, 5, 6, 8, 9, 11, 12, 14, 15, 17, 18, 20, 21, 23, 24] [1, 4, 7, 10, 13, 16, 19, 22] [(8, 0), (7, 0), (6, 0), (5, 0), (4, 0), (3, 0), (2, 0), (1, 0)] [p13_1.1, p13_1.2.1 + (0 : Int).toNat * 1, p13_4.1, p13_4.2.1 + (1 : Int).toNat * 1, p13_7.1, p13_7.2.1 + (2 : Int).toNat * 1, p13_10.1, p13_10.2.1 + (3 : Int).toNat * 1, p13_13.1, p13_13.2.1 + (4 : Int).toNat * 1, p13_16.1, p13_16.2.1 + (5 : Int).toNat * 1, p13_19.1, p13_19.2.1 + (6 : Int).toNat * 1, p13_22.1, p13_22.2.1 + (7 : Int).toNat * 1] (by kernel_rfl) (by kernel_rfl) (⟨QuAt.mk (v := .pointer (some ⟨p13_1.1, p13_1.2.1 + (0 : Int).toNat * 1, none⟩)) (some 63) (by kernel_rfl) (by kernel_rfl) (Qu.idx (t := 22) (x := .tmp 62) (y := .const (.int .i64 0)) (c := p9_1.2) (kk := .i64) (sz := 1) (by kernel_rfl) (by kernel_rfl) (by kernel_rfl) (by kernel_rfl) hx13_1a (idx_lt hx13_1) hp13_1A), QuAt.mk (v := .pointer (some ⟨p13_4.1, p13_4.2.1 + (1 : Int).toNat * 1, none⟩)) (some 66) (by kernel_rfl) (by kernel_rfl) (Qu.idx (t := 22) (x := .tmp 65) (y := .const (.int .i64 1)) (c := p9_1.2) (kk := .i64) (sz := 1) (by kernel_rfl) (by kernel_rfl) (by kernel_rfl) (by kernel_rfl) hx13_4a (idx_lt hx13_4) hp13_4A), QuAt.mk (v := .pointer (some ⟨p13_7.1, p13_7.2.1 + (2 : Int).toNat * 1, none⟩)) (some 69) (by kernel_rfl) (by kernel_rfl) (Qu.idx (t := 22) (x := .tmp 68) (y := .const (.int .i64 2)) (c := p9_1.2) (kk := .i64) (sz := 1) (by kernel_rfl) (by kernel_rfl) (by kernel_rfl) (by kernel_rfl) hx13_7a (idx_lt hx13_7) hp13_7A), QuAt.mk (v := .pointer (some ⟨p13_10.1, p13_10.2.1 + (3 : Int).toNat * 1, none⟩)) (some 72) (by kernel_rfl) (by kernel_rfl) (Qu.idx (t := 22) (x := .tmp 71) (y := .const (.int .i64 3)) (c := p9_1.2) (kk := .i64) (sz := 1) (by kernel_rfl) (by kernel_rfl) (by kernel_rfl) (by kernel_rfl) hx13_10a (idx_lt hx13_10) hp13_10A), QuAt.mk (v := .pointer (some ⟨p13_13.1, p13_13.2.1 + (4 : Int).toNat * 1, none⟩)) (some 75) (by kernel_rfl) (by kernel_rfl) (Qu.idx (t := 22) (x := .tmp 74) (y := .const (.int .i64 4)) (c := p9_1.2) (kk := .i64) (sz := 1) (by kernel_rfl) (by kernel_rfl) (by kernel_rfl) (by kernel_rfl) hx13_13a (idx_lt hx13_13) hp13_13A), QuAt.mk (v := .pointer (some ⟨p13_16.1, p13_16.2.1 + (5 : Int).toNat * 1, none⟩)) (some 78) (by kernel_rfl) (by kernel_rfl) (Qu.idx (t := 22) (x := .tmp 77) (y := .const (.int .i64 5)) (c := p9_1.2) (kk := .i64) (sz := 1) (by kernel_rfl) (by kernel_rfl) (by kernel_rfl) (by kernel_rfl) hx13_16a (idx_lt hx13_16) hp13_16A), QuAt.mk (v := .pointer (some ⟨p13_19.1, p13_19.2.1 + (6 : Int).toNat * 1, none⟩)) (some 81) (by kernel_rfl) (by kernel_rfl) (Qu.idx (t := 22) (x := .tmp 80) (y := .const (.int .i64 6)) (c := p9_1.2) (kk := .i64) (sz := 1) (by kernel_rfl) (by kernel_rfl) (by kernel_rfl) (by kernel_rfl) hx13_19a (idx_lt hx13_19) hp13_19A), QuAt.mk (v := .pointer (some ⟨p13_22.1, p13_22.2.1 + (7 : Int).toNat * 1, none⟩)) (some 84) (by kernel_rfl) (by kernel_rfl) (Qu.idx (t := 22) (x := .tmp 83) (y := .const (.int .i64 7)) (c := p9_1.2) (kk := .i64) (sz := 1) (by kernel_rfl) (by kernel_rfl) (by kernel_rfl) (by kernel_rfl) hx13_22a (idx_lt hx13_22) hp13_22A), trivial⟩) (by kernel_rfl) ⟨?_, trivial⟩
      refine EvStep.mk (some 11) (new := fun p13_25 => []) ([0, 2, 3, 5, 6, 8, 9, 11, 12, 14, 15, 17, 18, 20, 21, 23, 24] ++ [1, 4, 7, 10, 13, 16, 19, 22]) (by kernel_rfl) (Ev.alloc (t := 34) (z := .agg #[.int .i64 0, .int .i64 0, .int .i64 0, .int .i64 0, .int .i64 0, .int .i64 0, .int .i64 0, .int .i64 0, .slice none 0 0, .slice none 0 0, .slice none 0 0, .int .i64 0, .int .i64 0, .slice none 0 0, .slice none 0 0, .slice none 0 0, .slice none 0 0]) (by kernel_rfl) (by kernel_rfl)) (fun p13_25 => by kernel_rfl) (fun p13_25 => ?_)
      refine D.mid (cs := [26]) [0, 2, 3, 5, 6, 8, 9, 11, 12, 14, 15, 17, 18, 20, 21, 23, 24] [1, 4, 7, 10, 13, 16, 19, 22] [(9, 0), (8, 0), (7, 0), (6, 0), (5, 0), (4, 0), (3, 0), (2, 0)] [p13_1.1, p13_1.2.1 + (0 : Int).toNat * 1, p13_4.1, p13_4.2.1 + (1 : Int).toNat * 1, p13_7.1, p13_7.2.1 + (2 : Int).toNat * 1, p13_10.1, p13_10.2.1 + (3 : Int).toNat * 1, p13_13.1, p13_13.2.1 + (4 : Int).toNat * 1, p13_16.1, p13_16.2.1 + (5 : Int).toNat * 1, p13_19.1, p13_19.2.1 + (6 : Int).toNat * 1, p13_22.1, p13_22.2.1 + (7 : Int).toNat * 1] (by kernel_rfl) (by kernel_rfl) (⟨QuAt.mk (v := .pointer (some ⟨p13_1.1, p13_1.2.1 + (0 : Int).toNat * 1, none⟩)) (some 63) (by kernel_rfl) (by kernel_rfl) (Qu.idx (t := 22) (x := .tmp 62) (y := .const (.int .i64 0)) (c := p9_1.2) (kk := .i64) (sz := 1) (by kernel_rfl) (by kernel_rfl) (by kernel_rfl) (by kernel_rfl) hx13_1a (idx_lt hx13_1) hp13_1A), QuAt.mk (v := .pointer (some ⟨p13_4.1, p13_4.2.1 + (1 : Int).toNat * 1, none⟩)) (some 66) (by kernel_rfl) (by kernel_rfl) (Qu.idx (t := 22) (x := .tmp 65) (y := .const (.int .i64 1)) (c := p9_1.2) (kk := .i64) (sz := 1) (by kernel_rfl) (by kernel_rfl) (by kernel_rfl) (by kernel_rfl) hx13_4a (idx_lt hx13_4) hp13_4A), QuAt.mk (v := .pointer (some ⟨p13_7.1, p13_7.2.1 + (2 : Int).toNat * 1, none⟩)) (some 69) (by kernel_rfl) (by kernel_rfl) (Qu.idx (t := 22) (x := .tmp 68) (y := .const (.int .i64 2)) (c := p9_1.2) (kk := .i64) (sz := 1) (by kernel_rfl) (by kernel_rfl) (by kernel_rfl) (by kernel_rfl) hx13_7a (idx_lt hx13_7) hp13_7A), QuAt.mk (v := .pointer (some ⟨p13_10.1, p13_10.2.1 + (3 : Int).toNat * 1, none⟩)) (some 72) (by kernel_rfl) (by kernel_rfl) (Qu.idx (t := 22) (x := .tmp 71) (y := .const (.int .i64 3)) (c := p9_1.2) (kk := .i64) (sz := 1) (by kernel_rfl) (by kernel_rfl) (by kernel_rfl) (by kernel_rfl) hx13_10a (idx_lt hx13_10) hp13_10A), QuAt.mk (v := .pointer (some ⟨p13_13.1, p13_13.2.1 + (4 : Int).toNat * 1, none⟩)) (some 75) (by kernel_rfl) (by kernel_rfl) (Qu.idx (t := 22) (x := .tmp 74) (y := .const (.int .i64 4)) (c := p9_1.2) (kk := .i64) (sz := 1) (by kernel_rfl) (by kernel_rfl) (by kernel_rfl) (by kernel_rfl) hx13_13a (idx_lt hx13_13) hp13_13A), QuAt.mk (v := .pointer (some ⟨p13_16.1, p13_16.2.1 + (5 : Int).toNat * 1, none⟩)) (some 78) (by kernel_rfl) (by kernel_rfl) (Qu.idx (t := 22) (x := .tmp 77) (y := .const (.int .i64 5)) (c := p9_1.2) (kk := .i64) (sz := 1) (by kernel_rfl) (by kernel_rfl) (by kernel_rfl) (by kernel_rfl) hx13_16a (idx_lt hx13_16) hp13_16A), QuAt.mk (v := .pointer (some ⟨p13_19.1, p13_19.2.1 + (6 : Int).toNat * 1, none⟩)) (some 81) (by kernel_rfl) (by kernel_rfl) (Qu.idx (t := 22) (x := .tmp 80) (y := .const (.int .i64 6)) (c := p9_1.2) (kk := .i64) (sz := 1) (by kernel_rfl) (by kernel_rfl) (by kernel_rfl) (by kernel_rfl) hx13_19a (idx_lt hx13_19) hp13_19A), QuAt.mk (v := .pointer (some ⟨p13_22.1, p13_22.2.1 + (7 : Int).toNat * 1, none⟩)) (some 84) (by kernel_rfl) (by kernel_rfl) (Qu.idx (t := 22) (x := .tmp 83) (y := .const (.int .i64 7)) (c := p9_1.2) (kk := .i64) (sz := 1) (by kernel_rfl) (by kernel_rfl) (by kernel_rfl) (by kernel_rfl) hx13_22a (idx_lt hx13_22) hp13_22A), trivial⟩) (by kernel_rfl) ⟨?_, trivial⟩
      refine EvStep.mk none (new := fun _ => []) ([] ++ []) (by kernel_rfl) (Ev.store (kk := 0) (cs := [.int .i64 x13_1, .int .i64 x13_4, .int .i64 x13_7, .int .i64 x13_10, .int .i64 x13_13, .int .i64 x13_16, .int .i64 x13_19, .int .i64 x13_22, .slice none 0 0, .slice none 0 0, .slice none 0 0, .int .i64 0, .int .i64 0, .slice none 0 0, .slice none 0 0, .slice none 0 0, .slice none 0 0]) (0, 0) [p13_25, 0] (by kernel_rfl)) (fun _ => by kernel_rfl) (fun _ => ?_)
      refine D.fin (fr' := [(2, .pointer (some ⟨p0_0, 0, none⟩)), (4, .slice q3.1 o3.length q3.2), (10, .int .i64 x10_1), (11, .pointer (some ⟨p13_25, 0, none⟩))]) [] [] [] [] [2, 4, 10, 11] (by kernel_rfl) (by kernel_rfl) trivial (by kernel_rfl) ?_
      refine J.seq (by kernel_rfl) ?_
      obtain ⟨x14_2, hx14_2, H⟩ := bindE H
      refine J.region (by kernel_rfl) ?_
      refine O.pure 2 [] [2, 4, 10, 11, 88, 89] [] (fr' := [(2, .pointer (some ⟨p0_0, 0, none⟩)), (4, .slice q3.1 o3.length q3.2), (10, .int .i64 x10_1), (11, .pointer (some ⟨p13_25, 0, none⟩)), (88, .slice q3.1 o3.length q3.2), (89, .int .i64 x10_1)]) (bx' := [⟨p13_25, [.int .i64 x13_1, .int .i64 x13_4, .int .i64 x13_7, .int .i64 x13_10, .int .i64 x13_13, .int .i64 x13_16, .int .i64 x13_19, .int .i64 x13_22, .slice none 0 0, .slice none 0 0, .slice none 0 0, .int .i64 0, .int .i64 0, .slice none 0 0, .slice none 0 0, .slice none 0 0, .slice none 0 0], 34⟩, ⟨p0_0, [.int .i64 0, .int .i64 0, .int .i64 0, .int .i64 0, .int .i64 0, .int .i64 0, .int .i64 0, .int .i64 0, .slice none 0 0, .slice none 0 0, .slice none 0 0, .int .i64 0, .int .i64 0, .slice none 0 0, .slice none 0 0, .slice none 0 0, .slice none 0 0], 34⟩]) (by kernel_rfl) ?_
      refine O.e (some 90) (Ev.callLb (xs1 := [.tmp 88, .const (.int .i64 9), .tmp 89]) [0] (fun w hS => (hS.rowsel [0] rfl (by decide)).freezeL (hh := q3) (m := o3.length) (xs := o3) rfl) (by kernel_rfl) (by kernel_rfl) (fun _ q hq _ _ _ h => by obtain rfl := List.mem_singleton.1 hq; exact h) (fun w hS => haywainref15_some.con K o3 9 x10_1 q3  _ _ w hS hx14_2)) (by kernel_rfl) (fun p14_2 => ?_)
      refine O.pure 5 [] [2, 4, 10, 11, 12, 13] [] (fr' := [(2, .pointer (some ⟨p0_0, 0, none⟩)), (4, .slice q3.1 o3.length q3.2), (10, .int .i64 x10_1), (11, .pointer (some ⟨p13_25, 0, none⟩)), (12, .slice p14_2.1 x14_2.1.length p14_2.2), (13, .bool x14_2.2)]) (bx' := [⟨p13_25, [.int .i64 x13_1, .int .i64 x13_4, .int .i64 x13_7, .int .i64 x13_10, .int .i64 x13_13, .int .i64 x13_16, .int .i64 x13_19, .int .i64 x13_22, .slice none 0 0, .slice none 0 0, .slice none 0 0, .int .i64 0, .int .i64 0, .slice none 0 0, .slice none 0 0, .slice none 0 0, .slice none 0 0], 34⟩, ⟨p0_0, [.int .i64 0, .int .i64 0, .int .i64 0, .int .i64 0, .int .i64 0, .int .i64 0, .int .i64 0, .int .i64 0, .slice none 0 0, .slice none 0 0, .slice none 0 0, .int .i64 0, .int .i64 0, .slice none 0 0, .slice none 0 0, .slice none 0 0, .slice none 0 0], 34⟩]) (by kernel_rfl) ?_
      refine O.nil (by kernel_rfl) ?_
      refine J.seq (by kernel_rfl) ?_
      obtain ⟨x15_3, hx15_3, H⟩ := bindE H
      refine J.region (by kernel_rfl) ?_
      refine O.pure 3 [] [2, 4, 10, 11, 12, 13, 93, 95] [] (fr' := [(2, .pointer (some ⟨p0_0, 0, none⟩)), (4, .slice q3.1 o3.length q3.2), (10, .int .i64 x10_1), (11, .pointer (some ⟨p13_25, 0, none⟩)), (12, .slice p14_2.1 x14_2.1.length p14_2.2), (13, .bool x14_2.2), (93, .slice q3.1 o3.length q3.2), (95, .int .i64 (IntKind.wrap .i64 (9 + x10_1)))]) (bx' := [⟨p13_25, [.int .i64 x13_1, .int .i64 x13_4, .int .i64 x13_7, .int .i64 x13_10, .int .i64 x13_13, .int .i64 x13_16, .int .i64 x13_19, .int .i64 x13_22, .slice none 0 0, .slice none 0 0, .slice none 0 0, .int .i64 0, .int .i64 0, .slice none 0 0, .slice none 0 0, .slice none 0 0, .slice none 0 0], 34⟩, ⟨p0_0, [.int .i64 0, .int .i64 0, .int .i64 0, .int .i64 0, .int .i64 0, .int .i64 0, .int .i64 0, .int .i64 0, .slice none 0 0, .slice none 0 0, .slice none 0 0, .int .i64 0, .int .i64 0, .slice none 0 0, .slice none 0 0, .slice none 0 0, .slice none 0 0], 34⟩]) (by kernel_rfl) ?_
      refine O.e (some 96) (Ev.callLb (xs1 := [.tmp 93, .tmp 95, .const (.int .i64 5)]) [0] (fun w hS => (hS.rowsel [1, 0] rfl (by decide)).freezeL (hh := q3) (m := o3.length) (xs := o3) rfl) (by kernel_rfl) (by kernel_rfl) (fun _ q hq => by cases hq) (fun w hS => haywainref15_small.con K o3 (IntKind.wrap .i64 (9 + x10_1)) 5 q3  _ _ w hS hx15_3)) (by kernel_rfl) (fun _ => ?_)
      refine O.pure 1 [] [2, 4, 10, 11, 12, 13, 14] [] (fr' := [(2, .pointer (some ⟨p0_0, 0, none⟩)), (4, .slice q3.1 o3.length q3.2), (10, .int .i64 x10_1), (11, .pointer (some ⟨p13_25, 0, none⟩)), (12, .slice p14_2.1 x14_2.1.length p14_2.2), (13, .bool x14_2.2), (14, .int .i64 x15_3)]) (bx' := [⟨p13_25, [.int .i64 x13_1, .int .i64 x13_4, .int .i64 x13_7, .int .i64 x13_10, .int .i64 x13_13, .int .i64 x13_16, .int .i64 x13_19, .int .i64 x13_22, .slice none 0 0, .slice none 0 0, .slice none 0 0, .int .i64 0, .int .i64 0, .slice none 0 0, .slice none 0 0, .slice none 0 0, .slice none 0 0], 34⟩, ⟨p0_0, [.int .i64 0, .int .i64 0, .int .i64 0, .int .i64 0, .int .i64 0, .int .i64 0, .int .i64 0, .int .i64 0, .slice none 0 0, .slice none 0 0, .slice none 0 0, .int .i64 0, .int .i64 0, .slice none 0 0, .slice none 0 0, .slice none 0 0, .slice none 0 0], 34⟩]) (by kernel_rfl) ?_
      refine O.nil (by kernel_rfl) ?_
      refine J.seq (by kernel_rfl) ?_
      refine J.seq (by kernel_rfl) ?_
      rcases condE H with ⟨hc10, H⟩ | ⟨hc10, H⟩
      ·refine J.region (by kernel_rfl) ?_
       refine O.pure 1 [] [2, 4, 10, 11, 12, 14, 97] [] (fr' := [(2, .pointer (some ⟨p0_0, 0, none⟩)), (4, .slice q3.1 o3.length q3.2), (10, .int .i64 x10_1), (11, .pointer (some ⟨p13_25, 0, none⟩)), (12, .slice p14_2.1 x14_2.1.length p14_2.2), (14, .int .i64 x15_3), (97, .bool x14_2.2)]) (bx' := [⟨p13_25, [.int .i64 x13_1, .int .i64 x13_4, .int .i64 x13_7, .int .i64 x13_10, .int .i64 x13_13, .int .i64 x13_16, .int .i64 x13_19, .int .i64 x13_22, .slice none 0 0, .slice none 0 0, .slice none 0 0, .int .i64 0, .int .i64 0, .slice none 0 0, .slice none 0 0, .slice none 0 0, .slice none 0 0], 34⟩, ⟨p0_0, [.int .i64 0, .int .i64 0, .int .i64 0, .int .i64 0, .int .i64 0, .int .i64 0, .int .i64 0, .int .i64 0, .slice none 0 0, .slice none 0 0, .slice none 0 0, .int .i64 0, .int .i64 0, .slice none 0 0, .slice none 0 0, .slice none 0 0, .slice none 0 0], 34⟩]) (by kernel_rfl) ?_
       refine O.q (v := .bool true) (some 98) (Qu.eqv (u := .bool (!x14_2.2)) (v := .bool true) (0, 0) [] (by kernel_rfl) (congrArg Value.bool hc10)) (by kernel_rfl) ?_
       refine O.pure 4 [] [2, 4, 10, 11, 12, 14, 102] [] (fr' := [(2, .pointer (some ⟨p0_0, 0, none⟩)), (4, .slice q3.1 o3.length q3.2), (10, .int .i64 x10_1), (11, .pointer (some ⟨p13_25, 0, none⟩)), (12, .slice p14_2.1 x14_2.1.length p14_2.2), (14, .int .i64 x15_3), (102, .bool true)]) (bx' := [⟨p13_25, [.int .i64 x13_1, .int .i64 x13_4, .int .i64 x13_7, .int .i64 x13_10, .int .i64 x13_13, .int .i64 x13_16, .int .i64 x13_19, .int .i64 x13_22, .slice none 0 0, .slice none 0 0, .slice none 0 0, .int .i64 0, .int .i64 0, .slice none 0 0, .slice none 0 0, .slice none 0 0, .slice none 0 0], 34⟩, ⟨p0_0, [.int .i64 0, .int .i64 0, .int .i64 0, .int .i64 0, .int .i64 0, .int .i64 0, .int .i64 0, .int .i64 0, .slice none 0 0, .slice none 0 0, .slice none 0 0, .int .i64 0, .int .i64 0, .slice none 0 0, .slice none 0 0, .slice none 0 0, .slice none 0 0], 34⟩]) (by kernel_rfl) ?_
       refine O.nil (by kernel_rfl) ?_
       refine J.cond (o := .tmp 102) true (by kernel_rfl) (by kernel_rfl) ?_
       refine J.seq (by kernel_rfl) ?_
       refine J.region (by kernel_rfl) ?_
       refine O.pure 3 [(1, 0)] [2, 3] [p0_0, 0] (fr' := [(2, .pointer (some ⟨p0_0, 0, none⟩)), (3, .bool false)]) (bx' := [⟨p13_25, [.int .i64 x13_1, .int .i64 x13_4, .int .i64 x13_7, .int .i64 x13_10, .int .i64 x13_13, .int .i64 x13_16, .int .i64 x13_19, .int .i64 x13_22, .slice none 0 0, .slice none 0 0, .slice none 0 0, .int .i64 0, .int .i64 0, .slice none 0 0, .slice none 0 0, .slice none 0 0, .slice none 0 0], 34⟩, ⟨p0_0, [.int .i64 0, .int .i64 0, .int .i64 0, .int .i64 0, .int .i64 0, .int .i64 0, .int .i64 0, .int .i64 0, .slice none 0 0, .slice none 0 0, .slice none 0 0, .int .i64 0, .int .i64 0, .slice none 0 0, .slice none 0 0, .slice none 0 0, .slice none 0 0], 34⟩]) (by kernel_rfl) ?_
       refine O.nil (by kernel_rfl) ?_
       obtain rfl := Option.some.inj H
       refine J.nilF (Kd.int .i64) ?_
       refine J.nilrow (Kd.int .i64) 2 ?_
       refine J.nilrow Kd.bool 4 ?_
       refine J.nilrow kd77 77 ?_
       refine J.nilrow kd77 77 ?_
       exact J.doneS [(1, 0)] [p0_0, 0] [0, 0, 0] [] [3, 2, 1, 0] ((none, 0), (none, 0), (none, 0), (none, 0), (none, 0), (none, 0), (none, 0)) (vs := [.agg #[.int .i64 0, .int .i64 0, .int .i64 0, .int .i64 0, .int .i64 0, .int .i64 0, .int .i64 0, .int .i64 0, .slice none 0 0, .slice none 0 0, .slice none 0 0, .int .i64 0, .int .i64 0, .slice none 0 0, .slice none 0 0, .slice none 0 0, .slice none 0 0], .bool false]) (by kernel_rfl) (by kernel_rfl) (by kernel_rfl) (by kernel_rfl) (by kernel_rfl) (by decide)
      ·refine J.region (by kernel_rfl) ?_
       refine O.pure 1 [] [2, 4, 10, 11, 12, 14, 97] [] (fr' := [(2, .pointer (some ⟨p0_0, 0, none⟩)), (4, .slice q3.1 o3.length q3.2), (10, .int .i64 x10_1), (11, .pointer (some ⟨p13_25, 0, none⟩)), (12, .slice p14_2.1 x14_2.1.length p14_2.2), (14, .int .i64 x15_3), (97, .bool x14_2.2)]) (bx' := [⟨p13_25, [.int .i64 x13_1, .int .i64 x13_4, .int .i64 x13_7, .int .i64 x13_10, .int .i64 x13_13, .int .i64 x13_16, .int .i64 x13_19, .int .i64 x13_22, .slice none 0 0, .slice none 0 0, .slice none 0 0, .int .i64 0, .int .i64 0, .slice none 0 0, .slice none 0 0, .slice none 0 0, .slice none 0 0], 34⟩, ⟨p0_0, [.int .i64 0, .int .i64 0, .int .i64 0, .int .i64 0, .int .i64 0, .int .i64 0, .int .i64 0, .int .i64 0, .slice none 0 0, .slice none 0 0, .slice none 0 0, .int .i64 0, .int .i64 0, .slice none 0 0, .slice none 0 0, .slice none 0 0, .slice none 0 0], 34⟩]) (by kernel_rfl) ?_
       refine O.q (v := .bool false) (some 98) (Qu.eqv (u := .bool (!x14_2.2)) (v := .bool false) (0, 0) [] (by kernel_rfl) (congrArg Value.bool hc10)) (by kernel_rfl) ?_
       refine O.pure 4 [] [2, 4, 10, 11, 12, 14, 102] [] (fr' := [(2, .pointer (some ⟨p0_0, 0, none⟩)), (4, .slice q3.1 o3.length q3.2), (10, .int .i64 x10_1), (11, .pointer (some ⟨p13_25, 0, none⟩)), (12, .slice p14_2.1 x14_2.1.length p14_2.2), (14, .int .i64 x15_3), (102, .bool (decide (x15_3 < 0)))]) (bx' := [⟨p13_25, [.int .i64 x13_1, .int .i64 x13_4, .int .i64 x13_7, .int .i64 x13_10, .int .i64 x13_13, .int .i64 x13_16, .int .i64 x13_19, .int .i64 x13_22, .slice none 0 0, .slice none 0 0, .slice none 0 0, .int .i64 0, .int .i64 0, .slice none 0 0, .slice none 0 0, .slice none 0 0, .slice none 0 0], 34⟩, ⟨p0_0, [.int .i64 0, .int .i64 0, .int .i64 0, .int .i64 0, .int .i64 0, .int .i64 0, .int .i64 0, .int .i64 0, .slice none 0 0, .slice none 0 0, .slice none 0 0, .int .i64 0, .int .i64 0, .slice none 0 0, .slice none 0 0, .slice none 0 0, .slice none 0 0], 34⟩]) (by kernel_rfl) ?_
       refine O.nil (by kernel_rfl) ?_
       rcases condE H with ⟨hc11, H⟩ | ⟨hc11, H⟩
       ·refine J.condT (x := .tmp 102) (t := (decide (x15_3 < 0))) (by kernel_rfl) (by kernel_rfl) hc11 ?_
        refine J.seq (by kernel_rfl) ?_
        refine J.region (by kernel_rfl) ?_
        refine O.pure 3 [(1, 0)] [2, 3] [p0_0, 0] (fr' := [(2, .pointer (some ⟨p0_0, 0, none⟩)), (3, .bool false)]) (bx' := [⟨p13_25, [.int .i64 x13_1, .int .i64 x13_4, .int .i64 x13_7, .int .i64 x13_10, .int .i64 x13_13, .int .i64 x13_16, .int .i64 x13_19, .int .i64 x13_22, .slice none 0 0, .slice none 0 0, .slice none 0 0, .int .i64 0, .int .i64 0, .slice none 0 0, .slice none 0 0, .slice none 0 0, .slice none 0 0], 34⟩, ⟨p0_0, [.int .i64 0, .int .i64 0, .int .i64 0, .int .i64 0, .int .i64 0, .int .i64 0, .int .i64 0, .int .i64 0, .slice none 0 0, .slice none 0 0, .slice none 0 0, .int .i64 0, .int .i64 0, .slice none 0 0, .slice none 0 0, .slice none 0 0, .slice none 0 0], 34⟩]) (by kernel_rfl) ?_
        refine O.nil (by kernel_rfl) ?_
        obtain rfl := Option.some.inj H
        refine J.nilF (Kd.int .i64) ?_
        refine J.nilrow (Kd.int .i64) 2 ?_
        refine J.nilrow Kd.bool 4 ?_
        refine J.nilrow kd77 77 ?_
        refine J.nilrow kd77 77 ?_
        exact J.doneS [(1, 0)] [p0_0, 0] [0, 0, 0] [] [3, 2, 1, 0] ((none, 0), (none, 0), (none, 0), (none, 0), (none, 0), (none, 0), (none, 0)) (vs := [.agg #[.int .i64 0, .int .i64 0, .int .i64 0, .int .i64 0, .int .i64 0, .int .i64 0, .int .i64 0, .int .i64 0, .slice none 0 0, .slice none 0 0, .slice none 0 0, .int .i64 0, .int .i64 0, .slice none 0 0, .slice none 0 0, .slice none 0 0, .slice none 0 0], .bool false]) (by kernel_rfl) (by kernel_rfl) (by kernel_rfl) (by kernel_rfl) (by kernel_rfl) (by decide)
       ·refine J.condF (x := .tmp 102) (t := (decide (x15_3 < 0))) (by kernel_rfl) (by kernel_rfl) hc11 ?_
        refine J.skip (by kernel_rfl) ?_
        refine J.seq (by kernel_rfl) ?_
        obtain ⟨x18_4, hx18_4, H⟩ := bindE H
        refine J.region (by kernel_rfl) ?_
        refine O.pure 4 [] [2, 4, 10, 11, 12, 14, 105, 107, 108] [] (fr' := [(2, .pointer (some ⟨p0_0, 0, none⟩)), (4, .slice q3.1 o3.length q3.2), (10, .int .i64 x10_1), (11, .pointer (some ⟨p13_25, 0, none⟩)), (12, .slice p14_2.1 x14_2.1.length p14_2.2), (14, .int .i64 x15_3), (105, .slice q3.1 o3.length q3.2), (107, .int .i64 (IntKind.wrap .i64 (10 + x10_1))), (108, .int .i64 x15_3)]) (bx' := [⟨p13_25, [.int .i64 x13_1, .int .i64 x13_4, .int .i64 x13_7, .int .i64 x13_10, .int .i64 x13_13, .int .i64 x13_16, .int .i64 x13_19, .int .i64 x13_22, .slice none 0 0, .slice none 0 0, .slice none 0 0, .int .i64 0, .int .i64 0, .slice none 0 0, .slice none 0 0, .slice none 0 0, .slice none 0 0], 34⟩, ⟨p0_0, [.int .i64 0, .int .i64 0, .int .i64 0, .int .i64 0, .int .i64 0, .int .i64 0, .int .i64 0, .int .i64 0, .slice none 0 0, .slice none 0 0, .slice none 0 0, .int .i64 0, .int .i64 0, .slice none 0 0, .slice none 0 0, .slice none 0 0, .slice none 0 0], 34⟩]) (by kernel_rfl) ?_
        refine O.e (some 109) (Ev.callLb (xs1 := [.tmp 105, .tmp 107, .tmp 108]) [0] (fun w hS => (hS.rowsel [1, 0] rfl (by decide)).freezeL (hh := q3) (m := o3.length) (xs := o3) rfl) (by kernel_rfl) (by kernel_rfl) (fun _ q hq _ _ _ h => by obtain rfl := List.mem_singleton.1 hq; exact h) (fun w hS => haywainref15_some.con K o3 (IntKind.wrap .i64 (10 + x10_1)) x15_3 q3  _ _ w hS hx18_4)) (by kernel_rfl) (fun p18_4 => ?_)
        refine O.pure 5 [] [2, 4, 10, 11, 12, 14, 15, 16] [] (fr' := [(2, .pointer (some ⟨p0_0, 0, none⟩)), (4, .slice q3.1 o3.length q3.2), (10, .int .i64 x10_1), (11, .pointer (some ⟨p13_25, 0, none⟩)), (12, .slice p14_2.1 x14_2.1.length p14_2.2), (14, .int .i64 x15_3), (15, .slice p18_4.1 x18_4.1.length p18_4.2), (16, .bool x18_4.2)]) (bx' := [⟨p13_25, [.int .i64 x13_1, .int .i64 x13_4, .int .i64 x13_7, .int .i64 x13_10, .int .i64 x13_13, .int .i64 x13_16, .int .i64 x13_19, .int .i64 x13_22, .slice none 0 0, .slice none 0 0, .slice none 0 0, .int .i64 0, .int .i64 0, .slice none 0 0, .slice none 0 0, .slice none 0 0, .slice none 0 0], 34⟩, ⟨p0_0, [.int .i64 0, .int .i64 0, .int .i64 0, .int .i64 0, .int .i64 0, .int .i64 0, .int .i64 0, .int .i64 0, .slice none 0 0, .slice none 0 0, .slice none 0 0, .int .i64 0, .int .i64 0, .slice none 0 0, .slice none 0 0, .slice none 0 0, .slice none 0 0], 34⟩]) (by kernel_rfl) ?_
        refine O.nil (by kernel_rfl) ?_
        refine J.seq (by kernel_rfl) ?_
        obtain ⟨x19_6, hx19_6, H⟩ := bindE H
        refine J.region (by kernel_rfl) ?_
        refine O.pure 6 [] [2, 4, 10, 11, 12, 14, 15, 16, 113, 117, 118] [] (fr' := [(2, .pointer (some ⟨p0_0, 0, none⟩)), (4, .slice q3.1 o3.length q3.2), (10, .int .i64 x10_1), (11, .pointer (some ⟨p13_25, 0, none⟩)), (12, .slice p14_2.1 x14_2.1.length p14_2.2), (14, .int .i64 x15_3), (15, .slice p18_4.1 x18_4.1.length p18_4.2), (16, .bool x18_4.2), (113, .slice q3.1 o3.length q3.2), (117, .int .i64 (IntKind.wrap .i64 ((IntKind.wrap .i64 (10 + x10_1)) + x15_3))), (118, .int .i64 x15_3)]) (bx' := [⟨p13_25, [.int .i64 x13_1, .int .i64 x13_4, .int .i64 x13_7, .int .i64 x13_10, .int .i64 x13_13, .int .i64 x13_16, .int .i64 x13_19, .int .i64 x13_22, .slice none 0 0, .slice none 0 0, .slice none 0 0, .int .i64 0, .int .i64 0, .slice none 0 0, .slice none 0 0, .slice none 0 0, .slice none 0 0], 34⟩, ⟨p0_0, [.int .i64 0, .int .i64 0, .int .i64 0, .int .i64 0, .int .i64 0, .int .i64 0, .int .i64 0, .int .i64 0, .slice none 0 0, .slice none 0 0, .slice none 0 0, .int .i64 0, .int .i64 0, .slice none 0 0, .slice none 0 0, .slice none 0 0, .slice none 0 0], 34⟩]) (by kernel_rfl) ?_
        refine O.e (some 119) (Ev.callLb (xs1 := [.tmp 113, .tmp 117, .tmp 118]) [0] (fun w hS => (hS.rowsel [2, 0, 1] rfl (by decide)).freezeL (hh := q3) (m := o3.length) (xs := o3) rfl) (by kernel_rfl) (by kernel_rfl) (fun _ q hq _ _ _ h => by obtain rfl := List.mem_singleton.1 hq; exact h) (fun w hS => haywainref15_some.con K o3 (IntKind.wrap .i64 ((IntKind.wrap .i64 (10 + x10_1)) + x15_3)) x15_3 q3  _ _ w hS hx19_6)) (by kernel_rfl) (fun p19_6 => ?_)
        refine O.pure 5 [] [2, 4, 10, 11, 12, 14, 15, 16, 17, 18] [] (fr' := [(2, .pointer (some ⟨p0_0, 0, none⟩)), (4, .slice q3.1 o3.length q3.2), (10, .int .i64 x10_1), (11, .pointer (some ⟨p13_25, 0, none⟩)), (12, .slice p14_2.1 x14_2.1.length p14_2.2), (14, .int .i64 x15_3), (15, .slice p18_4.1 x18_4.1.length p18_4.2), (16, .bool x18_4.2), (17, .slice p19_6.1 x19_6.1.length p19_6.2), (18, .bool x19_6.2)]) (bx' := [⟨p13_25, [.int .i64 x13_1, .int .i64 x13_4, .int .i64 x13_7, .int .i64 x13_10, .int .i64 x13_13, .int .i64 x13_16, .int .i64 x13_19, .int .i64 x13_22, .slice none 0 0, .slice none 0 0, .slice none 0 0, .int .i64 0, .int .i64 0, .slice none 0 0, .slice none 0 0, .slice none 0 0, .slice none 0 0], 34⟩, ⟨p0_0, [.int .i64 0, .int .i64 0, .int .i64 0, .int .i64 0, .int .i64 0, .int .i64 0, .int .i64 0, .int .i64 0, .slice none 0 0, .slice none 0 0, .slice none 0 0, .int .i64 0, .int .i64 0, .slice none 0 0, .slice none 0 0, .slice none 0 0, .slice none 0 0], 34⟩]) (by kernel_rfl) ?_
        refine O.nil (by kernel_rfl) ?_
        refine J.seq (by kernel_rfl) ?_
        refine J.seq (by kernel_rfl) ?_
        rcases condE H with ⟨hc12, H⟩ | ⟨hc12, H⟩
        ·refine J.region (by kernel_rfl) ?_
         refine O.pure 1 [] [2, 4, 10, 11, 12, 14, 15, 17, 18, 122] [] (fr' := [(2, .pointer (some ⟨p0_0, 0, none⟩)), (4, .slice q3.1 o3.length q3.2), (10, .int .i64 x10_1), (11, .pointer (some ⟨p13_25, 0, none⟩)), (12, .slice p14_2.1 x14_2.1.length p14_2.2), (14, .int .i64 x15_3), (15, .slice p18_4.1 x18_4.1.length p18_4.2), (17, .slice p19_6.1 x19_6.1.length p19_6.2), (18, .bool x19_6.2), (122, .bool x18_4.2)]) (bx' := [⟨p13_25, [.int .i64 x13_1, .int .i64 x13_4, .int .i64 x13_7, .int .i64 x13_10, .int .i64 x13_13, .int .i64 x13_16, .int .i64 x13_19, .int .i64 x13_22, .slice none 0 0, .slice none 0 0, .slice none 0 0, .int .i64 0, .int .i64 0, .slice none 0 0, .slice none 0 0, .slice none 0 0, .slice none 0 0], 34⟩, ⟨p0_0, [.int .i64 0, .int .i64 0, .int .i64 0, .int .i64 0, .int .i64 0, .int .i64 0, .int .i64 0, .int .i64 0, .slice none 0 0, .slice none 0 0, .slice none 0 0, .int .i64 0, .int .i64 0, .slice none 0 0, .slice none 0 0, .slice none 0 0, .slice none 0 0], 34⟩]) (by kernel_rfl) ?_
         refine O.q (v := .bool true) (some 123) (Qu.eqv (u := .bool (!x18_4.2)) (v := .bool true) (0, 0) [] (by kernel_rfl) (congrArg Value.bool hc12)) (by kernel_rfl) ?_
         refine O.pure 4 [] [2, 4, 10, 11, 12, 14, 15, 17, 127] [] (fr' := [(2, .pointer (some ⟨p0_0, 0, none⟩)), (4, .slice q3.1 o3.length q3.2), (10, .int .i64 x10_1), (11, .pointer (some ⟨p13_25, 0, none⟩)), (12, .slice p14_2.1 x14_2.1.length p14_2.2), (14, .int .i64 x15_3), (15, .slice p18_4.1 x18_4.1.length p18_4.2), (17, .slice p19_6.1 x19_6.1.length p19_6.2), (127, .bool true)]) (bx' := [⟨p13_25, [.int .i64 x13_1, .int .i64 x13_4, .int .i64 x13_7, .int .i64 x13_10, .int .i64 x13_13, .int .i64 x13_16, .int .i64 x13_19, .int .i64 x13_22, .slice none 0 0, .slice none 0 0, .slice none 0 0, .int .i64 0, .int .i64 0, .slice none 0 0, .slice none 0 0, .slice none 0 0, .slice none 0 0], 34⟩, ⟨p0_0, [.int .i64 0, .int .i64 0, .int .i64 0, .int .i64 0, .int .i64 0, .int .i64 0, .int .i64 0, .int .i64 0, .slice none 0 0, .slice none 0 0, .slice none 0 0, .int .i64 0, .int .i64 0, .slice none 0 0, .slice none 0 0, .slice none 0 0, .slice none 0 0], 34⟩]) (by kernel_rfl) ?_
         refine O.nil (by kernel_rfl) ?_
         refine J.cond (o := .tmp 127) true (by kernel_rfl) (by kernel_rfl) ?_
         refine J.seq (by kernel_rfl) ?_
         refine J.region (by kernel_rfl) ?_
         refine O.pure 3 [(1, 0)] [2, 3] [p0_0, 0] (fr' := [(2, .pointer (some ⟨p0_0, 0, none⟩)), (3, .bool false)]) (bx' := [⟨p13_25, [.int .i64 x13_1, .int .i64 x13_4, .int .i64 x13_7, .int .i64 x13_10, .int .i64 x13_13, .int .i64 x13_16, .int .i64 x13_19, .int .i64 x13_22, .slice none 0 0, .slice none 0 0, .slice none 0 0, .int .i64 0, .int .i64 0, .slice none 0 0, .slice none 0 0, .slice none 0 0, .slice none 0 0], 34⟩, ⟨p0_0, [.int .i64 0, .int .i64 0, .int .i64 0, .int .i64 0, .int .i64 0, .int .i64 0, .int .i64 0, .int .i64 0, .slice none 0 0, .slice none 0 0, .slice none 0 0, .int .i64 0, .int .i64 0, .slice none 0 0, .slice none 0 0, .slice none 0 0, .slice none 0 0], 34⟩]) (by kernel_rfl) ?_
         refine O.nil (by kernel_rfl) ?_
         obtain rfl := Option.some.inj H
         refine J.nilF (Kd.int .i64) ?_
         refine J.nilrow (Kd.int .i64) 2 ?_
         refine J.nilrow Kd.bool 4 ?_
         refine J.nilrow kd77 77 ?_
         refine J.nilrow kd77 77 ?_
         exact J.doneS [(1, 0)] [p0_0, 0] [0, 0, 0] [] [3, 2, 1, 0] ((none, 0), (none, 0), (none, 0), (none, 0), (none, 0), (none, 0), (none, 0)) (vs := [.agg #[.int .i64 0, .int .i64 0, .int .i64 0, .int .i64 0, .int .i64 0, .int .i64 0, .int .i64 0, .int .i64 0, .slice none 0 0, .slice none 0 0, .slice none 0 0, .int .i64 0, .int .i64 0, .slice none 0 0, .slice none 0 0, .slice none 0 0, .slice none 0 0], .bool false]) (by kernel_rfl) (by kernel_rfl) (by kernel_rfl) (by kernel_rfl) (by kernel_rfl) (by decide)
        ·refine J.region (by kernel_rfl) ?_
         refine O.pure 1 [] [2, 4, 10, 11, 12, 14, 15, 17, 18, 122] [] (fr' := [(2, .pointer (some ⟨p0_0, 0, none⟩)), (4, .slice q3.1 o3.length q3.2), (10, .int .i64 x10_1), (11, .pointer (some ⟨p13_25, 0, none⟩)), (12, .slice p14_2.1 x14_2.1.length p14_2.2), (14, .int .i64 x15_3), (15, .slice p18_4.1 x18_4.1.length p18_4.2), (17, .slice p19_6.1 x19_6.1.length p19_6.2), (18, .bool x19_6.2), (122, .bool x18_4.2)]) (bx' := [⟨p13_25, [.int .i64 x13_1, .int .i64 x13_4, .int .i64 x13_7, .int .i64 x13_10, .int .i64 x13_13, .int .i64 x13_16, .int .i64 x13_19, .int .i64 x13_22, .slice none 0 0, .slice none 0 0, .slice none 0 0, .int .i64 0, .int .i64 0, .slice none 0 0, .slice none 0 0, .slice none 0 0, .slice none 0 0], 34⟩, ⟨p0_0, [.int .i64 0, .int .i64 0, .int .i64 0, .int .i64 0, .int .i64 0, .int .i64 0, .int .i64 0, .int .i64 0, .slice none 0 0, .slice none 0 0, .slice none 0 0, .int .i64 0, .int .i64 0, .slice none 0 0, .slice none 0 0, .slice none 0 0, .slice none 0 0], 34⟩]) (by kernel_rfl) ?_
         refine O.q (v := .bool false) (some 123) (Qu.eqv (u := .bool (!x18_4.2)) (v := .bool false) (0, 0) [] (by kernel_rfl) (congrArg Value.bool hc12)) (by kernel_rfl) ?_
         refine O.pure 4 [] [2, 4, 10, 11, 12, 14, 15, 17, 127] [] (fr' := [(2, .pointer (some ⟨p0_0, 0, none⟩)), (4, .slice q3.1 o3.length q3.2), (10, .int .i64 x10_1), (11, .pointer (some ⟨p13_25, 0, none⟩)), (12, .slice p14_2.1 x14_2.1.length p14_2.2), (14, .int .i64 x15_3), (15, .slice p18_4.1 x18_4.1.length p18_4.2), (17, .slice p19_6.1 x19_6.1.length p19_6.2), (127, .bool (!x19_6.2))]) (bx' := [⟨p13_25, [.int .i64 x13_1, .int .i64 x13_4, .int .i64 x13_7, .int .i64 x13_10, .int .i64 x13_13, .int .i64 x13_16, .int .i64 x13_19, .int .i64 x13_22, .slice none 0 0, .slice none 0 0, .slice none 0 0, .int .i64 0, .int .i64 0, .slice none 0 0, .slice none 0 0, .slice none 0 0, .slice none 0 0], 34⟩, ⟨p0_0, [.int .i64 0, .int .i64 0, .int .i64 0, .int .i64 0, .int .i64 0, .int .i64 0, .int .i64 0, .int .i64 0, .slice none 0 0, .slice none 0 0, .slice none 0 0, .int .i64 0, .int .i64 0, .slice none 0 0, .slice none 0 0, .slice none 0 0, .slice none 0 0], 34⟩]) (by kernel_rfl) ?_
         refine O.nil (by kernel_rfl) ?_
         rcases condE H with ⟨hc13, H⟩ | ⟨hc13, H⟩
         ·refine J.condT (x := .tmp 127) (t := (!x19_6.2)) (by kernel_rfl) (by kernel_rfl) hc13 ?_
          refine J.seq (by kernel_rfl) ?_
          refine J.region (by kernel_rfl) ?_
          refine O.pure 3 [(1, 0)] [2, 3] [p0_0, 0] (fr' := [(2, .pointer (some ⟨p0_0, 0, none⟩)), (3, .bool false)]) (bx' := [⟨p13_25, [.int .i64 x13_1, .int .i64 x13_4, .int .i64 x13_7, .int .i64 x13_10, .int .i64 x13_13, .int .i64 x13_16, .int .i64 x13_19, .int .i64 x13_22, .slice none 0 0, .slice none 0 0, .slice none 0 0, .int .i64 0, .int .i64 0, .slice none 0 0, .slice none 0 0, .slice none 0 0, .slice none 0 0], 34⟩, ⟨p0_0, [.int .i64 0, .int .i64 0, .int .i64 0, .int .i64 0, .int .i64 0, .int .i64 0, .int .i64 0, .int .i64 0, .slice none 0 0, .slice none 0 0, .slice none 0 0, .int .i64 0, .int .i64 0, .slice none 0 0, .slice none 0 0, .slice none 0 0, .slice none 0 0], 34⟩]) (by kernel_rfl) ?_
          refine O.nil (by kernel_rfl) ?_
          obtain rfl := Option.some.inj H
          refine J.nilF (Kd.int .i64) ?_
          refine J.nilrow (Kd.int .i64) 2 ?_
          refine J.nilrow Kd.bool 4 ?_
          refine J.nilrow kd77 77 ?_
          refine J.nilrow kd77 77 ?_
          exact J.doneS [(1, 0)] [p0_0, 0] [0, 0, 0] [] [3, 2, 1, 0] ((none, 0), (none, 0), (none, 0), (none, 0), (none, 0), (none, 0), (none, 0)) (vs := [.agg #[.int .i64 0, .int .i64 0, .int .i64 0, .int .i64 0, .int .i64 0, .int .i64 0, .int .i64 0, .int .i64 0, .slice none 0 0, .slice none 0 0, .slice none 0 0, .int .i64 0, .int .i64 0, .slice none 0 0, .slice none 0 0, .slice none 0 0, .slice none 0 0], .bool false]) (by kernel_rfl) (by kernel_rfl) (by kernel_rfl) (by kernel_rfl) (by kernel_rfl) (by decide)
         ·refine J.condF (x := .tmp 127) (t := (!x19_6.2)) (by kernel_rfl) (by kernel_rfl) hc13 ?_
          refine J.skip (by kernel_rfl) ?_
          refine J.seq (by kernel_rfl) ?_
          refine J.region (by kernel_rfl) ?_
          refine O.pure 9 [(0, 8), (0, 9), (0, 10)] [2, 4, 10, 11, 14] [p13_25, 8, p13_25, 9, p13_25, 10] (fr' := [(2, .pointer (some ⟨p0_0, 0, none⟩)), (4, .slice q3.1 o3.length q3.2), (10, .int .i64 x10_1), (11, .pointer (some ⟨p13_25, 0, none⟩)), (14, .int .i64 x15_3)]) (bx' := [⟨p13_25, [.int .i64 x13_1, .int .i64 x13_4, .int .i64 x13_7, .int .i64 x13_10, .int .i64 x13_13, .int .i64 x13_16, .int .i64 x13_19, .int .i64 x13_22, .slice p14_2.1 x14_2.1.length p14_2.2, .slice p18_4.1 x18_4.1.length p18_4.2, .slice p19_6.1 x19_6.1.length p19_6.2, .int .i64 0, .int .i64 0, .slice none 0 0, .slice none 0 0, .slice none 0 0, .slice none 0 0], 34⟩, ⟨p0_0, [.int .i64 0, .int .i64 0, .int .i64 0, .int .i64 0, .int .i64 0, .int .i64 0, .int .i64 0, .int .i64 0, .slice none 0 0, .slice none 0 0, .slice none 0 0, .int .i64 0, .int .i64 0, .slice none 0 0, .slice none 0 0, .slice none 0 0, .slice none 0 0], 34⟩]) (by kernel_rfl) ?_
          refine O.nil (by kernel_rfl) ?_
          refine J.seq (by kernel_rfl) ?_
          obtain ⟨x23_7, hx23_7, H⟩ := bindE H
          refine J.region (by kernel_rfl) ?_
          refine O.pure 7 [(0, 0)] [2, 136, 141, 142] [p13_25, 0] (fr' := [(2, .pointer (some ⟨p0_0, 0, none⟩)), (136, .slice q3.1 o3.length q3.2), (141, .int .i64 (IntKind.wrap .i64 ((IntKind.wrap .i64 (10 + x10_1)) + (IntKind.wrap .i64 (2 * x15_3))))), (142, .agg #[.int .i64 x13_1, .int .i64 x13_4, .int .i64 x13_7, .int .i64 x13_10, .int .i64 x13_13, .int .i64 x13_16, .int .i64 x13_19, .int .i64 x13_22, .slice p14_2.1 x14_2.1.length p14_2.2, .slice p18_4.1 x18_4.1.length p18_4.2, .slice p19_6.1 x19_6.1.length p19_6.2, .int .i64 0, .int .i64 0, .slice none 0 0, .slice none 0 0, .slice none 0 0, .slice none 0 0])]) (bx' := [⟨p13_25, [.int .i64 x13_1, .int .i64 x13_4, .int .i64 x13_7, .int .i64 x13_10, .int .i64 x13_13, .int .i64 x13_16, .int .i64 x13_19, .int .i64 x13_22, .slice p14_2.1 x14_2.1.length p14_2.2, .slice p18_4.1 x18_4.1.length p18_4.2, .slice p19_6.1 x19_6.1.length p19_6.2, .int .i64 0, .int .i64 0, .slice none 0 0, .slice none 0 0, .slice none 0 0, .slice none 0 0], 34⟩, ⟨p0_0, [.int .i64 0, .int .i64 0, .int .i64 0, .int .i64 0, .int .i64 0, .int .i64 0, .int .i64 0, .int .i64 0, .slice none 0 0, .slice none 0 0, .slice none 0 0, .int .i64 0, .int .i64 0, .slice none 0 0, .slice none 0 0, .slice none 0 0, .slice none 0 0], 34⟩]) (by kernel_rfl) ?_
          refine O.e (some 143) (Ev.mono (fun w hS => hS.rowsel [3, 0, 1, 2] rfl (by decide)) (Ev.mono (fun w hS => hS.freezeH (h := q3) (xs := o3)) (Ev.mono (fun w hS => hS.rowsel [2, 0, 1] rfl (by decide)) (Ev.mono (fun w hS => hS.freezeH (h := p14_2) (xs := x14_2.1)) (Ev.mono (fun w hS => hS.rowsel [1, 0] rfl (by decide)) (Ev.mono (fun w hS => hS.freezeH (h := p18_4) (xs := x18_4.1)) (Ev.mono (fun w hS => hS.freezeH (h := p19_6) (xs := x19_6.1)) (Ev.mono (fun w hS => hS.add (fun w' _ => Rd.nil kd77 w')) (Ev.mono (fun w hS => hS.nilrow (Kd.int .i64) 2) (Ev.mono (fun w hS => hS.nilrow Kd.bool 4) (Ev.callS (xs := [.tmp 136, .tmp 141, .tmp 142]) (bxr := [⟨p13_25, [.int .i64 x13_1, .int .i64 x13_4, .int .i64 x13_7, .int .i64 x13_10, .int .i64 x13_13, .int .i64 x13_16, .int .i64 x13_19, .int .i64 x13_22, .slice p14_2.1 x14_2.1.length p14_2.2, .slice p18_4.1 x18_4.1.length p18_4.2, .slice p19_6.1 x19_6.1.length p19_6.2, .int .i64 0, .int .i64 0, .slice none 0 0, .slice none 0 0, .slice none 0 0, .slice none 0 0], 34⟩, ⟨p0_0, [.int .i64 0, .int .i64 0, .int .i64 0, .int .i64 0, .int .i64 0, .int .i64 0, .int .i64 0, .int .i64 0, .slice none 0 0, .slice none 0 0, .slice none 0 0, .int .i64 0, .int .i64 0, .slice none 0 0, .slice none 0 0, .slice none 0 0, .slice none 0 0], 34⟩]) (rwr := []) [] [0, 1] [1, 0] [] [4, 3, 2, 1, 0, 0] (by kernel_rfl) (by kernel_rfl) (by kernel_rfl) (by kernel_rfl) (by decide) (fun w hS => haywainref15_body.con K o3 (IntKind.wrap .i64 ((IntKind.wrap .i64 (10 + x10_1)) + (IntKind.wrap .i64 (2 * x15_3)))) (⟨x13_1, x13_4, x13_7, x13_10, x13_13, x13_16, x13_19, x13_22, x14_2.1, x18_4.1, x19_6.1, (⟨0, 0, ([] : List Int), ([] : List Bool), ([] : List S77)⟩ : S27), ([] : List S77)⟩ : S34) q3 p14_2 p18_4 p19_6 (none, 0) (none, 0) (none, 0) (none, 0)  _ _ w hS hx23_7)))))))))))) (by kernel_rfl) (fun p23_7 => ?_)
          refine O.pure 3 [] [2, 144, 145] [] (fr' := [(2, .pointer (some ⟨p0_0, 0, none⟩)), (144, .agg #[.int .i64 x23_7.1.f0, .int .i64 x23_7.1.f1, .int .i64 x23_7.1.f2, .int .i64 x23_7.1.f3, .int .i64 x23_7.1.f4, .int .i64 x23_7.1.f5, .int .i64 x23_7.1.f6, .int .i64 x23_7.1.f7, .slice p23_7.1.1 x23_7.1.f8.length p23_7.1.2, .slice p23_7.2.1.1 x23_7.1.f9.length p23_7.2.1.2, .slice p23_7.2.2.1.1 x23_7.1.f10.length p23_7.2.2.1.2, .int .i64 x23_7.1.f11.f0, .int .i64 x23_7.1.f11.f1, .slice p23_7.2.2.2.1.1 x23_7.1.f11.f2.length p23_7.2.2.2.1.2, .slice p23_7.2.2.2.2.1.1 x23_7.1.f11.f3.length p23_7.2.2.2.2.1.2, .slice p23_7.2.2.2.2.2.1.1 x23_7.1.f11.f4.length p23_7.2.2.2.2.2.1.2, .slice p23_7.2.2.2.2.2.2.1 x23_7.1.f12.length p23_7.2.2.2.2.2.2.2]), (145, .bool x23_7.2)]) (bx' := [⟨p13_25, [.int .i64 x13_1, .int .i64 x13_4, .int .i64 x13_7, .int .i64 x13_10, .int .i64 x13_13, .int .i64 x13_16, .int .i64 x13_19, .int .i64 x13_22, .slice p14_2.1 x14_2.1.length p14_2.2, .slice p18_4.1 x18_4.1.length p18_4.2, .slice p19_6.1 x19_6.1.length p19_6.2, .int .i64 0, .int .i64 0, .slice none 0 0, .slice none 0 0, .slice none 0 0, .slice none 0 0], 34⟩, ⟨p0_0, [.int .i64 0, .int .i64 0, .int .i64 0, .int .i64 0, .int .i64 0, .int .i64 0, .int .i64 0, .int .i64 0, .slice none 0 0, .slice none 0 0, .slice none 0 0, .int .i64 0, .int .i64 0, .slice none 0 0, .slice none 0 0, .slice none 0 0, .slice none 0 0], 34⟩]) (by kernel_rfl) ?_
          refine O.e (some 19) (Ev.alloc (t := 34) (z := .agg #[.int .i64 0, .int .i64 0, .int .i64 0, .int .i64 0, .int .i64 0, .int .i64 0, .int .i64 0, .int .i64 0, .slice none 0 0, .slice none 0 0, .slice none 0 0, .int .i64 0, .int .i64 0, .slice none 0 0, .slice none 0 0, .slice none 0 0, .slice none 0 0]) (by kernel_rfl) (by kernel_rfl)) (by kernel_rfl) (fun p23_11 => ?_)
          refine O.pure 2 [(0, 0)] [2, 19, 20] [p23_11, 0] (fr' := [(2, .pointer (some ⟨p0_0, 0, none⟩)), (19, .pointer (some ⟨p23_11, 0, none⟩)), (20, .bool x23_7.2)]) (bx' := [⟨p23_11, [.int .i64 x23_7.1.f0, .int .i64 x23_7.1.f1, .int .i64 x23_7.1.f2, .int .i64 x23_7.1.f3, .int .i64 x23_7.1.f4, .int .i64 x23_7.1.f5, .int .i64 x23_7.1.f6, .int .i64 x23_7.1.f7, .slice p23_7.1.1 x23_7.1.f8.length p23_7.1.2, .slice p23_7.2.1.1 x23_7.1.f9.length p23_7.2.1.2, .slice p23_7.2.2.1.1 x23_7.1.f10.length p23_7.2.2.1.2, .int .i64 x23_7.1.f11.f0, .int .i64 x23_7.1.f11.f1, .slice p23_7.2.2.2.1.1 x23_7.1.f11.f2.length p23_7.2.2.2.1.2, .slice p23_7.2.2.2.2.1.1 x23_7.1.f11.f3.length p23_7.2.2.2.2.1.2, .slice p23_7.2.2.2.2.2.1.1 x23_7.1.f11.f4.length p23_7.2.2.2.2.2.1.2, .slice p23_7.2.2.2.2.2.2.1 x23_7.1.f12.length p23_7.2.2.2.2.2.2.2], 34⟩, ⟨p13_25, [.int .i64 x13_1, .int .i64 x13_4, .int .i64 x13_7, .int .i64 x13_10, .int .i64 x13_13, .int .i64 x13_16, .int .i64 x13_19, .int .i64 x13_22, .slice p14_2.1 x14_2.1.length p14_2.2, .slice p18_4.1 x18_4.1.length p18_4.2, .slice p19_6.1 x19_6.1.length p19_6.2, .int .i64 0, .int .i64 0, .slice none 0 0, .slice none 0 0, .slice none 0 0, .slice none 0 0], 34⟩, ⟨p0_0, [.int .i64 0, .int .i64 0, .int .i64 0, .int .i64 0, .int .i64 0, .int .i64 0, .int .i64 0, .int .i64 0, .slice none 0 0, .slice none 0 0, .slice none 0 0, .int .i64 0, .int .i64 0, .slice none 0 0, .slice none 0 0, .slice none 0 0, .slice none 0 0], 34⟩]) (by kernel_rfl) ?_
          refine O.nil (by kernel_rfl) ?_
          refine J.seq (by kernel_rfl) ?_
          refine J.seq (by kernel_rfl) ?_
          rcases condE H with ⟨hc14, H⟩ | ⟨hc14, H⟩
          ·refine J.region (by kernel_rfl) ?_
           refine O.pure 1 [] [2, 19, 146] [] (fr' := [(2, .pointer (some ⟨p0_0, 0, none⟩)), (19, .pointer (some ⟨p23_11, 0, none⟩)), (146, .bool x23_7.2)]) (bx' := [⟨p23_11, [.int .i64 x23_7.1.f0, .int .i64 x23_7.1.f1, .int .i64 x23_7.1.f2, .int .i64 x23_7.1.f3, .int .i64 x23_7.1.f4, .int .i64 x23_7.1.f5, .int .i64 x23_7.1.f6, .int .i64 x23_7.1.f7, .slice p23_7.1.1 x23_7.1.f8.length p23_7.1.2, .slice p23_7.2.1.1 x23_7.1.f9.length p23_7.2.1.2, .slice p23_7.2.2.1.1 x23_7.1.f10.length p23_7.2.2.1.2, .int .i64 x23_7.1.f11.f0, .int .i64 x23_7.1.f11.f1, .slice p23_7.2.2.2.1.1 x23_7.1.f11.f2.length p23_7.2.2.2.1.2, .slice p23_7.2.2.2.2.1.1 x23_7.1.f11.f3.length p23_7.2.2.2.2.1.2, .slice p23_7.2.2.2.2.2.1.1 x23_7.1.f11.f4.length p23_7.2.2.2.2.2.1.2, .slice p23_7.2.2.2.2.2.2.1 x23_7.1.f12.length p23_7.2.2.2.2.2.2.2], 34⟩, ⟨p13_25, [.int .i64 x13_1, .int .i64 x13_4, .int .i64 x13_7, .int .i64 x13_10, .int .i64 x13_13, .int .i64 x13_16, .int .i64 x13_19, .int .i64 x13_22, .slice p14_2.1 x14_2.1.length p14_2.2, .slice p18_4.1 x18_4.1.length p18_4.2, .slice p19_6.1 x19_6.1.length p19_6.2, .int .i64 0, .int .i64 0, .slice none 0 0, .slice none 0 0, .slice none 0 0, .slice none 0 0], 34⟩, ⟨p0_0, [.int .i64 0, .int .i64 0, .int .i64 0, .int .i64 0, .int .i64 0, .int .i64 0, .int .i64 0, .int .i64 0, .slice none 0 0, .slice none 0 0, .slice none 0 0, .int .i64 0, .int .i64 0, .slice none 0 0, .slice none 0 0, .slice none 0 0, .slice none 0 0], 34⟩]) (by kernel_rfl) ?_
           refine O.q (v := .bool true) (some 147) (Qu.eqv (u := .bool (!x23_7.2)) (v := .bool true) (0, 0) [] (by kernel_rfl) (congrArg Value.bool hc14)) (by kernel_rfl) ?_
           refine O.pure 5 [] [2, 19, 152] [] (fr' := [(2, .pointer (some ⟨p0_0, 0, none⟩)), (19, .pointer (some ⟨p23_11, 0, none⟩)), (152, .bool true)]) (bx' := [⟨p23_11, [.int .i64 x23_7.1.f0, .int .i64 x23_7.1.f1, .int .i64 x23_7.1.f2, .int .i64 x23_7.1.f3, .int .i64 x23_7.1.f4, .int .i64 x23_7.1.f5, .int .i64 x23_7.1.f6, .int .i64 x23_7.1.f7, .slice p23_7.1.1 x23_7.1.f8.length p23_7.1.2, .slice p23_7.2.1.1 x23_7.1.f9.length p23_7.2.1.2, .slice p23_7.2.2.1.1 x23_7.1.f10.length p23_7.2.2.1.2, .int .i64 x23_7.1.f11.f0, .int .i64 x23_7.1.f11.f1, .slice p23_7.2.2.2.1.1 x23_7.1.f11.f2.length p23_7.2.2.2.1.2, .slice p23_7.2.2.2.2.1.1 x23_7.1.f11.f3.length p23_7.2.2.2.2.1.2, .slice p23_7.2.2.2.2.2.1.1 x23_7.1.f11.f4.length p23_7.2.2.2.2.2.1.2, .slice p23_7.2.2.2.2.2.2.1 x23_7.1.f12.length p23_7.2.2.2.2.2.2.2], 34⟩, ⟨p13_25, [.int .i64 x13_1, .int .i64 x13_4, .int .i64 x13_7, .int .i64 x13_10, .int .i64 x13_13, .int .i64 x13_16, .int .i64 x13_19, .int .i64 x13_22, .slice p14_2.1 x14_2.1.length p14_2.2, .slice p18_4.1 x18_4.1.length p18_4.2, .slice p19_6.1 x19_6.1.length p19_6.2, .int .i64 0, .int .i64 0, .slice none 0 0, .slice none 0 0, .slice none 0 0, .slice none 0 0], 34⟩, ⟨p0_0, [.int .i64 0, .int .i64 0, .int .i64 0, .int .i64 0, .int .i64 0, .int .i64 0, .int .i64 0, .int .i64 0, .slice none 0 0, .slice none 0 0, .slice none 0 0, .int .i64 0, .int .i64 0, .slice none 0 0, .slice none 0 0, .slice none 0 0, .slice none 0 0], 34⟩]) (by kernel_rfl) ?_
           refine O.nil (by kernel_rfl) ?_
           refine J.cond (o := .tmp 152) true (by kernel_rfl) (by kernel_rfl) ?_
           refine J.seq (by kernel_rfl) ?_
           refine J.region (by kernel_rfl) ?_
           refine O.pure 3 [(2, 0)] [2, 3] [p0_0, 0] (fr' := [(2, .pointer (some ⟨p0_0, 0, none⟩)), (3, .bool false)]) (bx' := [⟨p23_11, [.int .i64 x23_7.1.f0, .int .i64 x23_7.1.f1, .int .i64 x23_7.1.f2, .int .i64 x23_7.1.f3, .int .i64 x23_7.1.f4, .int .i64 x23_7.1.f5, .int .i64 x23_7.1.f6, .int .i64 x23_7.1.f7, .slice p23_7.1.1 x23_7.1.f8.length p23_7.1.2, .slice p23_7.2.1.1 x23_7.1.f9.length p23_7.2.1.2, .slice p23_7.2.2.1.1 x23_7.1.f10.length p23_7.2.2.1.2, .int .i64 x23_7.1.f11.f0, .int .i64 x23_7.1.f11.f1, .slice p23_7.2.2.2.1.1 x23_7.1.f11.f2.length p23_7.2.2.2.1.2, .slice p23_7.2.2.2.2.1.1 x23_7.1.f11.f3.length p23_7.2.2.2.2.1.2, .slice p23_7.2.2.2.2.2.1.1 x23_7.1.f11.f4.length p23_7.2.2.2.2.2.1.2, .slice p23_7.2.2.2.2.2.2.1 x23_7.1.f12.length p23_7.2.2.2.2.2.2.2], 34⟩, ⟨p13_25, [.int .i64 x13_1, .int .i64 x13_4, .int .i64 x13_7, .int .i64 x13_10, .int .i64 x13_13, .int .i64 x13_16, .int .i64 x13_19, .int .i64 x13_22, .slice p14_2.1 x14_2.1.length p14_2.2, .slice p18_4.1 x18_4.1.length p18_4.2, .slice p19_6.1 x19_6.1.length p19_6.2, .int .i64 0, .int .i64 0, .slice none 0 0, .slice none 0 0, .slice none 0 0, .slice none 0 0], 34⟩, ⟨p0_0, [.int .i64 0, .int .i64 0, .int .i64 0, .int .i64 0, .int .i64 0, .int .i64 0, .int .i64 0, .int .i64 0, .slice none 0 0, .slice none 0 0, .slice none 0 0, .int .i64 0, .int .i64 0, .slice none 0 0, .slice none 0 0, .slice none 0 0, .slice none 0 0], 34⟩]) (by kernel_rfl) ?_
           refine O.nil (by kernel_rfl) ?_
           obtain rfl := Option.some.inj H
           refine J.nilF (Kd.int .i64) ?_
           refine J.nilrow (Kd.int .i64) 2 ?_
           refine J.nilrow Kd.bool 4 ?_
           refine J.nilrow kd77 77 ?_
           refine J.nilrow kd77 77 ?_
           exact J.doneS [(2, 0)] [p0_0, 0] [0, 0, 0] [] [3, 2, 1, 0] ((none, 0), (none, 0), (none, 0), (none, 0), (none, 0), (none, 0), (none, 0)) (vs := [.agg #[.int .i64 0, .int .i64 0, .int .i64 0, .int .i64 0, .int .i64 0, .int .i64 0, .int .i64 0, .int .i64 0, .slice none 0 0, .slice none 0 0, .slice none 0 0, .int .i64 0, .int .i64 0, .slice none 0 0, .slice none 0 0, .slice none 0 0, .slice none 0 0], .bool false]) (by kernel_rfl) (by kernel_rfl) (by kernel_rfl) (by kernel_rfl) (by kernel_rfl) (by decide)
          ·obtain ⟨x24_4, hx24_4, H⟩ := bindE H
           refine J.region (by kernel_rfl) ?_
           refine O.pure 1 [] [2, 19, 146] [] (fr' := [(2, .pointer (some ⟨p0_0, 0, none⟩)), (19, .pointer (some ⟨p23_11, 0, none⟩)), (146, .bool x23_7.2)]) (bx' := [⟨p23_11, [.int .i64 x23_7.1.f0, .int .i64 x23_7.1.f1, .int .i64 x23_7.1.f2, .int .i64 x23_7.1.f3, .int .i64 x23_7.1.f4, .int .i64 x23_7.1.f5, .int .i64 x23_7.1.f6, .int .i64 x23_7.1.f7, .slice p23_7.1.1 x23_7.1.f8.length p23_7.1.2, .slice p23_7.2.1.1 x23_7.1.f9.length p23_7.2.1.2, .slice p23_7.2.2.1.1 x23_7.1.f10.length p23_7.2.2.1.2, .int .i64 x23_7.1.f11.f0, .int .i64 x23_7.1.f11.f1, .slice p23_7.2.2.2.1.1 x23_7.1.f11.f2.length p23_7.2.2.2.1.2, .slice p23_7.2.2.2.2.1.1 x23_7.1.f11.f3.length p23_7.2.2.2.2.1.2, .slice p23_7.2.2.2.2.2.1.1 x23_7.1.f11.f4.length p23_7.2.2.2.2.2.1.2, .slice p23_7.2.2.2.2.2.2.1 x23_7.1.f12.length p23_7.2.2.2.2.2.2.2], 34⟩, ⟨p13_25, [.int .i64 x13_1, .int .i64 x13_4, .int .i64 x13_7, .int .i64 x13_10, .int .i64 x13_13, .int .i64 x13_16, .int .i64 x13_19, .int .i64 x13_22, .slice p14_2.1 x14_2.1.length p14_2.2, .slice p18_4.1 x18_4.1.length p18_4.2, .slice p19_6.1 x19_6.1.length p19_6.2, .int .i64 0, .int .i64 0, .slice none 0 0, .slice none 0 0, .slice none 0 0, .slice none 0 0], 34⟩, ⟨p0_0, [.int .i64 0, .int .i64 0, .int .i64 0, .int .i64 0, .int .i64 0, .int .i64 0, .int .i64 0, .int .i64 0, .slice none 0 0, .slice none 0 0, .slice none 0 0, .int .i64 0, .int .i64 0, .slice none 0 0, .slice none 0 0, .slice none 0 0, .slice none 0 0], 34⟩]) (by kernel_rfl) ?_
           refine O.q (v := .bool false) (some 147) (Qu.eqv (u := .bool (!x23_7.2)) (v := .bool false) (0, 0) [] (by kernel_rfl) (congrArg Value.bool hc14)) (by kernel_rfl) ?_
           refine O.pure 2 [(0, 0)] [2, 19, 148, 149] [p23_11, 0] (fr' := [(2, .pointer (some ⟨p0_0, 0, none⟩)), (19, .pointer (some ⟨p23_11, 0, none⟩)), (148, .bool false), (149, .agg #[.int .i64 x23_7.1.f0, .int .i64 x23_7.1.f1, .int .i64 x23_7.1.f2, .int .i64 x23_7.1.f3, .int .i64 x23_7.1.f4, .int .i64 x23_7.1.f5, .int .i64 x23_7.1.f6, .int .i64 x23_7.1.f7, .slice p23_7.1.1 x23_7.1.f8.length p23_7.1.2, .slice p23_7.2.1.1 x23_7.1.f9.length p23_7.2.1.2, .slice p23_7.2.2.1.1 x23_7.1.f10.length p23_7.2.2.1.2, .int .i64 x23_7.1.f11.f0, .int .i64 x23_7.1.f11.f1, .slice p23_7.2.2.2.1.1 x23_7.1.f11.f2.length p23_7.2.2.2.1.2, .slice p23_7.2.2.2.2.1.1 x23_7.1.f11.f3.length p23_7.2.2.2.2.1.2, .slice p23_7.2.2.2.2.2.1.1 x23_7.1.f11.f4.length p23_7.2.2.2.2.2.1.2, .slice p23_7.2.2.2.2.2.2.1 x23_7.1.f12.length p23_7.2.2.2.2.2.2.2])]) (bx' := [⟨p23_11, [.int .i64 x23_7.1.f0, .int .i64 x23_7.1.f1, .int .i64 x23_7.1.f2, .int .i64 x23_7.1.f3, .int .i64 x23_7.1.f4, .int .i64 x23_7.1.f5, .int .i64 x23_7.1.f6, .int .i64 x23_7.1.f7, .slice p23_7.1.1 x23_7.1.f8.length p23_7.1.2, .slice p23_7.2.1.1 x23_7.1.f9.length p23_7.2.1.2, .slice p23_7.2.2.1.1 x23_7.1.f10.length p23_7.2.2.1.2, .int .i64 x23_7.1.f11.f0, .int .i64 x23_7.1.f11.f1, .slice p23_7.2.2.2.1.1 x23_7.1.f11.f2.length p23_7.2.2.2.1.2, .slice p23_7.2.2.2.2.1.1 x23_7.1.f11.f3.length p23_7.2.2.2.2.1.2, .slice p23_7.2.2.2.2.2.1.1 x23_7.1.f11.f4.length p23_7.2.2.2.2.2.1.2, .slice p23_7.2.2.2.2.2.2.1 x23_7.1.f12.length p23_7.2.2.2.2.2.2.2], 34⟩, ⟨p13_25, [.int .i64 x13_1, .int .i64 x13_4, .int .i64 x13_7, .int .i64 x13_10, .int .i64 x13_13, .int .i64 x13_16, .int .i64 x13_19, .int .i64 x13_22, .slice p14_2.1 x14_2.1.length p14_2.2, .slice p18_4.1 x18_4.1.length p18_4.2, .slice p19_6.1 x19_6.1.length p19_6.2, .int .i64 0, .int .i64 0, .slice none 0 0, .slice none 0 0, .slice none 0 0, .slice none 0 0], 34⟩, ⟨p0_0, [.int .i64 0, .int .i64 0, .int .i64 0, .int .i64 0, .int .i64 0, .int .i64 0, .int .i64 0, .int .i64 0, .slice none 0 0, .slice none 0 0, .slice none 0 0, .int .i64 0, .int .i64 0, .slice none 0 0, .slice none 0 0, .slice none 0 0, .slice none 0 0], 34⟩]) (by kernel_rfl) ?_
           refine O.e (some 150) (Ev.callLb (xs1 := [.tmp 149]) [4, 5, 6, 3, 2, 1, 0] (fun w hS => ((((hS.rowsel [0, 1, 2, 3] rfl (by decide)).freezeL (hh := p23_7.2.2.2.1) (m := x23_7.1.f11.f2.length) (xs := x23_7.1.f11.f2) rfl).freezeL (hh := p23_7.2.2.2.2.1) (m := x23_7.1.f11.f3.length) (xs := x23_7.1.f11.f3) rfl).freezeL (hh := p23_7.2.2.2.2.2.1) (m := x23_7.1.f11.f4.length) (xs := x23_7.1.f11.f4) rfl).freezeL (hh := p23_7.2.2.2.2.2.2) (m := x23_7.1.f12.length) (xs := x23_7.1.f12) rfl) (by kernel_rfl) (by kernel_rfl) (fun _ q hq => by cases hq) (fun w hS => haywainref15_Right.con K x23_7.1 p23_7.1 p23_7.2.1 p23_7.2.2.1 p23_7.2.2.2.1 p23_7.2.2.2.2.1 p23_7.2.2.2.2.2.1 p23_7.2.2.2.2.2.2  _ _ w hS hx24_4)) (by kernel_rfl) (fun _ => ?_)
           refine O.pure 2 [] [2, 19, 152] [] (fr' := [(2, .pointer (some ⟨p0_0, 0, none⟩)), (19, .pointer (some ⟨p23_11, 0, none⟩)), (152, .bool (!x24_4))]) (bx' := [⟨p23_11, [.int .i64 x23_7.1.f0, .int .i64 x23_7.1.f1, .int .i64 x23_7.1.f2, .int .i64 x23_7.1.f3, .int .i64 x23_7.1.f4, .int .i64 x23_7.1.f5, .int .i64 x23_7.1.f6, .int .i64 x23_7.1.f7, .slice p23_7.1.1 x23_7.1.f8.length p23_7.1.2, .slice p23_7.2.1.1 x23_7.1.f9.length p23_7.2.1.2, .slice p23_7.2.2.1.1 x23_7.1.f10.length p23_7.2.2.1.2, .int .i64 x23_7.1.f11.f0, .int .i64 x23_7.1.f11.f1, .slice p23_7.2.2.2.1.1 x23_7.1.f11.f2.length p23_7.2.2.2.1.2, .slice p23_7.2.2.2.2.1.1 x23_7.1.f11.f3.length p23_7.2.2.2.2.1.2, .slice p23_7.2.2.2.2.2.1.1 x23_7.1.f11.f4.length p23_7.2.2.2.2.2.1.2, .slice p23_7.2.2.2.2.2.2.1 x23_7.1.f12.length p23_7.2.2.2.2.2.2.2], 34⟩, ⟨p13_25, [.int .i64 x13_1, .int .i64 x13_4, .int .i64 x13_7, .int .i64 x13_10, .int .i64 x13_13, .int .i64 x13_16, .int .i64 x13_19, .int .i64 x13_22, .slice p14_2.1 x14_2.1.length p14_2.2, .slice p18_4.1 x18_4.1.length p18_4.2, .slice p19_6.1 x19_6.1.length p19_6.2, .int .i64 0, .int .i64 0, .slice none 0 0, .slice none 0 0, .slice none 0 0, .slice none 0 0], 34⟩, ⟨p0_0, [.int .i64 0, .int .i64 0, .int .i64 0, .int .i64 0, .int .i64 0, .int .i64 0, .int .i64 0, .int .i64 0, .slice none 0 0, .slice none 0 0, .slice none 0 0, .int .i64 0, .int .i64 0, .slice none 0 0, .slice none 0 0, .slice none 0 0, .slice none 0 0], 34⟩]) (by kernel_rfl) ?_
           refine O.nil (by kernel_rfl) ?_
           rcases condE H with ⟨hc15, H⟩ | ⟨hc15, H⟩
           ·refine J.condT (x := .tmp 152) (t := (!x24_4)) (by kernel_rfl) (by kernel_rfl) hc15 ?_
            refine J.seq (by kernel_rfl) ?_
            refine J.region (by kernel_rfl) ?_
            refine O.pure 3 [(2, 0)] [2, 3] [p0_0, 0] (fr' := [(2, .pointer (some ⟨p0_0, 0, none⟩)), (3, .bool false)]) (bx' := [⟨p23_11, [.int .i64 x23_7.1.f0, .int .i64 x23_7.1.f1, .int .i64 x23_7.1.f2, .int .i64 x23_7.1.f3, .int .i64 x23_7.1.f4, .int .i64 x23_7.1.f5, .int .i64 x23_7.1.f6, .int .i64 x23_7.1.f7, .slice p23_7.1.1 x23_7.1.f8.length p23_7.1.2, .slice p23_7.2.1.1 x23_7.1.f9.length p23_7.2.1.2, .slice p23_7.2.2.1.1 x23_7.1.f10.length p23_7.2.2.1.2, .int .i64 x23_7.1.f11.f0, .int .i64 x23_7.1.f11.f1, .slice p23_7.2.2.2.1.1 x23_7.1.f11.f2.length p23_7.2.2.2.1.2, .slice p23_7.2.2.2.2.1.1 x23_7.1.f11.f3.length p23_7.2.2.2.2.1.2, .slice p23_7.2.2.2.2.2.1.1 x23_7.1.f11.f4.length p23_7.2.2.2.2.2.1.2, .slice p23_7.2.2.2.2.2.2.1 x23_7.1.f12.length p23_7.2.2.2.2.2.2.2], 34⟩, ⟨p13_25, [.int .i64 x13_1, .int .i64 x13_4, .int .i64 x13_7, .int .i64 x13_10, .int .i64 x13_13, .int .i64 x13_16, .int .i64 x13_19, .int .i64 x13_22, .slice p14_2.1 x14_2.1.length p14_2.2, .slice p18_4.1 x18_4.1.length p18_4.2, .slice p19_6.1 x19_6.1.length p19_6.2, .int .i64 0, .int .i64 0, .slice none 0 0, .slice none 0 0, .slice none 0 0, .slice none 0 0], 34⟩, ⟨p0_0, [.int .i64 0, .int .i64 0, .int .i64 0, .int .i64 0, .int .i64 0, .int .i64 0, .int .i64 0, .int .i64 0, .slice none 0 0, .slice none 0 0, .slice none 0 0, .int .i64 0, .int .i64 0, .slice none 0 0, .slice none 0 0, .slice none 0 0, .slice none 0 0], 34⟩]) (by kernel_rfl) ?_
            refine O.nil (by kernel_rfl) ?_
            obtain rfl := Option.some.inj H
            refine J.nilF (Kd.int .i64) ?_
            refine J.nilrow (Kd.int .i64) 2 ?_
            refine J.nilrow Kd.bool 4 ?_
            refine J.nilrow kd77 77 ?_
            refine J.nilrow kd77 77 ?_
            exact J.doneS [(2, 0)] [p0_0, 0] [0, 0, 0] [] [3, 2, 1, 0] ((none, 0), (none, 0), (none, 0), (none, 0), (none, 0), (none, 0), (none, 0)) (vs := [.agg #[.int .i64 0, .int .i64 0, .int .i64 0, .int .i64 0, .int .i64 0, .int .i64 0, .int .i64 0, .int .i64 0, .slice none 0 0, .slice none 0 0, .slice none 0 0, .int .i64 0, .int .i64 0, .slice none 0 0, .slice none 0 0, .slice none 0 0, .slice none 0 0], .bool false]) (by kernel_rfl) (by kernel_rfl) (by kernel_rfl) (by kernel_rfl) (by kernel_rfl) (by decide)
           ·refine J.condF (x := .tmp 152) (t := (!x24_4)) (by kernel_rfl) (by kernel_rfl) hc15 ?_
            refine J.skip (by kernel_rfl) ?_
            refine J.seq (by kernel_rfl) ?_
            refine J.region (by kernel_rfl) ?_
            refine O.pure 3 [(0, 0), (2, 0)] [2, 3] [p23_11, 0, p0_0, 0] (fr' := [(2, .pointer (some ⟨p0_0, 0, none⟩)), (3, .bool true)]) (bx' := [⟨p23_11, [.int .i64 x23_7.1.f0, .int .i64 x23_7.1.f1, .int .i64 x23_7.1.f2, .int .i64 x23_7.1.f3, .int .i64 x23_7.1.f4, .int .i64 x23_7.1.f5, .int .i64 x23_7.1.f6, .int .i64 x23_7.1.f7, .slice p23_7.1.1 x23_7.1.f8.length p23_7.1.2, .slice p23_7.2.1.1 x23_7.1.f9.length p23_7.2.1.2, .slice p23_7.2.2.1.1 x23_7.1.f10.length p23_7.2.2.1.2, .int .i64 x23_7.1.f11.f0, .int .i64 x23_7.1.f11.f1, .slice p23_7.2.2.2.1.1 x23_7.1.f11.f2.length p23_7.2.2.2.1.2, .slice p23_7.2.2.2.2.1.1 x23_7.1.f11.f3.length p23_7.2.2.2.2.1.2, .slice p23_7.2.2.2.2.2.1.1 x23_7.1.f11.f4.length p23_7.2.2.2.2.2.1.2, .slice p23_7.2.2.2.2.2.2.1 x23_7.1.f12.length p23_7.2.2.2.2.2.2.2], 34⟩, ⟨p13_25, [.int .i64 x13_1, .int .i64 x13_4, .int .i64 x13_7, .int .i64 x13_10, .int .i64 x13_13, .int .i64 x13_16, .int .i64 x13_19, .int .i64 x13_22, .slice p14_2.1 x14_2.1.length p14_2.2, .slice p18_4.1 x18_4.1.length p18_4.2, .slice p19_6.1 x19_6.1.length p19_6.2, .int .i64 0, .int .i64 0, .slice none 0 0, .slice none 0 0, .slice none 0 0, .slice none 0 0], 34⟩, ⟨p0_0, [.int .i64 x23_7.1.f0, .int .i64 x23_7.1.f1, .int .i64 x23_7.1.f2, .int .i64 x23_7.1.f3, .int .i64 x23_7.1.f4, .int .i64 x23_7.1.f5, .int .i64 x23_7.1.f6, .int .i64 x23_7.1.f7, .slice p23_7.1.1 x23_7.1.f8.length p23_7.1.2, .slice p23_7.2.1.1 x23_7.1.f9.length p23_7.2.1.2, .slice p23_7.2.2.1.1 x23_7.1.f10.length p23_7.2.2.1.2, .int .i64 x23_7.1.f11.f0, .int .i64 x23_7.1.f11.f1, .slice p23_7.2.2.2.1.1 x23_7.1.f11.f2.length p23_7.2.2.2.1.2, .slice p23_7.2.2.2.2.1.1 x23_7.1.f11.f3.length p23_7.2.2.2.2.1.2, .slice p23_7.2.2.2.2.2.1.1 x23_7.1.f11.f4.length p23_7.2.2.2.2.2.1.2, .slice p23_7.2.2.2.2.2.2.1 x23_7.1.f12.length p23_7.2.2.2.2.2.2.2], 34⟩]) (by kernel_rfl) ?_
            refine O.nil (by kernel_rfl) ?_
            obtain rfl := Option.some.inj H
            exact J.doneS [(2, 0)] [p0_0, 0] [0, 1, 2] [] [0, 1, 2, 3] (p23_7.1, p23_7.2.1, p23_7.2.2.1, p23_7.2.2.2.1, p23_7.2.2.2.2.1, p23_7.2.2.2.2.2.1, p23_7.2.2.2.2.2.2) (vs := [.agg #[.int .i64 x23_7.1.f0, .int .i64 x23_7.1.f1, .int .i64 x23_7.1.f2, .int .i64 x23_7.1.f3, .int .i64 x23_7.1.f4, .int .i64 x23_7.1.f5, .int .i64 x23_7.1.f6, .int .i64 x23_7.1.f7, .slice p23_7.1.1 x23_7.1.f8.length p23_7.1.2, .slice p23_7.2.1.1 x23_7.1.f9.length p23_7.2.1.2, .slice p23_7.2.2.1.1 x23_7.1.f10.length p23_7.2.2.1.2, .int .i64 x23_7.1.f11.f0, .int .i64 x23_7.1.f11.f1, .slice p23_7.2.2.2.1.1 x23_7.1.f11.f2.length p23_7.2.2.2.1.2, .slice p23_7.2.2.2.2.1.1 x23_7.1.f11.f3.length p23_7.2.2.2.2.1.2, .slice p23_7.2.2.2.2.2.1.1 x23_7.1.f11.f4.length p23_7.2.2.2.2.2.1.2, .slice p23_7.2.2.2.2.2.2.1 x23_7.1.f12.length p23_7.2.2.2.2.2.2.2], .bool true]) (by kernel_rfl) (by kernel_rfl) (by kernel_rfl) (by kernel_rfl) (by kernel_rfl) (by decide)
   ·refine J.block (id := 0) (by kernel_rfl) ?_
    refine J.loopI (σ := (List Int) × Int) (γ := Hd) (f := fun m_ s_ => haywainref15_Decode.l16 K a0 m_ s_) (fun s16 g16 => [(0, .slice h0.1 a0.length h0.2), (2, .pointer (some ⟨p0_0, 0, none⟩)), (4, .slice g16.1 s16.1.length g16.2), (5, .int .i64 s16.2)]) (fun s16 g16 => St X w [] [⟨p0_0, [.int .i64 0, .int .i64 0, .int .i64 0, .int .i64 0, .int .i64 0, .int .i64 0, .int .i64 0, .int .i64 0, .slice none 0 0, .slice none 0 0, .slice none 0 0, .int .i64 0, .int .i64 0, .slice none 0 0, .slice none 0 0, .slice none 0 0, .slice none 0 0], 34⟩] [mkRow (Kd.int .i64) 2 (.slice g16.1 s16.1.length g16.2) s16.1] [] [Rd (Kd.int .u8) h0.1 h0.2 a0]) K (([] : List Int), 0) (none, 0) (by kernel_rfl) H (fun _ => rfl) (fun m_ s16 H ih16 g16 => ?_) (fun h_ => ?_)
    ·unfold haywainref15_Decode.l16 at H
     refine J.seq (by kernel_rfl) ?_
     refine J.seq (by kernel_rfl) ?_
     refine J.region (by kernel_rfl) ?_
     refine O.pure 4 [] [0, 2, 4, 5, 34] [] (fr' := [(0, .slice h0.1 a0.length h0.2), (2, .pointer (some ⟨p0_0, 0, none⟩)), (4, .slice g16.1 s16.1.length g16.2), (5, .int .i64 s16.2), (34, .bool (decide (s16.2 < (a0.length : Int))))]) (bx' := [⟨p0_0, [.int .i64 0, .int .i64 0, .int .i64 0, .int .i64 0, .int .i64 0, .int .i64 0, .int .i64 0, .int .i64 0, .slice none 0 0, .slice none 0 0, .slice none 0 0, .int .i64 0, .int .i64 0, .slice none 0 0, .slice none 0 0, .slice none 0 0, .slice none 0 0], 34⟩]) (by kernel_rfl) ?_
     refine O.nil (by kernel_rfl) ?_
     rcases condE H with ⟨hc19, H⟩ | ⟨hc19, H⟩
     ·refine J.condT (x := .tmp 34) (t := (decide (s16.2 < (a0.length : Int)))) (by kernel_rfl) (by kernel_rfl) hc19 ?_
      refine J.skip (by kernel_rfl) ?_
      refine J.seq (by kernel_rfl) ?_
      refine J.block (id := 1) (by kernel_rfl) ?_
      refine J.seq (by kernel_rfl) ?_
      obtain ⟨y7_2, hy7_2, H⟩ := bindE H
      obtain ⟨hy7_2a, hy7_2b, hy7_2c, -⟩ := cutE hy7_2
      obtain ⟨x7_3, hx7_3, H⟩ := bindE H
      refine J.region (by kernel_rfl) ?_
      refine O.pure 2 [] [0, 2, 4, 5, 38, 39] [] (fr' := [(0, .slice h0.1 a0.length h0.2), (2, .pointer (some ⟨p0_0, 0, none⟩)), (4, .slice g16.1 s16.1.length g16.2), (5, .int .i64 s16.2), (38, .slice h0.1 a0.length h0.2), (39, .int .i64 s16.2)]) (bx' := [⟨p0_0, [.int .i64 0, .int .i64 0, .int .i64 0, .int .i64 0, .int .i64 0, .int .i64 0, .int .i64 0, .int .i64 0, .slice none 0 0, .slice none 0 0, .slice none 0 0, .int .i64 0, .int .i64 0, .slice none 0 0, .slice none 0 0, .slice none 0 0, .slice none 0 0], 34⟩]) (by kernel_rfl) ?_
      refine O.e (some 40) (Ev.cut (d := (Kd.int .u8)) (xs := a0) (t := 36) (x := .tmp 38) (lo := (some (.tmp 39))) (hi := none) (vlo := (some (.int .i64 s16.2))) (vhi := none) (A := h0.1) (c := h0.2) (l := (s16.2 : Int).toNat) (h := ((a0.length : Int) : Int).toNat) 0 (by kernel_rfl) (by kernel_rfl) (by kernel_rfl) (by kernel_rfl) (by kernel_rfl) (Bd.val _ _ _ (by omega)) (Bd.dflt _) (by omega) (by omega) rfl) (by kernel_rfl) (fun p7_2 => ?_)
      refine O.e (some 41) (Ev.call0 (xs := [.tmp 40]) [0] (by kernel_rfl) (by kernel_rfl) (fun w hS => haywainref02_TakeNum.con K (cutL a0 ((s16.2 : Int).toNat) (((a0.length : Int) : Int).toNat)) p7_2  _ _ w hS hx7_3)) (by kernel_rfl) (fun _ => ?_)
      refine O.pure 5 [] [0, 2, 4, 5, 6] [] (fr' := [(0, .slice h0.1 a0.length h0.2), (2, .pointer (some ⟨p0_0, 0, none⟩)), (4, .slice g16.1 s16.1.length g16.2), (5, .int .i64 s16.2), (6, .int .i64 x7_3.1)]) (bx' := [⟨p0_0, [.int .i64 0, .int .i64 0, .int .i64 0, .int .i64 0, .int .i64 0, .int .i64 0, .int .i64 0, .int .i64 0, .slice none 0 0, .slice none 0 0, .slice none 0 0, .int .i64 0, .int .i64 0, .slice none 0 0, .slice none 0 0, .slice none 0 0, .slice none 0 0], 34⟩]) (by kernel_rfl) ?_
      refine O.nil (by kernel_rfl) ?_
      obtain ⟨y8_3, hy8_3, H⟩ := bindE H
      have hy8_3a := (appE hy8_3).1
      refine J.region (by kernel_rfl) ?_
      refine O.pure 2 [] [0, 2, 4, 5, 44, 45] [] (fr' := [(0, .slice h0.1 a0.length h0.2), (2, .pointer (some ⟨p0_0, 0, none⟩)), (4, .slice g16.1 s16.1.length g16.2), (5, .int .i64 s16.2), (44, .slice g16.1 s16.1.length g16.2), (45, .int .i64 x7_3.1)]) (bx' := [⟨p0_0, [.int .i64 0, .int .i64 0, .int .i64 0, .int .i64 0, .int .i64 0, .int .i64 0, .int .i64 0, .int .i64 0, .slice none 0 0, .slice none 0 0, .slice none 0 0, .int .i64 0, .int .i64 0, .slice none 0 0, .slice none 0 0, .slice none 0 0, .slice none 0 0], 34⟩]) (by kernel_rfl) ?_
      refine O.e (some 46) (Ev.lit (t := 23) (len := 1) (parts := #[(0, .tmp 45)]) (ps := [(0, .int .i64 x7_3.1)]) (cs := [.int .i64 x7_3.1]) (e := 2) (Kd.int .i64) ([x7_3.1] : List Int) (by kernel_rfl) (by kernel_rfl) (by kernel_rfl) (by kernel_rfl) (by kernel_rfl) (by decide) (fun w' hφ => (Els.cons (c := [.int .i64 x7_3.1]) (rfl) (Els.nil _ _ _)))) (by kernel_rfl) (fun p8_2 => ?_)
      refine O.e (some 47) (Ev.appLit (x := .tmp 44) (y := .tmp 46) (t := 23) (bytes := 8) (by kernel_rfl) (by kernel_rfl) (by kernel_rfl) (by kernel_rfl) (by kernel_rfl) (by decide) hy8_3a) (by kernel_rfl) (fun p8_3 => ?_)
      refine O.pure 1 [] [0, 2, 4, 5] [] (fr' := [(0, .slice h0.1 a0.length h0.2), (2, .pointer (some ⟨p0_0, 0, none⟩)), (4, .slice p8_3.1 (s16.1 ++ ([x7_3.1] : List Int)).length p8_3.2), (5, .int .i64 s16.2)]) (bx' := [⟨p0_0, [.int .i64 0, .int .i64 0, .int .i64 0, .int .i64 0, .int .i64 0, .int .i64 0, .int .i64 0, .int .i64 0, .slice none 0 0, .slice none 0 0, .slice none 0 0, .int .i64 0, .int .i64 0, .slice none 0 0, .slice none 0 0, .slice none 0 0, .slice none 0 0], 34⟩]) (by kernel_rfl) ?_
      refine O.nil (by kernel_rfl) ?_
      refine J.out ?_
      refine J.region (by kernel_rfl) ?_
      refine O.pure 3 [] [0, 2, 4, 5] [] (fr' := [(0, .slice h0.1 a0.length h0.2), (2, .pointer (some ⟨p0_0, 0, none⟩)), (4, .slice p8_3.1 (s16.1 ++ ([x7_3.1] : List Int)).length p8_3.2), (5, .int .i64 (IntKind.wrap .i64 (s16.2 + 8)))]) (bx' := [⟨p0_0, [.int .i64 0, .int .i64 0, .int .i64 0, .int .i64 0, .int .i64 0, .int .i64 0, .int .i64 0, .int .i64 0, .slice none 0 0, .slice none 0 0, .slice none 0 0, .int .i64 0, .int .i64 0, .slice none 0 0, .slice none 0 0, .slice none 0 0, .slice none 0 0], 34⟩]) (by kernel_rfl) ?_
      refine O.nil (by kernel_rfl) ?_
      exact J.conv2 [0, 2, 4, 5] [1] [0] [0] (by kernel_rfl) (by kernel_rfl) (by kernel_rfl) (by kernel_rfl) (by decide) (ih16 ((s16.1 ++ ([x7_3.1] : List Int)), (IntKind.wrap .i64 (s16.2 + 8))) p8_3 H)
     ·refine J.condF (x := .tmp 34) (t := (decide (s16.2 < (a0.length : Int)))) (by kernel_rfl) (by kernel_rfl) hc19 ?_
      refine J.exit (id := 0) (by kernel_rfl) rfl ?_
      obtain rfl := Option.some.inj H
      exact J.conv2 [2, 4] [0] [0] [0] (by kernel_rfl) (by kernel_rfl) (by kernel_rfl) (by kernel_rfl) (by decide) (hj3 g16)
    ·refine J.nilrow (Kd.int .i64) 2 ?_
     exact J.conv2 [0, 2, 4, 5] [0] [0] [0] (by kernel_rfl) (by kernel_rfl) (by kernel_rfl) (by kernel_rfl) (by decide) h_
/-! ### haywain/haywainref09.SameInts: function 37 -/
def haywainref09_SameInts.l2 (K : Nat) (a0 : List Int) (a1 : List Int) : Nat → Int → Option Bool
  | 0, _ => none
  | k + 1, s2 => cond (decide (s2 < (a0.length : Int))) ((idxO a0 s2).bind fun x6_2 => (idxO a1 s2).bind fun x6_6 => cond (x6_2 != x6_6) (some (false)) (haywainref09_SameInts.l2 K a0 a1 k (IntKind.wrap .i64 (s2 + 1)))) (some (true))
def haywainref09_SameInts.f (K : Nat) (a0 : List Int) (a1 : List Int) : Option Bool := cond ((a0.length : Int) != (a1.length : Int)) (some (false)) (haywainref09_SameInts.l2 K a0 a1 K 0)
set_option maxRecDepth 100000 in
set_option maxHeartbeats 1000000 in
theorem haywainref09_SameInts.con (K : Nat) (a0 : List Int) (a1 : List Int) (h0 : Hd) (h1 : Hd) (r : Bool) (X : Nat → Nat → Prop) (w : World) (hS : St X w [] [] [] [] [Rd (Kd.int .i64) h0.1 h0.2 a0, Rd (Kd.int .i64) h1.1 h1.2 a1] w) (H : haywainref09_SameInts.f K a0 a1 = some r) :
    Cn Try.prog 37 [.slice h0.1 a0.length h0.2, .slice h1.1 a1.length h1.2] X w [] (fun i : Unit => .bool r) (fun i => []) (fun i => []) (fun i => []) := by
 refine Cn.of Try.func37 (by kernel_rfl) hS ?_
 unfold haywainref09_SameInts.f at H
 refine J.seq (by kernel_rfl) ?_
 refine J.region (by kernel_rfl) ?_
 refine O.pure 1 [] [0, 1] [] (fr' := [(0, .slice h0.1 a0.length h0.2), (1, .slice h1.1 a1.length h1.2)]) (bx' := []) (by kernel_rfl) ?_
 refine O.nil (by kernel_rfl) ?_
 refine J.seq (by kernel_rfl) ?_
 refine J.seq (by kernel_rfl) ?_
 refine J.region (by kernel_rfl) ?_
 refine O.pure 5 [] [0, 1, 10] [] (fr' := [(0, .slice h0.1 a0.length h0.2), (1, .slice h1.1 a1.length h1.2), (10, .bool ((a0.length : Int) != (a1.length : Int)))]) (bx' := []) (by kernel_rfl) ?_
 refine O.nil (by kernel_rfl) ?_
 rcases condE H with ⟨hc1, H⟩ | ⟨hc1, H⟩
 ·refine J.condT (x := .tmp 10) (t := ((a0.length : Int) != (a1.length : Int))) (by kernel_rfl) (by kernel_rfl) hc1 ?_
  refine J.seq (by kernel_rfl) ?_
  refine J.region (by kernel_rfl) ?_
  refine O.pure 1 [] [4] [] (fr' := [(4, .bool false)]) (bx' := []) (by kernel_rfl) ?_
  refine O.nil (by kernel_rfl) ?_
  obtain rfl := Option.some.inj H
  exact J.doneS [] [] [] [] [] () (vs := [.bool false]) (by kernel_rfl) (by kernel_rfl) (by kernel_rfl) (by kernel_rfl) (by kernel_rfl) (by decide)
 ·refine J.condF (x := .tmp 10) (t := ((a0.length : Int) != (a1.length : Int))) (by kernel_rfl) (by kernel_rfl) hc1 ?_
  refine J.skip (by kernel_rfl) ?_
  refine J.seq (by kernel_rfl) ?_
  refine J.seq (by kernel_rfl) ?_
  refine J.region (by kernel_rfl) ?_
  refine O.pure 1 [] [0, 1, 5] [] (fr' := [(0, .slice h0.1 a0.length h0.2), (1, .slice h1.1 a1.length h1.2), (5, .int .i64 0)]) (bx' := []) (by kernel_rfl) ?_
  refine O.nil (by kernel_rfl) ?_
  refine J.block (id := 0) (by kernel_rfl) ?_
  refine J.loopI (σ := Int) (γ := Unit) (f := fun m_ s_ => haywainref09_SameInts.l2 K a0 a1 m_ s_) (fun s2 g2 => [(0, .slice h0.1 a0.length h0.2), (1, .slice h1.1 a1.length h1.2), (5, .int .i64 s2)]) (fun s2 g2 => St X w [] [] [] [] [Rd (Kd.int .i64) h0.1 h0.2 a0, Rd (Kd.int .i64) h1.1 h1.2 a1]) K 0 () (by kernel_rfl) H (fun _ => rfl) (fun m_ s2 H ih2 g2 => ?_) (fun h_ => ?_)
  ·unfold haywainref09_SameInts.l2 at H
   refine J.seq (by kernel_rfl) ?_
   refine J.seq (by kernel_rfl) ?_
   refine J.region (by kernel_rfl) ?_
   refine O.pure 4 [] [0, 1, 5, 14] [] (fr' := [(0, .slice h0.1 a0.length h0.2), (1, .slice h1.1 a1.length h1.2), (5, .int .i64 s2), (14, .bool (decide (s2 < (a0.length : Int))))]) (bx' := []) (by kernel_rfl) ?_
   refine O.nil (by kernel_rfl) ?_
   rcases condE H with ⟨hc7, H⟩ | ⟨hc7, H⟩
   ·refine J.condT (x := .tmp 14) (t := (decide (s2 < (a0.length : Int)))) (by kernel_rfl) (by kernel_rfl) hc7 ?_
    refine J.skip (by kernel_rfl) ?_
    refine J.seq (by kernel_rfl) ?_
    refine J.block (id := 1) (by kernel_rfl) ?_
    refine J.seq (by kernel_rfl) ?_
    obtain ⟨x6_2, hx6_2, H⟩ := bindE H
    obtain ⟨hx6_2a, hx6_2⟩ := idxE hx6_2
    obtain ⟨x6_6, hx6_6, H⟩ := bindE H
    obtain ⟨hx6_6a, hx6_6⟩ := idxE hx6_6
    refine J.open (d := (Kd.int .i64)) (h := h0) (i := s2) 0 rfl hx6_2 (Lay.int _ _) (fun p6_2 hp6_2A => ?_)
    refine J.open (d := (Kd.int .i64)) (h := h1) (i := s2) 1 rfl hx6_6 (Lay.int _ _) (fun p6_6 hp6_6A => ?_)
    refine J.drawS (by kernel_rfl) [(0, some 17, .slice h0.1 a0.length h0.2), (1, some 18, .int .i64 s2), (3, some 20, .int .i64 x6_2), (4, some 21, .slice h1.1 a1.length h1.2), (5, some 22, .int .i64 s2), (7, some 24, .int .i64 x6_6), (8, some 25, .bool (x6_2 != x6_6)), (2, some 19, .pointer (some ⟨p6_2.1, p6_2.2.1 + s2.toNat * 1, none⟩)), (6, some 23, .pointer (some ⟨p6_6.1, p6_6.2.1 + s2.toNat * 1, none⟩))] ([0, 1, 3, 4, 5, 7, 8] ++ [2, 6]) (by kernel_rfl) ?_
    refine D.fin (fr' := [(0, .slice h0.1 a0.length h0.2), (1, .slice h1.1 a1.length h1.2), (5, .int .i64 s2), (25, .bool (x6_2 != x6_6))]) [0, 1, 3, 4, 5, 7, 8] [2, 6] [(1, 0), (0, 0)] [p6_2.1, p6_2.2.1 + s2.toNat * 1, p6_6.1, p6_6.2.1 + s2.toNat * 1] [0, 1, 5, 25] (by kernel_rfl) (by kernel_rfl) (⟨QuAt.mk (v := .pointer (some ⟨p6_2.1, p6_2.2.1 + s2.toNat * 1, none⟩)) (some 19) (by kernel_rfl) (by kernel_rfl) (Qu.idx (t := 22) (x := .tmp 17) (y := .tmp 18) (c := h0.2) (kk := .i64) (sz := 1) (by kernel_rfl) (by kernel_rfl) (by kernel_rfl) (by kernel_rfl) hx6_2a (idx_lt hx6_2) hp6_2A), QuAt.mk (v := .pointer (some ⟨p6_6.1, p6_6.2.1 + s2.toNat * 1, none⟩)) (some 23) (by kernel_rfl) (by kernel_rfl) (Qu.idx (t := 22) (x := .tmp 21) (y := .tmp 22) (c := h1.2) (kk := .i64) (sz := 1) (by kernel_rfl) (by kernel_rfl) (by kernel_rfl) (by kernel_rfl) hx6_6a (idx_lt hx6_6) hp6_6A), trivial⟩) (by kernel_rfl) ?_
    rcases condE H with ⟨hc8, H⟩ | ⟨hc8, H⟩
    ·refine J.condT (x := .tmp 25) (t := (x6_2 != x6_6)) (by kernel_rfl) (by kernel_rfl) hc8 ?_
     refine J.seq (by kernel_rfl) ?_
     refine J.region (by kernel_rfl) ?_
     refine O.pure 1 [] [4] [] (fr' := [(4, .bool false)]) (bx' := []) (by kernel_rfl) ?_
     refine O.nil (by kernel_rfl) ?_
     obtain rfl := Option.some.inj H
     exact J.doneS [] [] [] [] [] () (vs := [.bool false]) (by kernel_rfl) (by kernel_rfl) (by kernel_rfl) (by kernel_rfl) (by kernel_rfl) (by decide)
    ·refine J.condF (x := .tmp 25) (t := (x6_2 != x6_6)) (by kernel_rfl) (by kernel_rfl) hc8 ?_
     refine J.skip (by kernel_rfl) ?_
     refine J.out ?_
     refine J.region (by kernel_rfl) ?_
     refine O.pure 3 [] [0, 1, 5] [] (fr' := [(0, .slice h0.1 a0.length h0.2), (1, .slice h1.1 a1.length h1.2), (5, .int .i64 (IntKind.wrap .i64 (s2 + 1)))]) (bx' := []) (by kernel_rfl) ?_
     refine O.nil (by kernel_rfl) ?_
     exact J.conv2 [0, 1, 5] [0, 1] [] [] (by kernel_rfl) (by kernel_rfl) (by kernel_rfl) (by kernel_rfl) (by decide) (ih2 (IntKind.wrap .i64 (s2 + 1)) () H)
   ·refine J.condF (x := .tmp 14) (t := (decide (s2 < (a0.length : Int)))) (by kernel_rfl) (by kernel_rfl) hc7 ?_
    refine J.exit (id := 0) (by kernel_rfl) rfl ?_
    refine J.seq (by kernel_rfl) ?_
    refine J.region (by kernel_rfl) ?_
    refine O.pure 1 [] [4] [] (fr' := [(4, .bool true)]) (bx' := []) (by kernel_rfl) ?_
    refine O.nil (by kernel_rfl) ?_
    obtain rfl := Option.some.inj H
    exact J.doneS [] [] [] [] [] () (vs := [.bool true]) (by kernel_rfl) (by kernel_rfl) (by kernel_rfl) (by kernel_rfl) (by kernel_rfl) (by decide)
  ·exact J.conv2 [0, 1, 5] [0, 1] [] [] (by kernel_rfl) (by kernel_rfl) (by kernel_rfl) (by kernel_rfl) (by decide) h_
/-! ### haywain/haywainref04.SameMsgs: function 39 -/
def haywainref04_SameMsgs.l2 (K : Nat) (a0 : List S77) (a1 : List S77) : Nat → Int → Option Bool
  | 0, _ => none
  | k + 1, s2 => cond (decide (s2 < (a0.length : Int))) ((idxO a0 s2).bind fun x6_2 => (idxO a1 s2).bind fun x6_6 => cond (!(x6_2.f0 == x6_6.f0 && (x6_2.f1 == x6_6.f1 && true))) (some (false)) (haywainref04_SameMsgs.l2 K a0 a1 k (IntKind.wrap .i64 (s2 + 1)))) (some (true))
def haywainref04_SameMsgs.f (K : Nat) (a0 : List S77) (a1 : List S77) : Option Bool := cond ((a0.length : Int) != (a1.length : Int)) (some (false)) (haywainref04_SameMsgs.l2 K a0 a1 K 0)
set_option maxRecDepth 100000 in
set_option maxHeartbeats 1000000 in
theorem haywainref04_SameMsgs.con (K : Nat) (a0 : List S77) (a1 : List S77) (h0 : Hd) (h1 : Hd) (r : Bool) (X : Nat → Nat → Prop) (w : World) (hS : St X w [] [] [] [] [Rd kd77 h0.1 h0.2 a0, Rd kd77 h1.1 h1.2 a1] w) (H : haywainref04_SameMsgs.f K a0 a1 = some r) :
    Cn Try.prog 39 [.slice h0.1 a0.length h0.2, .slice h1.1 a1.length h1.2] X w [] (fun i : Unit => .bool r) (fun i => []) (fun i => []) (fun i => []) := by
 refine Cn.of Try.func39 (by kernel_rfl) hS ?_
 unfold haywainref04_SameMsgs.f at H
 refine J.seq (by kernel_rfl) ?_
 refine J.region (by kernel_rfl) ?_
 refine O.pure 1 [] [0, 1] [] (fr' := [(0, .slice h0.1 a0.length h0.2), (1, .slice h1.1 a1.length h1.2)]) (bx' := []) (by kernel_rfl) ?_
 refine O.nil (by kernel_rfl) ?_
 refine J.seq (by kernel_rfl) ?_
 refine J.seq (by kernel_rfl) ?_
 refine J.region (by kernel_rfl) ?_
 refine O.pure 5 [] [0, 1, 10] [] (fr' := [(0, .slice h0.1 a0.length h0.2), (1, .slice h1.1 a1.length h1.2), (10, .bool ((a0.length : Int) != (a1.length : Int)))]) (bx' := []) (by kernel_rfl) ?_
 refine O.nil (by kernel_rfl) ?_
 rcases condE H with ⟨hc1, H⟩ | ⟨hc1, H⟩
 ·refine J.condT (x := .tmp 10) (t := ((a0.length : Int) != (a1.length : Int))) (by kernel_rfl) (by kernel_rfl) hc1 ?_
  refine J.seq (by kernel_rfl) ?_
  refine J.region (by kernel_rfl) ?_
  refine O.pure 1 [] [4] [] (fr' := [(4, .bool false)]) (bx' := []) (by kernel_rfl) ?_
  refine O.nil (by kernel_rfl) ?_
  obtain rfl := Option.some.inj H
  exact J.doneS [] [] [] [] [] () (vs := [.bool false]) (by kernel_rfl) (by kernel_rfl) (by kernel_rfl) (by kernel_rfl) (by kernel_rfl) (by decide)
 ·refine J.condF (x := .tmp 10) (t := ((a0.length : Int) != (a1.length : Int))) (by kernel_rfl) (by kernel_rfl) hc1 ?_
  refine J.skip (by kernel_rfl) ?_
  refine J.seq (by kernel_rfl) ?_
  refine J.seq (by kernel_rfl) ?_
  refine J.region (by kernel_rfl) ?_
  refine O.pure 1 [] [0, 1, 5] [] (fr' := [(0, .slice h0.1 a0.length h0.2), (1, .slice h1.1 a1.length h1.2), (5, .int .i64 0)]) (bx' := []) (by kernel_rfl) ?_
  refine O.nil (by kernel_rfl) ?_
  refine J.block (id := 0) (by kernel_rfl) ?_
  refine J.loopI (σ := Int) (γ := Unit) (f := fun m_ s_ => haywainref04_SameMsgs.l2 K a0 a1 m_ s_) (fun s2 g2 => [(0, .slice h0.1 a0.length h0.2), (1, .slice h1.1 a1.length h1.2), (5, .int .i64 s2)]) (fun s2 g2 => St X w [] [] [] [] [Rd kd77 h0.1 h0.2 a0, Rd kd77 h1.1 h1.2 a1]) K 0 () (by kernel_rfl) H (fun _ => rfl) (fun m_ s2 H ih2 g2 => ?_) (fun h_ => ?_)
  ·unfold haywainref04_SameMsgs.l2 at H
   refine J.seq (by kernel_rfl) ?_
   refine J.seq (by kernel_rfl) ?_
   refine J.region (by kernel_rfl) ?_
   refine O.pure 4 [] [0, 1, 5, 14] [] (fr' := [(0, .slice h0.1 a0.length h0.2), (1, .slice h1.1 a1.length h1.2), (5, .int .i64 s2), (14, .bool (decide (s2 < (a0.length : Int))))]) (bx' := []) (by kernel_rfl) ?_
   refine O.nil (by kernel_rfl) ?_
   rcases condE H with ⟨hc7, H⟩ | ⟨hc7, H⟩
   ·refine J.condT (x := .tmp 14) (t := (decide (s2 < (a0.length : Int)))) (by kernel_rfl) (by kernel_rfl) hc7 ?_
    refine J.skip (by kernel_rfl) ?_
    refine J.seq (by kernel_rfl) ?_
    refine J.block (id := 1) (by kernel_rfl) ?_
    refine J.seq (by kernel_rfl) ?_
    obtain ⟨x6_2, hx6_2, H⟩ := bindE H
    obtain ⟨hx6_2a, hx6_2⟩ := idxE hx6_2
    obtain ⟨x6_6, hx6_6, H⟩ := bindE H
    obtain ⟨hx6_6a, hx6_6⟩ := idxE hx6_6
    refine J.open (d := kd77) (h := h0) (i := s2) 0 rfl hx6_2 (op77 _) (fun p6_2 hp6_2A => ?_)
    refine J.open (d := kd77) (h := h1) (i := s2) 1 rfl hx6_6 (op77 _) (fun p6_6 hp6_6A => ?_)
    refine J.drawS (by kernel_rfl) [(0, some 17, .slice h0.1 a0.length h0.2), (1, some 18, .int .i64 s2), (3, some 20, .agg #[.int .i64 x6_2.f0, .int .i64 x6_2.f1]), (4, some 21, .slice h1.1 a1.length h1.2), (5, some 22, .int .i64 s2), (7, some 24, .agg #[.int .i64 x6_6.f0, .int .i64 x6_6.f1]), (2, some 19, .pointer (some ⟨p6_2.1, p6_2.2.1 + s2.toNat * 2, none⟩)), (6, some 23, .pointer (some ⟨p6_6.1, p6_6.2.1 + s2.toNat * 2, none⟩)), (8, some 25, .bool (!(x6_2.f0 == x6_6.f0 && (x6_2.f1 == x6_6.f1 && true))))] ([0, 1, 3, 4, 5, 7] ++ [2, 6, 8]) (by kernel_rfl) ?_
    refine D.fin (fr' := [(0, .slice h0.1 a0.length h0.2), (1, .slice h1.1 a1.length h1.2), (5, .int .i64 s2), (25, .bool (!(x6_2.f0 == x6_6.f0 && (x6_2.f1 == x6_6.f1 && true))))]) [0, 1, 3, 4, 5, 7] [2, 6, 8] [(1, 0), (0, 0)] [p6_2.1, p6_2.2.1 + s2.toNat * 2, p6_6.1, p6_6.2.1 + s2.toNat * 2] [0, 1, 5, 25] (by kernel_rfl) (by kernel_rfl) (⟨QuAt.mk (v := .pointer (some ⟨p6_2.1, p6_2.2.1 + s2.toNat * 2, none⟩)) (some 19) (by kernel_rfl) (by kernel_rfl) (Qu.idx (t := 25) (x := .tmp 17) (y := .tmp 18) (c := h0.2) (kk := .i64) (sz := 2) (by kernel_rfl) (by kernel_rfl) (by kernel_rfl) (by kernel_rfl) hx6_2a (idx_lt hx6_2) hp6_2A), QuAt.mk (v := .pointer (some ⟨p6_6.1, p6_6.2.1 + s2.toNat * 2, none⟩)) (some 23) (by kernel_rfl) (by kernel_rfl) (Qu.idx (t := 25) (x := .tmp 21) (y := .tmp 22) (c := h1.2) (kk := .i64) (sz := 2) (by kernel_rfl) (by kernel_rfl) (by kernel_rfl) (by kernel_rfl) hx6_6a (idx_lt hx6_6) hp6_6A), QuAt.mk (v := .bool (!(x6_2.f0 == x6_6.f0 && (x6_2.f1 == x6_6.f1 && true)))) (some 25) (by kernel_rfl) (by kernel_rfl) (Qu.binT (op := .neq) (t := 77) (t' := 77) (x := .tmp 20) (y := .tmp 24) (u := .agg #[.int .i64 x6_2.f0, .int .i64 x6_2.f1]) (v := .agg #[.int .i64 x6_6.f0, .int .i64 x6_6.f1]) (by kernel_rfl) (by kernel_rfl) (by kernel_rfl) (by kernel_rfl)), trivial⟩) (by kernel_rfl) ?_
    rcases condE H with ⟨hc8, H⟩ | ⟨hc8, H⟩
    ·refine J.condT (x := .tmp 25) (t := (!(x6_2.f0 == x6_6.f0 && (x6_2.f1 == x6_6.f1 && true)))) (by kernel_rfl) (by kernel_rfl) hc8 ?_
     refine J.seq (by kernel_rfl) ?_
     refine J.region (by kernel_rfl) ?_
     refine O.pure 1 [] [4] [] (fr' := [(4, .bool false)]) (bx' := []) (by kernel_rfl) ?_
     refine O.nil (by kernel_rfl) ?_
     obtain rfl := Option.some.inj H
     exact J.doneS [] [] [] [] [] () (vs := [.bool false]) (by kernel_rfl) (by kernel_rfl) (by kernel_rfl) (by kernel_rfl) (by kernel_rfl) (by decide)
    ·refine J.condF (x := .tmp 25) (t := (!(x6_2.f0 == x6_6.f0 && (x6_2.f1 == x6_6.f1 && true)))) (by kernel_rfl) (by kernel_rfl) hc8 ?_
     refine J.skip (by kernel_rfl) ?_
     refine J.out ?_
     refine J.region (by kernel_rfl) ?_
     refine O.pure 3 [] [0, 1, 5] [] (fr' := [(0, .slice h0.1 a0.length h0.2), (1, .slice h1.1 a1.length h1.2), (5, .int .i64 (IntKind.wrap .i64 (s2 + 1)))]) (bx' := []) (by kernel_rfl) ?_
     refine O.nil (by kernel_rfl) ?_
     exact J.conv2 [0, 1, 5] [0, 1] [] [] (by kernel_rfl) (by kernel_rfl) (by kernel_rfl) (by kernel_rfl) (by decide) (ih2 (IntKind.wrap .i64 (s2 + 1)) () H)
   ·refine J.condF (x := .tmp 14) (t := (decide (s2 < (a0.length : Int)))) (by kernel_rfl) (by kernel_rfl) hc7 ?_
    refine J.exit (id := 0) (by kernel_rfl) rfl ?_
    refine J.seq (by kernel_rfl) ?_
    refine J.region (by kernel_rfl) ?_
    refine O.pure 1 [] [4] [] (fr' := [(4, .bool true)]) (bx' := []) (by kernel_rfl) ?_
    refine O.nil (by kernel_rfl) ?_
    obtain rfl := Option.some.inj H
    exact J.doneS [] [] [] [] [] () (vs := [.bool true]) (by kernel_rfl) (by kernel_rfl) (by kernel_rfl) (by kernel_rfl) (by kernel_rfl) (by decide)
  ·exact J.conv2 [0, 1, 5] [0, 1] [] [] (by kernel_rfl) (by kernel_rfl) (by kernel_rfl) (by kernel_rfl) (by decide) h_
/-! ### haywain/haywainref06.SameVals: function 48 -/
def haywainref06_SameVals.l2 (K : Nat) (a0 : List Int) (a1 : List Int) : Nat → Int → Option Bool
  | 0, _ => none
  | k + 1, s2 => cond (decide (s2 < (a0.length : Int))) ((idxO a0 s2).bind fun x6_2 => (idxO a1 s2).bind fun x6_6 => cond (x6_2 != x6_6) (some (false)) (haywainref06_SameVals.l2 K a0 a1 k (IntKind.wrap .i64 (s2 + 1)))) (some (true))
def haywainref06_SameVals.f (K : Nat) (a0 : List Int) (a1 : List Int) : Option Bool := cond ((a0.length : Int) != (a1.length : Int)) (some (false)) (haywainref06_SameVals.l2 K a0 a1 K 0)
set_option maxRecDepth 100000 in
set_option maxHeartbeats 1000000 in
theorem haywainref06_SameVals.con (K : Nat) (a0 : List Int) (a1 : List Int) (h0 : Hd) (h1 : Hd) (r : Bool) (X : Nat → Nat → Prop) (w : World) (hS : St X w [] [] [] [] [Rd (Kd.int .i64) h0.1 h0.2 a0, Rd (Kd.int .i64) h1.1 h1.2 a1] w) (H : haywainref06_SameVals.f K a0 a1 = some r) :
    Cn Try.prog 48 [.slice h0.1 a0.length h0.2, .slice h1.1 a1.length h1.2] X w [] (fun i : Unit => .bool r) (fun i => []) (fun i => []) (fun i => []) := by
 refine Cn.of Try.func48 (by kernel_rfl) hS ?_
 unfold haywainref06_SameVals.f at H
 refine J.seq (by kernel_rfl) ?_
 refine J.region (by kernel_rfl) ?_
 refine O.pure 1 [] [0, 1] [] (fr' := [(0, .slice h0.1 a0.length h0.2), (1, .slice h1.1 a1.length h1.2)]) (bx' := []) (by kernel_rfl) ?_
 refine O.nil (by kernel_rfl) ?_
 refine J.seq (by kernel_rfl) ?_
 refine J.seq (by kernel_rfl) ?_
 refine J.region (by kernel_rfl) ?_
 refine O.pure 5 [] [0, 1, 10] [] (fr' := [(0, .slice h0.1 a0.length h0.2), (1, .slice h1.1 a1.length h1.2), (10, .bool ((a0.length : Int) != (a1.length : Int)))]) (bx' := []) (by kernel_rfl) ?_
 refine O.nil (by kernel_rfl) ?_
 rcases condE H with ⟨hc1, H⟩ | ⟨hc1, H⟩
 ·refine J.condT (x := .tmp 10) (t := ((a0.length : Int) != (a1.length : Int))) (by kernel_rfl) (by kernel_rfl) hc1 ?_
  refine J.seq (by kernel_rfl) ?_
  refine J.region (by kernel_rfl) ?_
  refine O.pure 1 [] [4] [] (fr' := [(4, .bool false)]) (bx' := []) (by kernel_rfl) ?_
  refine O.nil (by kernel_rfl) ?_
  obtain rfl := Option.some.inj H
  exact J.doneS [] [] [] [] [] () (vs := [.bool false]) (by kernel_rfl) (by kernel_rfl) (by kernel_rfl) (by kernel_rfl) (by kernel_rfl) (by decide)
 ·refine J.condF (x := .tmp 10) (t := ((a0.length : Int) != (a1.length : Int))) (by kernel_rfl) (by kernel_rfl) hc1 ?_
  refine J.skip (by kernel_rfl) ?_
  refine J.seq (by kernel_rfl) ?_
  refine J.seq (by kernel_rfl) ?_
  refine J.region (by kernel_rfl) ?_
  refine O.pure 1 [] [0, 1, 5] [] (fr' := [(0, .slice h0.1 a0.length h0.2), (1, .slice h1.1 a1.length h1.2), (5, .int .i64 0)]) (bx' := []) (by kernel_rfl) ?_
  refine O.nil (by kernel_rfl) ?_
  refine J.block (id := 0) (by kernel_rfl) ?_
  refine J.loopI (σ := Int) (γ := Unit) (f := fun m_ s_ => haywainref06_SameVals.l2 K a0 a1 m_ s_) (fun s2 g2 => [(0, .slice h0.1 a0.length h0.2), (1, .slice h1.1 a1.length h1.2), (5, .int .i64 s2)]) (fun s2 g2 => St X w [] [] [] [] [Rd (Kd.int .i64) h0.1 h0.2 a0, Rd (Kd.int .i64) h1.1 h1.2 a1]) K 0 () (by kernel_rfl) H (fun _ => rfl) (fun m_ s2 H ih2 g2 => ?_) (fun h_ => ?_)
  ·unfold haywainref06_SameVals.l2 at H
   refine J.seq (by kernel_rfl) ?_
   refine J.seq (by kernel_rfl) ?_
   refine J.region (by kernel_rfl) ?_
   refine O.pure 4 [] [0, 1, 5, 14] [] (fr' := [(0, .slice h0.1 a0.length h0.2), (1, .slice h1.1 a1.length h1.2), (5, .int .i64 s2), (14, .bool (decide (s2 < (a0.length : Int))))]) (bx' := []) (by kernel_rfl) ?_
   refine O.nil (by kernel_rfl) ?_
   rcases condE H with ⟨hc7, H⟩ | ⟨hc7, H⟩
   ·refine J.condT (x := .tmp 14) (t := (decide (s2 < (a0.length : Int)))) (by kernel_rfl) (by kernel_rfl) hc7 ?_
    refine J.skip (by kernel_rfl) ?_
    refine J.seq (by kernel_rfl) ?_
    refine J.block (id := 1) (by kernel_rfl) ?_
    refine J.seq (by kernel_rfl) ?_
    obtain ⟨x6_2, hx6_2, H⟩ := bindE H
    obtain ⟨hx6_2a, hx6_2⟩ := idxE hx6_2
    obtain ⟨x6_6, hx6_6, H⟩ := bindE H
    obtain ⟨hx6_6a, hx6_6⟩ := idxE hx6_6
    refine J.open (d := (Kd.int .i64)) (h := h0) (i := s2) 0 rfl hx6_2 (Lay.int _ _) (fun p6_2 hp6_2A => ?_)
    refine J.open (d := (Kd.int .i64)) (h := h1) (i := s2) 1 rfl hx6_6 (Lay.int _ _) (fun p6_6 hp6_6A => ?_)
    refine J.drawS (by kernel_rfl) [(0, some 17, .slice h0.1 a0.length h0.2), (1, some 18, .int .i64 s2), (3, some 20, .int .i64 x6_2), (4, some 21, .slice h1.1 a1.length h1.2), (5, some 22, .int .i64 s2), (7, some 24, .int .i64 x6_6), (8, some 25, .bool (x6_2 != x6_6)), (2, some 19, .pointer (some ⟨p6_2.1, p6_2.2.1 + s2.toNat * 1, none⟩)), (6, some 23, .pointer (some ⟨p6_6.1, p6_6.2.1 + s2.toNat * 1, none⟩))] ([0, 1, 3, 4, 5, 7, 8] ++ [2, 6]) (by kernel_rfl) ?_
    refine D.fin (fr' := [(0, .slice h0.1 a0.length h0.2), (1, .slice h1.1 a1.length h1.2), (5, .int .i64 s2), (25, .bool (x6_2 != x6_6))]) [0, 1, 3, 4, 5, 7, 8] [2, 6] [(1, 0), (0, 0)] [p6_2.1, p6_2.2.1 + s2.toNat * 1, p6_6.1, p6_6.2.1 + s2.toNat * 1] [0, 1, 5, 25] (by kernel_rfl) (by kernel_rfl) (⟨QuAt.mk (v := .pointer (some ⟨p6_2.1, p6_2.2.1 + s2.toNat * 1, none⟩)) (some 19) (by kernel_rfl) (by kernel_rfl) (Qu.idx (t := 23) (x := .tmp 17) (y := .tmp 18) (c := h0.2) (kk := .i64) (sz := 1) (by kernel_rfl) (by kernel_rfl) (by kernel_rfl) (by kernel_rfl) hx6_2a (idx_lt hx6_2) hp6_2A), QuAt.mk (v := .pointer (some ⟨p6_6.1, p6_6.2.1 + s2.toNat * 1, none⟩)) (some 23) (by kernel_rfl) (by kernel_rfl) (Qu.idx (t := 23) (x := .tmp 21) (y := .tmp 22) (c := h1.2) (kk := .i64) (sz := 1) (by kernel_rfl) (by kernel_rfl) (by kernel_rfl) (by kernel_rfl) hx6_6a (idx_lt hx6_6) hp6_6A), trivial⟩) (by kernel_rfl) ?_
    rcases condE H with ⟨hc8, H⟩ | ⟨hc8, H⟩
    ·refine J.condT (x := .tmp 25) (t := (x6_2 != x6_6)) (by kernel_rfl) (by kernel_rfl) hc8 ?_
     refine J.seq (by kernel_rfl) ?_
     refine J.region (by kernel_rfl) ?_
     refine O.pure 1 [] [4] [] (fr' := [(4, .bool false)]) (bx' := []) (by kernel_rfl) ?_
     refine O.nil (by kernel_rfl) ?_
     obtain rfl := Option.some.inj H
     exact J.doneS [] [] [] [] [] () (vs := [.bool false]) (by kernel_rfl) (by kernel_rfl) (by kernel_rfl) (by kernel_rfl) (by kernel_rfl) (by decide)
    ·refine J.condF (x := .tmp 25) (t := (x6_2 != x6_6)) (by kernel_rfl) (by kernel_rfl) hc8 ?_
     refine J.skip (by kernel_rfl) ?_
     refine J.out ?_
     refine J.region (by kernel_rfl) ?_
     refine O.pure 3 [] [0, 1, 5] [] (fr' := [(0, .slice h0.1 a0.length h0.2), (1, .slice h1.1 a1.length h1.2), (5, .int .i64 (IntKind.wrap .i64 (s2 + 1)))]) (bx' := []) (by kernel_rfl) ?_
     refine O.nil (by kernel_rfl) ?_
     exact J.conv2 [0, 1, 5] [0, 1] [] [] (by kernel_rfl) (by kernel_rfl) (by kernel_rfl) (by kernel_rfl) (by decide) (ih2 (IntKind.wrap .i64 (s2 + 1)) () H)
   ·refine J.condF (x := .tmp 14) (t := (decide (s2 < (a0.length : Int)))) (by kernel_rfl) (by kernel_rfl) hc7 ?_
    refine J.exit (id := 0) (by kernel_rfl) rfl ?_
    refine J.seq (by kernel_rfl) ?_
    refine J.region (by kernel_rfl) ?_
    refine O.pure 1 [] [4] [] (fr' := [(4, .bool true)]) (bx' := []) (by kernel_rfl) ?_
    refine O.nil (by kernel_rfl) ?_
    obtain rfl := Option.some.inj H
    exact J.doneS [] [] [] [] [] () (vs := [.bool true]) (by kernel_rfl) (by kernel_rfl) (by kernel_rfl) (by kernel_rfl) (by kernel_rfl) (by decide)
  ·exact J.conv2 [0, 1, 5] [0, 1] [] [] (by kernel_rfl) (by kernel_rfl) (by kernel_rfl) (by kernel_rfl) (by decide) h_
/-! ### haywain/haywainref06.SameRest: function 49 -/
def haywainref06_SameRest.l2 (K : Nat) (a0 : List Bool) (a1 : List Bool) : Nat → Int → Option Bool
  | 0, _ => none
  | k + 1, s2 => cond (decide (s2 < (a0.length : Int))) ((idxO a0 s2).bind fun x6_2 => (idxO a1 s2).bind fun x6_6 => cond (!(x6_2 == x6_6)) (some (false)) (haywainref06_SameRest.l2 K a0 a1 k (IntKind.wrap .i64 (s2 + 1)))) (some (true))
def haywainref06_SameRest.f (K : Nat) (a0 : List Bool) (a1 : List Bool) : Option Bool := cond ((a0.length : Int) != (a1.length : Int)) (some (false)) (haywainref06_SameRest.l2 K a0 a1 K 0)
set_option maxRecDepth 100000 in
set_option maxHeartbeats 1000000 in
theorem haywainref06_SameRest.con (K : Nat) (a0 : List Bool) (a1 : List Bool) (h0 : Hd) (h1 : Hd) (r : Bool) (X : Nat → Nat → Prop) (w : World) (hS : St X w [] [] [] [] [Rd Kd.bool h0.1 h0.2 a0, Rd Kd.bool h1.1 h1.2 a1] w) (H : haywainref06_SameRest.f K a0 a1 = some r) :
    Cn Try.prog 49 [.slice h0.1 a0.length h0.2, .slice h1.1 a1.length h1.2] X w [] (fun i : Unit => .bool r) (fun i => []) (fun i => []) (fun i => []) := by
 refine Cn.of Try.func49 (by kernel_rfl) hS ?_
 unfold haywainref06_SameRest.f at H
 refine J.seq (by kernel_rfl) ?_
 refine J.region (by kernel_rfl) ?_
 refine O.pure 1 [] [0, 1] [] (fr' := [(0, .slice h0.1 a0.length h0.2), (1, .slice h1.1 a1.length h1.2)]) (bx' := []) (by kernel_rfl) ?_
 refine O.nil (by kernel_rfl) ?_
 refine J.seq (by kernel_rfl) ?_
 refine J.seq (by kernel_rfl) ?_
 refine J.region (by kernel_rfl) ?_
 refine O.pure 5 [] [0, 1, 10] [] (fr' := [(0, .slice h0.1 a0.length h0.2), (1, .slice h1.1 a1.length h1.2), (10, .bool ((a0.length : Int) != (a1.length : Int)))]) (bx' := []) (by kernel_rfl) ?_
 refine O.nil (by kernel_rfl) ?_
 rcases condE H with ⟨hc1, H⟩ | ⟨hc1, H⟩
 ·refine J.condT (x := .tmp 10) (t := ((a0.length : Int) != (a1.length : Int))) (by kernel_rfl) (by kernel_rfl) hc1 ?_
  refine J.seq (by kernel_rfl) ?_
  refine J.region (by kernel_rfl) ?_
  refine O.pure 1 [] [4] [] (fr' := [(4, .bool false)]) (bx' := []) (by kernel_rfl) ?_
  refine O.nil (by kernel_rfl) ?_
  obtain rfl := Option.some.inj H
  exact J.doneS [] [] [] [] [] () (vs := [.bool false]) (by kernel_rfl) (by kernel_rfl) (by kernel_rfl) (by kernel_rfl) (by kernel_rfl) (by decide)
 ·refine J.condF (x := .tmp 10) (t := ((a0.length : Int) != (a1.length : Int))) (by kernel_rfl) (by kernel_rfl) hc1 ?_
  refine J.skip (by kernel_rfl) ?_
  refine J.seq (by kernel_rfl) ?_
  refine J.seq (by kernel_rfl) ?_
  refine J.region (by kernel_rfl) ?_
  refine O.pure 1 [] [0, 1, 5] [] (fr' := [(0, .slice h0.1 a0.length h0.2), (1, .slice h1.1 a1.length h1.2), (5, .int .i64 0)]) (bx' := []) (by kernel_rfl) ?_
  refine O.nil (by kernel_rfl) ?_
  refine J.block (id := 0) (by kernel_rfl) ?_
  refine J.loopI (σ := Int) (γ := Unit) (f := fun m_ s_ => haywainref06_SameRest.l2 K a0 a1 m_ s_) (fun s2 g2 => [(0, .slice h0.1 a0.length h0.2), (1, .slice h1.1 a1.length h1.2), (5, .int .i64 s2)]) (fun s2 g2 => St X w [] [] [] [] [Rd Kd.bool h0.1 h0.2 a0, Rd Kd.bool h1.1 h1.2 a1]) K 0 () (by kernel_rfl) H (fun _ => rfl) (fun m_ s2 H ih2 g2 => ?_) (fun h_ => ?_)
  ·unfold haywainref06_SameRest.l2 at H
   refine J.seq (by kernel_rfl) ?_
   refine J.seq (by kernel_rfl) ?_
   refine J.region (by kernel_rfl) ?_
   refine O.pure 4 [] [0, 1, 5, 14] [] (fr' := [(0, .slice h0.1 a0.length h0.2), (1, .slice h1.1 a1.length h1.2), (5, .int .i64 s2), (14, .bool (decide (s2 < (a0.length : Int))))]) (bx' := []) (by kernel_rfl) ?_
   refine O.nil (by kernel_rfl) ?_
   rcases condE H with ⟨hc7, H⟩ | ⟨hc7, H⟩
   ·refine J.condT (x := .tmp 14) (t := (decide (s2 < (a0.length : Int)))) (by kernel_rfl) (by kernel_rfl) hc7 ?_
    refine J.skip (by kernel_rfl) ?_
    refine J.seq (by kernel_rfl) ?_
    refine J.block (id := 1) (by kernel_rfl) ?_
    refine J.seq (by kernel_rfl) ?_
    obtain ⟨x6_2, hx6_2, H⟩ := bindE H
    obtain ⟨hx6_2a, hx6_2⟩ := idxE hx6_2
    obtain ⟨x6_6, hx6_6, H⟩ := bindE H
    obtain ⟨hx6_6a, hx6_6⟩ := idxE hx6_6
    refine J.open (d := Kd.bool) (h := h0) (i := s2) 0 rfl hx6_2 (Lay.bool _) (fun p6_2 hp6_2A => ?_)
    refine J.open (d := Kd.bool) (h := h1) (i := s2) 1 rfl hx6_6 (Lay.bool _) (fun p6_6 hp6_6A => ?_)
    refine J.drawS (by kernel_rfl) [(0, some 17, .slice h0.1 a0.length h0.2), (1, some 18, .int .i64 s2), (3, some 20, .bool x6_2), (4, some 21, .slice h1.1 a1.length h1.2), (5, some 22, .int .i64 s2), (7, some 24, .bool x6_6), (2, some 19, .pointer (some ⟨p6_2.1, p6_2.2.1 + s2.toNat * 1, none⟩)), (6, some 23, .pointer (some ⟨p6_6.1, p6_6.2.1 + s2.toNat * 1, none⟩)), (8, some 25, .bool (!(x6_2 == x6_6)))] ([0, 1, 3, 4, 5, 7] ++ [2, 6, 8]) (by kernel_rfl) ?_
    refine D.fin (fr' := [(0, .slice h0.1 a0.length h0.2), (1, .slice h1.1 a1.length h1.2), (5, .int .i64 s2), (25, .bool (!(x6_2 == x6_6)))]) [0, 1, 3, 4, 5, 7] [2, 6, 8] [(1, 0), (0, 0)] [p6_2.1, p6_2.2.1 + s2.toNat * 1, p6_6.1, p6_6.2.1 + s2.toNat * 1] [0, 1, 5, 25] (by kernel_rfl) (by kernel_rfl) (⟨QuAt.mk (v := .pointer (some ⟨p6_2.1, p6_2.2.1 + s2.toNat * 1, none⟩)) (some 19) (by kernel_rfl) (by kernel_rfl) (Qu.idx (t := 24) (x := .tmp 17) (y := .tmp 18) (c := h0.2) (kk := .i64) (sz := 1) (by kernel_rfl) (by kernel_rfl) (by kernel_rfl) (by kernel_rfl) hx6_2a (idx_lt hx6_2) hp6_2A), QuAt.mk (v := .pointer (some ⟨p6_6.1, p6_6.2.1 + s2.toNat * 1, none⟩)) (some 23) (by kernel_rfl) (by kernel_rfl) (Qu.idx (t := 24) (x := .tmp 21) (y := .tmp 22) (c := h1.2) (kk := .i64) (sz := 1) (by kernel_rfl) (by kernel_rfl) (by kernel_rfl) (by kernel_rfl) hx6_6a (idx_lt hx6_6) hp6_6A), QuAt.mk (v := .bool (!(x6_2 == x6_6))) (some 25) (by kernel_rfl) (by kernel_rfl) (Qu.binT (op := .neq) (t := 4) (t' := 4) (x := .tmp 20) (y := .tmp 24) (u := .bool x6_2) (v := .bool x6_6) (by kernel_rfl) (by kernel_rfl) (by kernel_rfl) (by kernel_rfl)), trivial⟩) (by kernel_rfl) ?_
    rcases condE H with ⟨hc8, H⟩ | ⟨hc8, H⟩
    ·refine J.condT (x := .tmp 25) (t := (!(x6_2 == x6_6))) (by kernel_rfl) (by kernel_rfl) hc8 ?_
     refine J.seq (by kernel_rfl) ?_
     refine J.region (by kernel_rfl) ?_
     refine O.pure 1 [] [4] [] (fr' := [(4, .bool false)]) (bx' := []) (by kernel_rfl) ?_
     refine O.nil (by kernel_rfl) ?_
     obtain rfl := Option.some.inj H
     exact J.doneS [] [] [] [] [] () (vs := [.bool false]) (by kernel_rfl) (by kernel_rfl) (by kernel_rfl) (by kernel_rfl) (by kernel_rfl) (by decide)
    ·refine J.condF (x := .tmp 25) (t := (!(x6_2 == x6_6))) (by kernel_rfl) (by kernel_rfl) hc8 ?_
     refine J.skip (by kernel_rfl) ?_
     refine J.out ?_
     refine J.region (by kernel_rfl) ?_
     refine O.pure 3 [] [0, 1, 5] [] (fr' := [(0, .slice h0.1 a0.length h0.2), (1, .slice h1.1 a1.length h1.2), (5, .int .i64 (IntKind.wrap .i64 (s2 + 1)))]) (bx' := []) (by kernel_rfl) ?_
     refine O.nil (by kernel_rfl) ?_
     exact J.conv2 [0, 1, 5] [0, 1] [] [] (by kernel_rfl) (by kernel_rfl) (by kernel_rfl) (by kernel_rfl) (by decide) (ih2 (IntKind.wrap .i64 (s2 + 1)) () H)
   ·refine J.condF (x := .tmp 14) (t := (decide (s2 < (a0.length : Int)))) (by kernel_rfl) (by kernel_rfl) hc7 ?_
    refine J.exit (id := 0) (by kernel_rfl) rfl ?_
    refine J.seq (by kernel_rfl) ?_
    refine J.region (by kernel_rfl) ?_
    refine O.pure 1 [] [4] [] (fr' := [(4, .bool true)]) (bx' := []) (by kernel_rfl) ?_
    refine O.nil (by kernel_rfl) ?_
    obtain rfl := Option.some.inj H
    exact J.doneS [] [] [] [] [] () (vs := [.bool true]) (by kernel_rfl) (by kernel_rfl) (by kernel_rfl) (by kernel_rfl) (by kernel_rfl) (by decide)
  ·exact J.conv2 [0, 1, 5] [0, 1] [] [] (by kernel_rfl) (by kernel_rfl) (by kernel_rfl) (by kernel_rfl) (by decide) h_
end Go.Proofs.Ytlcbgmaajijbjaa.G
