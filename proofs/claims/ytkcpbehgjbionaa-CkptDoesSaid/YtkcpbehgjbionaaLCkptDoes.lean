/- The law CkptDoes as plain Lean, with its contract; printed by a program of this session. -/
import Derived.Test.YtkcpbehgjbionaaG3
set_option linter.unusedVariables false
set_option linter.unusedSimpArgs false
namespace Go.Proofs.Ytkcpbehgjbionaa.G
open Go Go.RowKit Go.Hw
/-! ### haywain/haywainlaw14.CkptDoes: function 5 -/
def haywainlaw14_CkptDoes.l19 (K : Nat) (a1 : List S48) : Nat → Int → Option (Unit ⊕ Bool)
  | 0, _ => none
  | k + 1, s19 => cond (decide (s19 < (a1.length : Int))) ((idxO a1 s19).bind fun x6_2 => cond (decide ((x6_2.f2.length : Int) > 30000)) ((haywainlaw14_knows.f K).bind fun x7_0 => some (.inr (x7_0))) ((idxO a1 s19).bind fun x6_10 => cond (decide ((x6_10.f1.size : Int) > 100)) ((haywainlaw14_knows.f K).bind fun x7_0 => some (.inr (x7_0))) (haywainlaw14_CkptDoes.l19 K a1 k (IntKind.wrap .i64 (s19 + 1))))) (some (.inl ()))
def haywainlaw14_CkptDoes.f (K : Nat) (a0 : S24) (a1 : List S48) (a2 : Int) : Option Bool := (haywainlaw14_great.f K a0).bind fun x1_1 => cond x1_1 ((haywainlaw14_knows.f K).bind fun x2_0 => some (x2_0)) (cond (decide ((a1.length : Int) > 50)) ((haywainlaw14_knows.f K).bind fun x2_0 => some (x2_0)) ((haywainlaw13_As.f K a0).bind fun x1_9 => (haywainref13_Right.f K x1_9).bind fun x1_10 => cond (!x1_10) ((haywainlaw14_knows.f K).bind fun x2_0 => some (x2_0)) ((haywainlaw14_CkptDoes.l19 K a1 K 0 : Option (Unit ⊕ Bool)).bind (Sum.elim (fun o4 : Unit => (ckpt_Do.f K a0 a1 a2).bind fun x8_3 => (haywainlaw13_As.f K a0).bind fun x9_1 => (haywainlaw14_as.f K a1).bind fun x9_3 => (haywainref14_Do.f K x9_1 x9_3 a2).bind fun x9_5 => cond (x8_3.2 != x9_5.2) (some (false)) ((haywainlaw13_As.f K x8_3.1).bind fun x10_5 => (haywainref13_Same.f K x10_5 x9_5.1).bind fun x10_7 => cond (!x10_7) (some (false)) ((ckpt_Open.f K x8_3.1).bind fun x12_1 => (haywainref14_Open.f K x9_5.1).bind fun x13_1 => (haywainlaw13_As.f K x12_1.1).bind fun x14_1 => (haywainref13_Same.f K x14_1 x13_1.1).bind fun x14_3 => cond x14_3 (cond (x12_1.2 == x13_1.2) ((haywainlaw14_knows.f K).bind fun x14_10 => some (x14_10)) (some (false))) (some (false))))) some))))
set_option maxRecDepth 100000 in
set_option maxHeartbeats 1000000 in
theorem haywainlaw14_CkptDoes.con (K : Nat) (a0 : S24) (a1 : List S48) (a2 : Int) (h0 : Hd) (h1 : Hd) (r : Bool) (X : Nat → Nat → Prop) (w : World) (hS : St X w [] [] [] [] [Rd kd70 h0.1 h0.2 a0.f0, Rd kd48 h1.1 h1.2 a1] w) (H : haywainlaw14_CkptDoes.f K a0 a1 a2 = some r) (hr : r = true) :
    Cn Try.prog 5 [.agg #[.slice h0.1 a0.f0.length h0.2], .slice h1.1 a1.length h1.2, .int .i64 a2] X w [] (fun i : Unit => .bool r) (fun i => []) (fun i => []) (fun i => []) := by
 refine Cn.of Try.func5 (by kernel_rfl) hS ?_
 unfold haywainlaw14_CkptDoes.f at H
 refine J.seq (by kernel_rfl) ?_
 refine J.region (by kernel_rfl) ?_
 refine O.e (some 3) (Ev.box (t := 24) (x := .tmp 0) (v := .agg #[.slice h0.1 a0.f0.length h0.2]) (by kernel_rfl) (by kernel_rfl)) (by kernel_rfl) (fun p0_0 => ?_)
 refine O.pure 1 [] [1, 2, 3] [] (fr' := [(1, .slice h1.1 a1.length h1.2), (2, .int .i64 a2), (3, .pointer (some ⟨p0_0, 0, none⟩))]) (bx' := [⟨p0_0, [.slice h0.1 a0.f0.length h0.2], 24⟩]) (by kernel_rfl) ?_
 refine O.nil (by kernel_rfl) ?_
 refine J.seq (by kernel_rfl) ?_
 refine J.seq (by kernel_rfl) ?_
 obtain ⟨x1_1, hx1_1, H⟩ := bindE H
 rcases condE H with ⟨hc1, H⟩ | ⟨hc1, H⟩
 ·refine J.region (by kernel_rfl) ?_
  refine O.pure 1 [(0, 0)] [1, 2, 3, 16] [p0_0, 0] (fr' := [(1, .slice h1.1 a1.length h1.2), (2, .int .i64 a2), (3, .pointer (some ⟨p0_0, 0, none⟩)), (16, .agg #[.slice h0.1 a0.f0.length h0.2])]) (bx' := [⟨p0_0, [.slice h0.1 a0.f0.length h0.2], 24⟩]) (by kernel_rfl) ?_
  refine O.e (some 17) (Ev.call0 (xs := [.tmp 16]) [0] (by kernel_rfl) (by kernel_rfl) (fun w hS => haywainlaw14_great.con K a0 h0  _ _ w hS hx1_1)) (by kernel_rfl) (fun _ => ?_)
  refine O.q (v := .bool true) (some 18) (Qu.eqv (u := .bool x1_1) (v := .bool true) (0, 0) [] (by kernel_rfl) (congrArg Value.bool hc1)) (by kernel_rfl) ?_
  refine O.pure 10 [] [1, 2, 3, 28] [] (fr' := [(1, .slice h1.1 a1.length h1.2), (2, .int .i64 a2), (3, .pointer (some ⟨p0_0, 0, none⟩)), (28, .bool true)]) (bx' := [⟨p0_0, [.slice h0.1 a0.f0.length h0.2], 24⟩]) (by kernel_rfl) ?_
  refine O.nil (by kernel_rfl) ?_
  refine J.cond (o := .tmp 28) true (by kernel_rfl) (by kernel_rfl) ?_
  refine J.seq (by kernel_rfl) ?_
  obtain ⟨x2_0, hx2_0, H⟩ := bindE H
  refine J.region (by kernel_rfl) ?_
  refine O.e (some 29) (Ev.call0 (xs := []) [] (by kernel_rfl) (by kernel_rfl) (fun w hS => haywainlaw14_knows.con K  _ _ w hS hx2_0 ((Option.some.inj H).trans hr))) (by kernel_rfl) (fun _ => ?_)
  refine O.pure 1 [] [6] [] (fr' := [(6, .bool x2_0)]) (bx' := [⟨p0_0, [.slice h0.1 a0.f0.length h0.2], 24⟩]) (by kernel_rfl) ?_
  refine O.nil (by kernel_rfl) ?_
  obtain rfl := Option.some.inj H
  exact J.doneS [] [] [] [] [] () (vs := [.bool x2_0]) (by kernel_rfl) (by kernel_rfl) (by kernel_rfl) (by kernel_rfl) (by kernel_rfl) (by decide)
 ·rcases condE H with ⟨hc2, H⟩ | ⟨hc2, H⟩
  ·refine J.region (by kernel_rfl) ?_
   refine O.pure 1 [(0, 0)] [1, 2, 3, 16] [p0_0, 0] (fr' := [(1, .slice h1.1 a1.length h1.2), (2, .int .i64 a2), (3, .pointer (some ⟨p0_0, 0, none⟩)), (16, .agg #[.slice h0.1 a0.f0.length h0.2])]) (bx' := [⟨p0_0, [.slice h0.1 a0.f0.length h0.2], 24⟩]) (by kernel_rfl) ?_
   refine O.e (some 17) (Ev.call0 (xs := [.tmp 16]) [0] (by kernel_rfl) (by kernel_rfl) (fun w hS => haywainlaw14_great.con K a0 h0  _ _ w hS hx1_1)) (by kernel_rfl) (fun _ => ?_)
   refine O.q (v := .bool false) (some 18) (Qu.eqv (u := .bool x1_1) (v := .bool false) (0, 0) [] (by kernel_rfl) (congrArg Value.bool hc1)) (by kernel_rfl) ?_
   refine O.pure 2 [] [1, 2, 3, 18, 20] [] (fr' := [(1, .slice h1.1 a1.length h1.2), (2, .int .i64 a2), (3, .pointer (some ⟨p0_0, 0, none⟩)), (18, .bool false), (20, .int .i64 (a1.length : Int))]) (bx' := [⟨p0_0, [.slice h0.1 a0.f0.length h0.2], 24⟩]) (by kernel_rfl) ?_
   refine O.q (v := .bool true) (some 21) (Qu.eqv (u := .bool (decide ((a1.length : Int) > 50))) (v := .bool true) (0, 0) [] (by kernel_rfl) (congrArg Value.bool hc2)) (by kernel_rfl) ?_
   refine O.pure 7 [] [1, 2, 3, 28] [] (fr' := [(1, .slice h1.1 a1.length h1.2), (2, .int .i64 a2), (3, .pointer (some ⟨p0_0, 0, none⟩)), (28, .bool true)]) (bx' := [⟨p0_0, [.slice h0.1 a0.f0.length h0.2], 24⟩]) (by kernel_rfl) ?_
   refine O.nil (by kernel_rfl) ?_
   refine J.cond (o := .tmp 28) true (by kernel_rfl) (by kernel_rfl) ?_
   refine J.seq (by kernel_rfl) ?_
   obtain ⟨x2_0, hx2_0, H⟩ := bindE H
   refine J.region (by kernel_rfl) ?_
   refine O.e (some 29) (Ev.call0 (xs := []) [] (by kernel_rfl) (by kernel_rfl) (fun w hS => haywainlaw14_knows.con K  _ _ w hS hx2_0 ((Option.some.inj H).trans hr))) (by kernel_rfl) (fun _ => ?_)
   refine O.pure 1 [] [6] [] (fr' := [(6, .bool x2_0)]) (bx' := [⟨p0_0, [.slice h0.1 a0.f0.length h0.2], 24⟩]) (by kernel_rfl) ?_
   refine O.nil (by kernel_rfl) ?_
   obtain rfl := Option.some.inj H
   exact J.doneS [] [] [] [] [] () (vs := [.bool x2_0]) (by kernel_rfl) (by kernel_rfl) (by kernel_rfl) (by kernel_rfl) (by kernel_rfl) (by decide)
  ·obtain ⟨x1_9, hx1_9, H⟩ := bindE H
   obtain ⟨x1_10, hx1_10, H⟩ := bindE H
   refine J.region (by kernel_rfl) ?_
   refine O.pure 1 [(0, 0)] [1, 2, 3, 16] [p0_0, 0] (fr' := [(1, .slice h1.1 a1.length h1.2), (2, .int .i64 a2), (3, .pointer (some ⟨p0_0, 0, none⟩)), (16, .agg #[.slice h0.1 a0.f0.length h0.2])]) (bx' := [⟨p0_0, [.slice h0.1 a0.f0.length h0.2], 24⟩]) (by kernel_rfl) ?_
   refine O.e (some 17) (Ev.call0 (xs := [.tmp 16]) [0] (by kernel_rfl) (by kernel_rfl) (fun w hS => haywainlaw14_great.con K a0 h0  _ _ w hS hx1_1)) (by kernel_rfl) (fun _ => ?_)
   refine O.q (v := .bool false) (some 18) (Qu.eqv (u := .bool x1_1) (v := .bool false) (0, 0) [] (by kernel_rfl) (congrArg Value.bool hc1)) (by kernel_rfl) ?_
   refine O.pure 2 [] [1, 2, 3, 18, 20] [] (fr' := [(1, .slice h1.1 a1.length h1.2), (2, .int .i64 a2), (3, .pointer (some ⟨p0_0, 0, none⟩)), (18, .bool false), (20, .int .i64 (a1.length : Int))]) (bx' := [⟨p0_0, [.slice h0.1 a0.f0.length h0.2], 24⟩]) (by kernel_rfl) ?_
   refine O.q (v := .bool false) (some 21) (Qu.eqv (u := .bool (decide ((a1.length : Int) > 50))) (v := .bool false) (0, 0) [] (by kernel_rfl) (congrArg Value.bool hc2)) (by kernel_rfl) ?_
   refine O.pure 3 [(0, 0)] [1, 2, 3, 23, 24] [p0_0, 0] (fr' := [(1, .slice h1.1 a1.length h1.2), (2, .int .i64 a2), (3, .pointer (some ⟨p0_0, 0, none⟩)), (23, .bool false), (24, .agg #[.slice h0.1 a0.f0.length h0.2])]) (bx' := [⟨p0_0, [.slice h0.1 a0.f0.length h0.2], 24⟩]) (by kernel_rfl) ?_
   refine O.e (some 25) (Ev.call0 (xs := [.tmp 24]) [0] (by kernel_rfl) (by kernel_rfl) (fun w hS => haywainlaw13_As.con K a0 h0  _ _ w hS hx1_9)) (by kernel_rfl) (fun p1_9 => ?_)
   refine O.e (some 26) (Ev.callLb (xs1 := [.tmp 25]) [0] (fun w hS => (hS.rowsel [0] rfl (by decide)).freezeL (hh := p1_9) (m := x1_9.length) (xs := x1_9) rfl) (by kernel_rfl) (by kernel_rfl) (fun _ q hq => by cases hq) (fun w hS => haywainref13_Right.con K x1_9 p1_9  _ _ w hS hx1_10)) (by kernel_rfl) (fun _ => ?_)
   refine O.pure 2 [] [1, 2, 3, 28] [] (fr' := [(1, .slice h1.1 a1.length h1.2), (2, .int .i64 a2), (3, .pointer (some ⟨p0_0, 0, none⟩)), (28, .bool (!x1_10))]) (bx' := [⟨p0_0, [.slice h0.1 a0.f0.length h0.2], 24⟩]) (by kernel_rfl) ?_
   refine O.nil (by kernel_rfl) ?_
   rcases condE H with ⟨hc3, H⟩ | ⟨hc3, H⟩
   ·refine J.condT (x := .tmp 28) (t := (!x1_10)) (by kernel_rfl) (by kernel_rfl) hc3 ?_
    refine J.seq (by kernel_rfl) ?_
    obtain ⟨x2_0, hx2_0, H⟩ := bindE H
    refine J.region (by kernel_rfl) ?_
    refine O.e (some 29) (Ev.call0 (xs := []) [] (by kernel_rfl) (by kernel_rfl) (fun w hS => haywainlaw14_knows.con K  _ _ w hS hx2_0 ((Option.some.inj H).trans hr))) (by kernel_rfl) (fun _ => ?_)
    refine O.pure 1 [] [6] [] (fr' := [(6, .bool x2_0)]) (bx' := [⟨p0_0, [.slice h0.1 a0.f0.length h0.2], 24⟩]) (by kernel_rfl) ?_
    refine O.nil (by kernel_rfl) ?_
    obtain rfl := Option.some.inj H
    exact J.doneS [] [] [] [] [] () (vs := [.bool x2_0]) (by kernel_rfl) (by kernel_rfl) (by kernel_rfl) (by kernel_rfl) (by kernel_rfl) (by decide)
   ·refine J.condF (x := .tmp 28) (t := (!x1_10)) (by kernel_rfl) (by kernel_rfl) hc3 ?_
    refine J.skip (by kernel_rfl) ?_
    refine J.seq (by kernel_rfl) ?_
    refine J.seq (by kernel_rfl) ?_
    refine J.region (by kernel_rfl) ?_
    refine O.pure 1 [] [1, 2, 3, 7] [] (fr' := [(1, .slice h1.1 a1.length h1.2), (2, .int .i64 a2), (3, .pointer (some ⟨p0_0, 0, none⟩)), (7, .int .i64 0)]) (bx' := [⟨p0_0, [.slice h0.1 a0.f0.length h0.2], 24⟩]) (by kernel_rfl) ?_
    refine O.nil (by kernel_rfl) ?_
    refine J.joinS (α := Unit) (γ := Unit) (fun o4 q4 => [(1, .slice h1.1 a1.length h1.2), (2, .int .i64 a2), (3, .pointer (some ⟨p0_0, 0, none⟩))]) (fun o4 q4 => St X w [] [⟨p0_0, [.slice h0.1 a0.f0.length h0.2], 24⟩] [] [] [Rd kd70 h0.1 h0.2 a0.f0, Rd kd48 h1.1 h1.2 a1]) H (fun o4 q4 H => ?_) (fun o4 H hj4 => ?_)
    ·refine J.seq (by kernel_rfl) ?_
     obtain ⟨x8_3, hx8_3, H⟩ := bindE H
     refine J.region (by kernel_rfl) ?_
     refine O.pure 3 [(0, 0)] [1, 2, 3, 54, 55, 56] [p0_0, 0] (fr' := [(1, .slice h1.1 a1.length h1.2), (2, .int .i64 a2), (3, .pointer (some ⟨p0_0, 0, none⟩)), (54, .agg #[.slice h0.1 a0.f0.length h0.2]), (55, .slice h1.1 a1.length h1.2), (56, .int .i64 a2)]) (bx' := [⟨p0_0, [.slice h0.1 a0.f0.length h0.2], 24⟩]) (by kernel_rfl) ?_
     refine O.e (some 57) (Ev.call0 (xs := [.tmp 54, .tmp 55, .tmp 56]) [0, 1] (by kernel_rfl) (by kernel_rfl) (fun w hS => ckpt_Do.con K a0 a1 a2 h0 h1  _ _ w hS hx8_3)) (by kernel_rfl) (fun p8_3 => ?_)
     refine O.pure 3 [] [1, 2, 3, 58, 59] [] (fr' := [(1, .slice h1.1 a1.length h1.2), (2, .int .i64 a2), (3, .pointer (some ⟨p0_0, 0, none⟩)), (58, .agg #[.slice p8_3.1 x8_3.1.f0.length p8_3.2]), (59, .int .i64 x8_3.2)]) (bx' := [⟨p0_0, [.slice h0.1 a0.f0.length h0.2], 24⟩]) (by kernel_rfl) ?_
     refine O.e (some 8) (Ev.alloc (t := 24) (z := .agg #[.slice none 0 0]) (by kernel_rfl) (by kernel_rfl)) (by kernel_rfl) (fun p8_7 => ?_)
     refine O.pure 2 [(0, 0)] [1, 2, 3, 8, 9] [p8_7, 0] (fr' := [(1, .slice h1.1 a1.length h1.2), (2, .int .i64 a2), (3, .pointer (some ⟨p0_0, 0, none⟩)), (8, .pointer (some ⟨p8_7, 0, none⟩)), (9, .int .i64 x8_3.2)]) (bx' := [⟨p8_7, [.slice p8_3.1 x8_3.1.f0.length p8_3.2], 24⟩, ⟨p0_0, [.slice h0.1 a0.f0.length h0.2], 24⟩]) (by kernel_rfl) ?_
     refine O.nil (by kernel_rfl) ?_
     refine J.seq (by kernel_rfl) ?_
     obtain ⟨x9_1, hx9_1, H⟩ := bindE H
     obtain ⟨x9_3, hx9_3, H⟩ := bindE H
     obtain ⟨x9_5, hx9_5, H⟩ := bindE H
     refine J.region (by kernel_rfl) ?_
     refine O.pure 1 [(1, 0)] [1, 2, 8, 9, 61] [p0_0, 0] (fr' := [(1, .slice h1.1 a1.length h1.2), (2, .int .i64 a2), (8, .pointer (some ⟨p8_7, 0, none⟩)), (9, .int .i64 x8_3.2), (61, .agg #[.slice h0.1 a0.f0.length h0.2])]) (bx' := [⟨p8_7, [.slice p8_3.1 x8_3.1.f0.length p8_3.2], 24⟩, ⟨p0_0, [.slice h0.1 a0.f0.length h0.2], 24⟩]) (by kernel_rfl) ?_
     refine O.e (some 62) (Ev.call0 (xs := [.tmp 61]) [1] (by kernel_rfl) (by kernel_rfl) (fun w hS => haywainlaw13_As.con K a0 h0  _ _ w hS hx9_1)) (by kernel_rfl) (fun p9_1 => ?_)
     refine O.pure 1 [] [2, 8, 9, 62, 63] [] (fr' := [(2, .int .i64 a2), (8, .pointer (some ⟨p8_7, 0, none⟩)), (9, .int .i64 x8_3.2), (62, .slice p9_1.1 x9_1.length p9_1.2), (63, .slice h1.1 a1.length h1.2)]) (bx' := [⟨p8_7, [.slice p8_3.1 x8_3.1.f0.length p8_3.2], 24⟩, ⟨p0_0, [.slice h0.1 a0.f0.length h0.2], 24⟩]) (by kernel_rfl) ?_
     refine O.e (some 64) (Ev.call0 (xs := [.tmp 63]) [2] (by kernel_rfl) (by kernel_rfl) (fun w hS => haywainlaw14_as.con K a1 h1  _ _ w hS hx9_3)) (by kernel_rfl) (fun p9_3 => ?_)
     refine O.pure 1 [] [8, 9, 62, 64, 65] [] (fr' := [(8, .pointer (some ⟨p8_7, 0, none⟩)), (9, .int .i64 x8_3.2), (62, .slice p9_1.1 x9_1.length p9_1.2), (64, .slice p9_3.1 x9_3.length p9_3.2), (65, .int .i64 a2)]) (bx' := [⟨p8_7, [.slice p8_3.1 x8_3.1.f0.length p8_3.2], 24⟩, ⟨p0_0, [.slice h0.1 a0.f0.length h0.2], 24⟩]) (by kernel_rfl) ?_
     refine O.e (some 66) (Ev.mono (fun w hS => hS.rowsel [1, 0] rfl (by decide)) (Ev.mono (fun w hS => hS.freezeH (h := p9_1) (xs := x9_1)) (Ev.mono (fun w hS => hS.freezeH (h := p9_3) (xs := x9_3)) (Ev.call0 (xs := [.tmp 62, .tmp 64, .tmp 65]) [1, 0] (by kernel_rfl) (by kernel_rfl) (fun w hS => haywainref14_Do.con K x9_1 x9_3 a2 p9_1 p9_3  _ _ w hS hx9_5))))) (by kernel_rfl) (fun p9_5 => ?_)
     refine O.pure 5 [] [8, 9, 10, 11] [] (fr' := [(8, .pointer (some ⟨p8_7, 0, none⟩)), (9, .int .i64 x8_3.2), (10, .slice p9_5.1 x9_5.1.length p9_5.2), (11, .int .i64 x9_5.2)]) (bx' := [⟨p8_7, [.slice p8_3.1 x8_3.1.f0.length p8_3.2], 24⟩, ⟨p0_0, [.slice h0.1 a0.f0.length h0.2], 24⟩]) (by kernel_rfl) ?_
     refine O.nil (by kernel_rfl) ?_
     refine J.seq (by kernel_rfl) ?_
     refine J.seq (by kernel_rfl) ?_
     rcases condE H with ⟨hc15, H⟩ | ⟨hc15, H⟩
     ·obtain rfl := Option.some.inj H
      cases hr
     ·obtain ⟨x10_5, hx10_5, H⟩ := bindE H
      obtain ⟨x10_7, hx10_7, H⟩ := bindE H
      refine J.region (by kernel_rfl) ?_
      refine O.pure 2 [] [8, 10, 69, 70] [] (fr' := [(8, .pointer (some ⟨p8_7, 0, none⟩)), (10, .slice p9_5.1 x9_5.1.length p9_5.2), (69, .int .i64 x8_3.2), (70, .int .i64 x9_5.2)]) (bx' := [⟨p8_7, [.slice p8_3.1 x8_3.1.f0.length p8_3.2], 24⟩, ⟨p0_0, [.slice h0.1 a0.f0.length h0.2], 24⟩]) (by kernel_rfl) ?_
      refine O.q (v := .bool false) (some 71) (Qu.eqv (u := .bool (x8_3.2 != x9_5.2)) (v := .bool false) (0, 0) [] (by kernel_rfl) (congrArg Value.bool hc15)) (by kernel_rfl) ?_
      refine O.pure 2 [(0, 0)] [8, 10, 72, 73] [p8_7, 0] (fr' := [(8, .pointer (some ⟨p8_7, 0, none⟩)), (10, .slice p9_5.1 x9_5.1.length p9_5.2), (72, .bool false), (73, .agg #[.slice p8_3.1 x8_3.1.f0.length p8_3.2])]) (bx' := [⟨p8_7, [.slice p8_3.1 x8_3.1.f0.length p8_3.2], 24⟩, ⟨p0_0, [.slice h0.1 a0.f0.length h0.2], 24⟩]) (by kernel_rfl) ?_
      refine O.e (some 74) (Ev.call0 (xs := [.tmp 73]) [3] (by kernel_rfl) (by kernel_rfl) (fun w hS => haywainlaw13_As.con K x8_3.1 p8_3  _ _ w hS hx10_5)) (by kernel_rfl) (fun p10_5 => ?_)
      refine O.pure 1 [] [8, 10, 72, 74, 75] [] (fr' := [(8, .pointer (some ⟨p8_7, 0, none⟩)), (10, .slice p9_5.1 x9_5.1.length p9_5.2), (72, .bool false), (74, .slice p10_5.1 x10_5.length p10_5.2), (75, .slice p9_5.1 x9_5.1.length p9_5.2)]) (bx' := [⟨p8_7, [.slice p8_3.1 x8_3.1.f0.length p8_3.2], 24⟩, ⟨p0_0, [.slice h0.1 a0.f0.length h0.2], 24⟩]) (by kernel_rfl) ?_
      refine O.e (some 76) (Ev.callLb (xs1 := [.tmp 74, .tmp 75]) [0, 1] (fun w hS => (hS.rowsel [0] rfl (by decide)).freezeL (hh := p10_5) (m := x10_5.length) (xs := x10_5) rfl) (by kernel_rfl) (by kernel_rfl) (fun _ q hq => by cases hq) (fun w hS => haywainref13_Same.con K x10_5 x9_5.1 p10_5 p9_5  _ _ w hS hx10_7)) (by kernel_rfl) (fun _ => ?_)
      refine O.pure 2 [] [8, 10, 78] [] (fr' := [(8, .pointer (some ⟨p8_7, 0, none⟩)), (10, .slice p9_5.1 x9_5.1.length p9_5.2), (78, .bool (!x10_7))]) (bx' := [⟨p8_7, [.slice p8_3.1 x8_3.1.f0.length p8_3.2], 24⟩, ⟨p0_0, [.slice h0.1 a0.f0.length h0.2], 24⟩]) (by kernel_rfl) ?_
      refine O.nil (by kernel_rfl) ?_
      rcases condE H with ⟨hc16, H⟩ | ⟨hc16, H⟩
      ·obtain rfl := Option.some.inj H
       cases hr
      ·refine J.condF (x := .tmp 78) (t := (!x10_7)) (by kernel_rfl) (by kernel_rfl) hc16 ?_
       refine J.skip (by kernel_rfl) ?_
       refine J.seq (by kernel_rfl) ?_
       obtain ⟨x12_1, hx12_1, H⟩ := bindE H
       refine J.region (by kernel_rfl) ?_
       refine O.pure 1 [(0, 0)] [10, 80] [p8_7, 0] (fr' := [(10, .slice p9_5.1 x9_5.1.length p9_5.2), (80, .agg #[.slice p8_3.1 x8_3.1.f0.length p8_3.2])]) (bx' := [⟨p8_7, [.slice p8_3.1 x8_3.1.f0.length p8_3.2], 24⟩, ⟨p0_0, [.slice h0.1 a0.f0.length h0.2], 24⟩]) (by kernel_rfl) ?_
       refine O.e (some 81) (Ev.call0 (xs := [.tmp 80]) [3] (by kernel_rfl) (by kernel_rfl) (fun w hS => ckpt_Open.con K x8_3.1 p8_3  _ _ w hS hx12_1)) (by kernel_rfl) (fun p12_1 => ?_)
       refine O.pure 3 [] [10, 82, 83] [] (fr' := [(10, .slice p9_5.1 x9_5.1.length p9_5.2), (82, .agg #[.slice p12_1.1 x12_1.1.f0.length p12_1.2]), (83, .int .i64 x12_1.2)]) (bx' := [⟨p8_7, [.slice p8_3.1 x8_3.1.f0.length p8_3.2], 24⟩, ⟨p0_0, [.slice h0.1 a0.f0.length h0.2], 24⟩]) (by kernel_rfl) ?_
       refine O.e (some 12) (Ev.alloc (t := 24) (z := .agg #[.slice none 0 0]) (by kernel_rfl) (by kernel_rfl)) (by kernel_rfl) (fun p12_5 => ?_)
       refine O.pure 2 [(0, 0)] [10, 12, 13] [p12_5, 0] (fr' := [(10, .slice p9_5.1 x9_5.1.length p9_5.2), (12, .pointer (some ⟨p12_5, 0, none⟩)), (13, .int .i64 x12_1.2)]) (bx' := [⟨p12_5, [.slice p12_1.1 x12_1.1.f0.length p12_1.2], 24⟩, ⟨p8_7, [.slice p8_3.1 x8_3.1.f0.length p8_3.2], 24⟩, ⟨p0_0, [.slice h0.1 a0.f0.length h0.2], 24⟩]) (by kernel_rfl) ?_
       refine O.nil (by kernel_rfl) ?_
       refine J.seq (by kernel_rfl) ?_
       obtain ⟨x13_1, hx13_1, H⟩ := bindE H
       refine J.region (by kernel_rfl) ?_
       refine O.pure 1 [] [12, 13, 85] [] (fr' := [(12, .pointer (some ⟨p12_5, 0, none⟩)), (13, .int .i64 x12_1.2), (85, .slice p9_5.1 x9_5.1.length p9_5.2)]) (bx' := [⟨p12_5, [.slice p12_1.1 x12_1.1.f0.length p12_1.2], 24⟩, ⟨p8_7, [.slice p8_3.1 x8_3.1.f0.length p8_3.2], 24⟩, ⟨p0_0, [.slice h0.1 a0.f0.length h0.2], 24⟩]) (by kernel_rfl) ?_
       refine O.e (some 86) (Ev.call0 (xs := [.tmp 85]) [1] (by kernel_rfl) (by kernel_rfl) (fun w hS => haywainref14_Open.con K x9_5.1 p9_5  _ _ w hS hx13_1)) (by kernel_rfl) (fun p13_1 => ?_)
       refine O.pure 5 [] [12, 13, 14, 15] [] (fr' := [(12, .pointer (some ⟨p12_5, 0, none⟩)), (13, .int .i64 x12_1.2), (14, .slice p13_1.1 x13_1.1.length p13_1.2), (15, .int .i64 x13_1.2)]) (bx' := [⟨p12_5, [.slice p12_1.1 x12_1.1.f0.length p12_1.2], 24⟩, ⟨p8_7, [.slice p8_3.1 x8_3.1.f0.length p8_3.2], 24⟩, ⟨p0_0, [.slice h0.1 a0.f0.length h0.2], 24⟩]) (by kernel_rfl) ?_
       refine O.nil (by kernel_rfl) ?_
       refine J.seq (by kernel_rfl) ?_
       obtain ⟨x14_1, hx14_1, H⟩ := bindE H
       obtain ⟨x14_3, hx14_3, H⟩ := bindE H
       rcases condE H with ⟨hc17, H⟩ | ⟨hc17, H⟩
       ·rcases condE H with ⟨hc18, H⟩ | ⟨hc18, H⟩
        ·obtain ⟨x14_10, hx14_10, H⟩ := bindE H
         refine J.region (by kernel_rfl) ?_
         refine O.pure 1 [(0, 0)] [13, 14, 15, 89] [p12_5, 0] (fr' := [(13, .int .i64 x12_1.2), (14, .slice p13_1.1 x13_1.1.length p13_1.2), (15, .int .i64 x13_1.2), (89, .agg #[.slice p12_1.1 x12_1.1.f0.length p12_1.2])]) (bx' := [⟨p12_5, [.slice p12_1.1 x12_1.1.f0.length p12_1.2], 24⟩, ⟨p8_7, [.slice p8_3.1 x8_3.1.f0.length p8_3.2], 24⟩, ⟨p0_0, [.slice h0.1 a0.f0.length h0.2], 24⟩]) (by kernel_rfl) ?_
         refine O.e (some 90) (Ev.call0 (xs := [.tmp 89]) [1] (by kernel_rfl) (by kernel_rfl) (fun w hS => haywainlaw13_As.con K x12_1.1 p12_1  _ _ w hS hx14_1)) (by kernel_rfl) (fun p14_1 => ?_)
         refine O.pure 1 [] [13, 15, 90, 91] [] (fr' := [(13, .int .i64 x12_1.2), (15, .int .i64 x13_1.2), (90, .slice p14_1.1 x14_1.length p14_1.2), (91, .slice p13_1.1 x13_1.1.length p13_1.2)]) (bx' := [⟨p12_5, [.slice p12_1.1 x12_1.1.f0.length p12_1.2], 24⟩, ⟨p8_7, [.slice p8_3.1 x8_3.1.f0.length p8_3.2], 24⟩, ⟨p0_0, [.slice h0.1 a0.f0.length h0.2], 24⟩]) (by kernel_rfl) ?_
         refine O.e (some 92) (Ev.callLb (xs1 := [.tmp 90, .tmp 91]) [0, 1] (fun w hS => (hS.rowsel [0, 1] rfl (by decide)).freezeL (hh := p14_1) (m := x14_1.length) (xs := x14_1) rfl) (by kernel_rfl) (by kernel_rfl) (fun _ q hq => by cases hq) (fun w hS => haywainref13_Same.con K x14_1 x13_1.1 p14_1 p13_1  _ _ w hS hx14_3)) (by kernel_rfl) (fun _ => ?_)
         refine O.q (v := .bool true) (some 93) (Qu.eqv (u := .bool x14_3) (v := .bool true) (0, 0) [] (by kernel_rfl) (congrArg Value.bool hc17)) (by kernel_rfl) ?_
         refine O.pure 2 [] [93, 94, 95] [] (fr' := [(93, .bool true), (94, .int .i64 x12_1.2), (95, .int .i64 x13_1.2)]) (bx' := [⟨p12_5, [.slice p12_1.1 x12_1.1.f0.length p12_1.2], 24⟩, ⟨p8_7, [.slice p8_3.1 x8_3.1.f0.length p8_3.2], 24⟩, ⟨p0_0, [.slice h0.1 a0.f0.length h0.2], 24⟩]) (by kernel_rfl) ?_
         refine O.q (v := .bool true) (some 96) (Qu.eqv (u := .bool (x12_1.2 == x13_1.2)) (v := .bool true) (0, 0) [] (by kernel_rfl) (congrArg Value.bool hc18)) (by kernel_rfl) ?_
         refine O.pure 2 [] [98] [] (fr' := [(98, .bool true)]) (bx' := [⟨p12_5, [.slice p12_1.1 x12_1.1.f0.length p12_1.2], 24⟩, ⟨p8_7, [.slice p8_3.1 x8_3.1.f0.length p8_3.2], 24⟩, ⟨p0_0, [.slice h0.1 a0.f0.length h0.2], 24⟩]) (by kernel_rfl) ?_
         refine O.e (some 99) (Ev.call0 (xs := []) [] (by kernel_rfl) (by kernel_rfl) (fun w hS => haywainlaw14_knows.con K  _ _ w hS hx14_10 ((Option.some.inj H).trans hr))) (by kernel_rfl) (fun _ => ?_)
         refine O.pure 2 [] [6] [] (fr' := [(6, .bool x14_10)]) (bx' := [⟨p12_5, [.slice p12_1.1 x12_1.1.f0.length p12_1.2], 24⟩, ⟨p8_7, [.slice p8_3.1 x8_3.1.f0.length p8_3.2], 24⟩, ⟨p0_0, [.slice h0.1 a0.f0.length h0.2], 24⟩]) (by kernel_rfl) ?_
         refine O.nil (by kernel_rfl) ?_
         obtain rfl := Option.some.inj H
         exact J.doneS [] [] [] [] [] () (vs := [.bool x14_10]) (by kernel_rfl) (by kernel_rfl) (by kernel_rfl) (by kernel_rfl) (by kernel_rfl) (by decide)
        ·obtain rfl := Option.some.inj H
         cases hr
       ·obtain rfl := Option.some.inj H
        cases hr
    ·refine J.block (id := 0) (by kernel_rfl) ?_
     refine J.loopI (σ := Int) (γ := Unit) (f := fun m_ s_ => haywainlaw14_CkptDoes.l19 K a1 m_ s_) (fun s19 g19 => [(1, .slice h1.1 a1.length h1.2), (2, .int .i64 a2), (3, .pointer (some ⟨p0_0, 0, none⟩)), (7, .int .i64 s19)]) (fun s19 g19 => St X w [] [⟨p0_0, [.slice h0.1 a0.f0.length h0.2], 24⟩] [] [] [Rd kd70 h0.1 h0.2 a0.f0, Rd kd48 h1.1 h1.2 a1]) K 0 () (by kernel_rfl) H (fun _ => rfl) (fun m_ s19 H ih19 g19 => ?_) (fun h_ => ?_)
     ·unfold haywainlaw14_CkptDoes.l19 at H
      refine J.seq (by kernel_rfl) ?_
      refine J.seq (by kernel_rfl) ?_
      refine J.region (by kernel_rfl) ?_
      refine O.pure 4 [] [1, 2, 3, 7, 33] [] (fr' := [(1, .slice h1.1 a1.length h1.2), (2, .int .i64 a2), (3, .pointer (some ⟨p0_0, 0, none⟩)), (7, .int .i64 s19), (33, .bool (decide (s19 < (a1.length : Int))))]) (bx' := [⟨p0_0, [.slice h0.1 a0.f0.length h0.2], 24⟩]) (by kernel_rfl) ?_
      refine O.nil (by kernel_rfl) ?_
      rcases condE H with ⟨hc26, H⟩ | ⟨hc26, H⟩
      ·refine J.condT (x := .tmp 33) (t := (decide (s19 < (a1.length : Int)))) (by kernel_rfl) (by kernel_rfl) hc26 ?_
       refine J.skip (by kernel_rfl) ?_
       refine J.seq (by kernel_rfl) ?_
       refine J.block (id := 1) (by kernel_rfl) ?_
       refine J.seq (by kernel_rfl) ?_
       obtain ⟨x6_2, hx6_2, H⟩ := bindE H
       obtain ⟨hx6_2a, hx6_2⟩ := idxE hx6_2
       rcases condE H with ⟨hc27, H⟩ | ⟨hc27, H⟩
       ·refine J.region (by kernel_rfl) ?_
        refine O.pure 2 [] [1, 2, 3, 7, 36, 37] [] (fr' := [(1, .slice h1.1 a1.length h1.2), (2, .int .i64 a2), (3, .pointer (some ⟨p0_0, 0, none⟩)), (7, .int .i64 s19), (36, .slice h1.1 a1.length h1.2), (37, .int .i64 s19)]) (bx' := [⟨p0_0, [.slice h0.1 a0.f0.length h0.2], 24⟩]) (by kernel_rfl) ?_
        refine O.open (d := kd48) (h := h1) (i := s19) 1 rfl hx6_2 (op48 _) (fun p6_2 hp6_2A => ?_)
        refine O.q (v := .pointer (some ⟨p6_2.1, p6_2.2.1 + s19.toNat * 3, none⟩)) (some 38) (Qu.idx (t := 37) (x := .tmp 36) (y := .tmp 37) (c := h1.2) (kk := .i64) (sz := 3) (by kernel_rfl) (by kernel_rfl) (by kernel_rfl) (by kernel_rfl) hx6_2a (idx_lt hx6_2) hp6_2A) (by kernel_rfl) ?_
        refine O.pure 3 [(1, 2)] [1, 2, 3, 7, 41] [p6_2.1, p6_2.2.1 + s19.toNat * 3 + 2] (fr' := [(1, .slice h1.1 a1.length h1.2), (2, .int .i64 a2), (3, .pointer (some ⟨p0_0, 0, none⟩)), (7, .int .i64 s19), (41, .int .i64 (x6_2.f2.length : Int))]) (bx' := [⟨p0_0, [.slice h0.1 a0.f0.length h0.2], 24⟩]) (by kernel_rfl) ?_
        refine O.q (v := .bool true) (some 42) (Qu.eqv (u := .bool (decide ((x6_2.f2.length : Int) > 30000))) (v := .bool true) (0, 0) [] (by kernel_rfl) (congrArg Value.bool hc27)) (by kernel_rfl) ?_
        refine O.pure 9 [] [1, 2, 3, 7, 44, 45, 46, 47, 48, 49, 50, 51] [] (fr' := [(1, .slice h1.1 a1.length h1.2), (2, .int .i64 a2), (3, .pointer (some ⟨p0_0, 0, none⟩)), (7, .int .i64 s19), (44, undef), (45, undef), (46, undef), (47, undef), (48, undef), (49, undef), (50, undef), (51, .bool true)]) (bx' := [⟨p0_0, [.slice h0.1 a0.f0.length h0.2], 24⟩]) (by kernel_rfl) ?_
        refine O.nil (by kernel_rfl) ?_
        refine J.cond (o := .tmp 51) true (by kernel_rfl) (by kernel_rfl) ?_
        refine J.seq (by kernel_rfl) ?_
        obtain ⟨x7_0, hx7_0, H⟩ := bindE H
        refine J.region (by kernel_rfl) ?_
        refine O.e (some 52) (Ev.call0 (xs := []) [] (by kernel_rfl) (by kernel_rfl) (fun w hS => haywainlaw14_knows.con K  _ _ w hS hx7_0 ((hj4.2 _ (Option.some.inj H).symm).trans hr))) (by kernel_rfl) (fun _ => ?_)
        refine O.pure 1 [] [6] [] (fr' := [(6, .bool x7_0)]) (bx' := [⟨p0_0, [.slice h0.1 a0.f0.length h0.2], 24⟩]) (by kernel_rfl) ?_
        refine O.nil (by kernel_rfl) ?_
        obtain rfl := Option.some.inj H
        obtain rfl := hj4.2 _ rfl
        exact J.doneS [] [] [] [] [] () (vs := [.bool x7_0]) (by kernel_rfl) (by kernel_rfl) (by kernel_rfl) (by kernel_rfl) (by kernel_rfl) (by decide)
       ·obtain ⟨x6_10, hx6_10, H⟩ := bindE H
        obtain ⟨hx6_10a, hx6_10⟩ := idxE hx6_10
        refine J.region (by kernel_rfl) ?_
        refine O.pure 2 [] [1, 2, 3, 7, 36, 37] [] (fr' := [(1, .slice h1.1 a1.length h1.2), (2, .int .i64 a2), (3, .pointer (some ⟨p0_0, 0, none⟩)), (7, .int .i64 s19), (36, .slice h1.1 a1.length h1.2), (37, .int .i64 s19)]) (bx' := [⟨p0_0, [.slice h0.1 a0.f0.length h0.2], 24⟩]) (by kernel_rfl) ?_
        refine O.open (d := kd48) (h := h1) (i := s19) 1 rfl hx6_2 (op48 _) (fun p6_2 hp6_2A => ?_)
        refine O.q (v := .pointer (some ⟨p6_2.1, p6_2.2.1 + s19.toNat * 3, none⟩)) (some 38) (Qu.idx (t := 37) (x := .tmp 36) (y := .tmp 37) (c := h1.2) (kk := .i64) (sz := 3) (by kernel_rfl) (by kernel_rfl) (by kernel_rfl) (by kernel_rfl) hx6_2a (idx_lt hx6_2) hp6_2A) (by kernel_rfl) ?_
        refine O.pure 3 [(1, 2)] [1, 2, 3, 7, 41] [p6_2.1, p6_2.2.1 + s19.toNat * 3 + 2] (fr' := [(1, .slice h1.1 a1.length h1.2), (2, .int .i64 a2), (3, .pointer (some ⟨p0_0, 0, none⟩)), (7, .int .i64 s19), (41, .int .i64 (x6_2.f2.length : Int))]) (bx' := [⟨p0_0, [.slice h0.1 a0.f0.length h0.2], 24⟩]) (by kernel_rfl) ?_
        refine O.q (v := .bool false) (some 42) (Qu.eqv (u := .bool (decide ((x6_2.f2.length : Int) > 30000))) (v := .bool false) (0, 0) [] (by kernel_rfl) (congrArg Value.bool hc27)) (by kernel_rfl) ?_
        refine O.pure 3 [] [1, 2, 3, 7, 43, 44, 45] [] (fr' := [(1, .slice h1.1 a1.length h1.2), (2, .int .i64 a2), (3, .pointer (some ⟨p0_0, 0, none⟩)), (7, .int .i64 s19), (43, .bool false), (44, .slice h1.1 a1.length h1.2), (45, .int .i64 s19)]) (bx' := [⟨p0_0, [.slice h0.1 a0.f0.length h0.2], 24⟩]) (by kernel_rfl) ?_
        refine O.open (d := kd48) (h := h1) (i := s19) 2 rfl hx6_10 (op48 _) (fun p6_10 hp6_10A => ?_)
        refine O.q (v := .pointer (some ⟨p6_10.1, p6_10.2.1 + s19.toNat * 3, none⟩)) (some 46) (Qu.idx (t := 37) (x := .tmp 44) (y := .tmp 45) (c := h1.2) (kk := .i64) (sz := 3) (by kernel_rfl) (by kernel_rfl) (by kernel_rfl) (by kernel_rfl) hx6_10a (idx_lt hx6_10) hp6_10A) (by kernel_rfl) ?_
        refine O.pure 5 [(1, 1)] [1, 2, 3, 7, 44, 45, 46, 47, 48, 49, 50, 51] [p6_10.1, p6_10.2.1 + s19.toNat * 3 + 1] (fr' := [(1, .slice h1.1 a1.length h1.2), (2, .int .i64 a2), (3, .pointer (some ⟨p0_0, 0, none⟩)), (7, .int .i64 s19), (44, .slice h1.1 a1.length h1.2), (45, .int .i64 s19), (46, .pointer (some ⟨p6_10.1, p6_10.2.1 + s19.toNat * 3, none⟩)), (47, .pointer (some ⟨p6_10.1, p6_10.2.1 + s19.toNat * 3 + 1, none⟩)), (48, .string x6_10.f1), (49, .int .i64 (x6_10.f1.size : Int)), (50, .bool (decide ((x6_10.f1.size : Int) > 100))), (51, .bool (decide ((x6_10.f1.size : Int) > 100)))]) (bx' := [⟨p0_0, [.slice h0.1 a0.f0.length h0.2], 24⟩]) (by kernel_rfl) ?_
        refine O.nil (by kernel_rfl) ?_
        rcases condE H with ⟨hc28, H⟩ | ⟨hc28, H⟩
        ·refine J.condT (x := .tmp 51) (t := (decide ((x6_10.f1.size : Int) > 100))) (by kernel_rfl) (by kernel_rfl) hc28 ?_
         refine J.seq (by kernel_rfl) ?_
         obtain ⟨x7_0, hx7_0, H⟩ := bindE H
         refine J.region (by kernel_rfl) ?_
         refine O.e (some 52) (Ev.call0 (xs := []) [] (by kernel_rfl) (by kernel_rfl) (fun w hS => haywainlaw14_knows.con K  _ _ w hS hx7_0 ((hj4.2 _ (Option.some.inj H).symm).trans hr))) (by kernel_rfl) (fun _ => ?_)
         refine O.pure 1 [] [6] [] (fr' := [(6, .bool x7_0)]) (bx' := [⟨p0_0, [.slice h0.1 a0.f0.length h0.2], 24⟩]) (by kernel_rfl) ?_
         refine O.nil (by kernel_rfl) ?_
         obtain rfl := Option.some.inj H
         obtain rfl := hj4.2 _ rfl
         exact J.doneS [] [] [] [] [] () (vs := [.bool x7_0]) (by kernel_rfl) (by kernel_rfl) (by kernel_rfl) (by kernel_rfl) (by kernel_rfl) (by decide)
        ·refine J.condF (x := .tmp 51) (t := (decide ((x6_10.f1.size : Int) > 100))) (by kernel_rfl) (by kernel_rfl) hc28 ?_
         refine J.skip (by kernel_rfl) ?_
         refine J.out ?_
         refine J.region (by kernel_rfl) ?_
         refine O.pure 3 [] [1, 2, 3, 7, 44, 45, 46, 47, 48, 49, 50] [] (fr' := [(1, .slice h1.1 a1.length h1.2), (2, .int .i64 a2), (3, .pointer (some ⟨p0_0, 0, none⟩)), (7, .int .i64 (IntKind.wrap .i64 (s19 + 1))), (44, .slice h1.1 a1.length h1.2), (45, .int .i64 s19), (46, .pointer (some ⟨p6_10.1, p6_10.2.1 + s19.toNat * 3, none⟩)), (47, .pointer (some ⟨p6_10.1, p6_10.2.1 + s19.toNat * 3 + 1, none⟩)), (48, .string x6_10.f1), (49, .int .i64 (x6_10.f1.size : Int)), (50, .bool (decide ((x6_10.f1.size : Int) > 100)))]) (bx' := [⟨p0_0, [.slice h0.1 a0.f0.length h0.2], 24⟩]) (by kernel_rfl) ?_
         refine O.nil (by kernel_rfl) ?_
         exact J.conv2 [1, 2, 3, 7] [2, 3] [0] [] (by kernel_rfl) (by kernel_rfl) (by kernel_rfl) (by kernel_rfl) (by decide) (ih19 (IntKind.wrap .i64 (s19 + 1)) () H)
      ·refine J.condF (x := .tmp 33) (t := (decide (s19 < (a1.length : Int)))) (by kernel_rfl) (by kernel_rfl) hc26 ?_
       refine J.exit (id := 0) (by kernel_rfl) rfl ?_
       obtain rfl := Option.some.inj H
       exact J.conv2 [1, 2, 3] [0, 1] [0] [] (by kernel_rfl) (by kernel_rfl) (by kernel_rfl) (by kernel_rfl) (by decide) (hj4.1 _ rfl ())
     ·exact J.conv2 [1, 2, 3, 7] [0, 1] [0] [] (by kernel_rfl) (by kernel_rfl) (by kernel_rfl) (by kernel_rfl) (by decide) h_
def haywainlaw14_CkptDoes.Pure : Prop := ∀ (a0 : S24) (a1 : List S48) (a2 : Int), (wf24 a0) → (a1.length * 48 ≤ 140737488351232 ∧ ∀ x_ ∈ a1, wf48 x_) → ((Lit.int .i64 a2).wf = true) → ∃ K, haywainlaw14_CkptDoes.f K a0 a1 a2 = some true
end Go.Proofs.Ytkcpbehgjbionaa.G
