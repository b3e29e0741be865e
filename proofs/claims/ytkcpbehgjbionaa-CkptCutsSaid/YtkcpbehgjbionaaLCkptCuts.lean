/- The law CkptCuts as plain Lean, with its contract; printed by a program of this session. -/
import Derived.Test.YtkcpbehgjbionaaG2
set_option linter.unusedVariables false
set_option linter.unusedSimpArgs false
namespace Go.Proofs.Ytkcpbehgjbionaa.G
open Go Go.RowKit Go.Hw
/-! ### haywain/haywainlaw14.CkptCuts: function 6 -/
def haywainlaw14_CkptCuts.f (K : Nat) (a0 : List (List Int)) (a1 : List Int) (a2 : Int) (a3 : List Int) : Option Bool := cond (decide ((a1.length : Int) > 500)) ((haywainlaw14_knows.f K).bind fun x2_0 => some (x2_0)) (cond (decide ((a3.length : Int) > 100)) ((haywainlaw14_knows.f K).bind fun x2_0 => some (x2_0)) ((haywainlaw14_kept.f K a0).bind fun x3_1 => cond (!x3_1.2.2) (some (false)) ((ckpt_Last.f K x3_1.1).bind fun x6_1 => (appO 1 ([] : List Int) a1).bind fun y7_5 => (ckpt_Save.f K x3_1.1 (IntKind.wrap .i64 (x3_1.2.1 + 1)) (([] : List Int) ++ a1)).bind fun x7_6 => cond (x7_6.2 != 0) (some (false)) ((ckpt_Do.f K x3_1.1 x7_6.1 a2).bind fun x10_3 => (disk_Crash.f K x10_3.1 a3).bind fun x11_2 => (ckpt_Open.f K x11_2).bind fun x11_3 => (ckpt_Last.f K x11_3.1).bind fun x12_1 => cond (x11_3.2 != 0) (some (false)) (cond (decide (x10_3.2 < 0)) (some (false)) (cond (decide (x10_3.2 > (x7_6.1.length : Int))) (some (false)) (cond (x12_1.1 == x6_1.1) (cond ((strOfNums x12_1.2.1).toList == (strOfNums x6_1.2.1).toList) (cond (x12_1.1 == (IntKind.wrap .i64 (x3_1.2.1 + 1))) (cond ((strOfNums x12_1.2.1).toList == (strOfNums a1).toList) (cond (decide (x10_3.2 < 3)) (cond (x12_1.2.2 == x6_1.2.2) ((haywainlaw14_knows.f K).bind fun x18_2 => some (x18_2)) (some (false))) (cond (decide (x10_3.2 > 3)) (cond (x12_1.2.2 == 0) ((haywainlaw14_knows.f K).bind fun x20_2 => some (x20_2)) (some (false))) (cond (x12_1.2.2 == x6_1.2.2) ((haywainlaw14_knows.f K).bind fun x21_5 => some (x21_5)) (cond (x12_1.2.2 == 0) ((haywainlaw14_knows.f K).bind fun x21_5 => some (x21_5)) (some (false)))))) (cond (decide (x10_3.2 < 3)) (cond (x12_1.2.2 == x6_1.2.2) ((haywainlaw14_knows.f K).bind fun x18_2 => some (x18_2)) (some (false))) (cond (decide (x10_3.2 > 3)) (some (false)) (cond (x12_1.2.2 == x6_1.2.2) ((haywainlaw14_knows.f K).bind fun x21_5 => some (x21_5)) (some (false)))))) (cond (decide (x10_3.2 < 3)) (cond (x12_1.2.2 == x6_1.2.2) ((haywainlaw14_knows.f K).bind fun x18_2 => some (x18_2)) (some (false))) (cond (decide (x10_3.2 > 3)) (some (false)) (cond (x12_1.2.2 == x6_1.2.2) ((haywainlaw14_knows.f K).bind fun x21_5 => some (x21_5)) (some (false)))))) (cond (x12_1.1 == (IntKind.wrap .i64 (x3_1.2.1 + 1))) (cond ((strOfNums x12_1.2.1).toList == (strOfNums a1).toList) (cond (decide (x10_3.2 < 3)) (some (false)) (cond (decide (x10_3.2 > 3)) (cond (x12_1.2.2 == 0) ((haywainlaw14_knows.f K).bind fun x20_2 => some (x20_2)) (some (false))) (cond (x12_1.2.2 == 0) ((haywainlaw14_knows.f K).bind fun x21_5 => some (x21_5)) (some (false))))) (cond (decide (x10_3.2 < 3)) (some (false)) (cond (decide (x10_3.2 > 3)) (some (false)) (some (false))))) (cond (decide (x10_3.2 < 3)) (some (false)) (cond (decide (x10_3.2 > 3)) (some (false)) (some (false)))))) (cond (x12_1.1 == (IntKind.wrap .i64 (x3_1.2.1 + 1))) (cond ((strOfNums x12_1.2.1).toList == (strOfNums a1).toList) (cond (decide (x10_3.2 < 3)) (some (false)) (cond (decide (x10_3.2 > 3)) (cond (x12_1.2.2 == 0) ((haywainlaw14_knows.f K).bind fun x20_2 => some (x20_2)) (some (false))) (cond (x12_1.2.2 == 0) ((haywainlaw14_knows.f K).bind fun x21_5 => some (x21_5)) (some (false))))) (cond (decide (x10_3.2 < 3)) (some (false)) (cond (decide (x10_3.2 > 3)) (some (false)) (some (false))))) (cond (decide (x10_3.2 < 3)) (some (false)) (cond (decide (x10_3.2 > 3)) (some (false)) (some (false))))))))))))
set_option maxRecDepth 100000 in
set_option maxHeartbeats 1000000 in
theorem haywainlaw14_CkptCuts.con (K : Nat) (a0 : List (List Int)) (a1 : List Int) (a2 : Int) (a3 : List Int) (h0 : Hd) (h1 : Hd) (h2 : Hd) (r : Bool) (X : Nat → Nat → Prop) (w : World) (hS : St X w [] [] [] [] [Rd (Kd.slice (Kd.int .u8)) h0.1 h0.2 a0, Rd (Kd.int .u8) h1.1 h1.2 a1, Rd (Kd.int .i64) h2.1 h2.2 a3] w) (H : haywainlaw14_CkptCuts.f K a0 a1 a2 a3 = some r) (hr : r = true) :
    Cn Try.prog 6 [.slice h0.1 a0.length h0.2, .slice h1.1 a1.length h1.2, .int .i64 a2, .slice h2.1 a3.length h2.2] X w [] (fun i : Unit => .bool r) (fun i => []) (fun i => []) (fun i => []) := by
 refine Cn.of Try.func6 (by kernel_rfl) hS ?_
 unfold haywainlaw14_CkptCuts.f at H
 refine J.seq (by kernel_rfl) ?_
 refine J.region (by kernel_rfl) ?_
 refine O.pure 1 [] [0, 1, 2, 3] [] (fr' := [(0, .slice h0.1 a0.length h0.2), (1, .slice h1.1 a1.length h1.2), (2, .int .i64 a2), (3, .slice h2.1 a3.length h2.2)]) (bx' := []) (by kernel_rfl) ?_
 refine O.nil (by kernel_rfl) ?_
 refine J.seq (by kernel_rfl) ?_
 refine J.seq (by kernel_rfl) ?_
 rcases condE H with ⟨hc1, H⟩ | ⟨hc1, H⟩
 ·refine J.region (by kernel_rfl) ?_
  refine O.pure 2 [] [0, 1, 2, 3, 27] [] (fr' := [(0, .slice h0.1 a0.length h0.2), (1, .slice h1.1 a1.length h1.2), (2, .int .i64 a2), (3, .slice h2.1 a3.length h2.2), (27, .int .i64 (a1.length : Int))]) (bx' := []) (by kernel_rfl) ?_
  refine O.q (v := .bool true) (some 28) (Qu.eqv (u := .bool (decide ((a1.length : Int) > 500))) (v := .bool true) (0, 0) [] (by kernel_rfl) (congrArg Value.bool hc1)) (by kernel_rfl) ?_
  refine O.pure 5 [] [0, 1, 2, 3, 33] [] (fr' := [(0, .slice h0.1 a0.length h0.2), (1, .slice h1.1 a1.length h1.2), (2, .int .i64 a2), (3, .slice h2.1 a3.length h2.2), (33, .bool true)]) (bx' := []) (by kernel_rfl) ?_
  refine O.nil (by kernel_rfl) ?_
  refine J.cond (o := .tmp 33) true (by kernel_rfl) (by kernel_rfl) ?_
  refine J.seq (by kernel_rfl) ?_
  obtain ⟨x2_0, hx2_0, H⟩ := bindE H
  refine J.region (by kernel_rfl) ?_
  refine O.e (some 34) (Ev.call0 (xs := []) [] (by kernel_rfl) (by kernel_rfl) (fun w hS => haywainlaw14_knows.con K  _ _ w hS hx2_0 ((Option.some.inj H).trans hr))) (by kernel_rfl) (fun _ => ?_)
  refine O.pure 1 [] [8] [] (fr' := [(8, .bool x2_0)]) (bx' := []) (by kernel_rfl) ?_
  refine O.nil (by kernel_rfl) ?_
  obtain rfl := Option.some.inj H
  exact J.doneS [] [] [] [] [] () (vs := [.bool x2_0]) (by kernel_rfl) (by kernel_rfl) (by kernel_rfl) (by kernel_rfl) (by kernel_rfl) (by decide)
 ·refine J.region (by kernel_rfl) ?_
  refine O.pure 2 [] [0, 1, 2, 3, 27] [] (fr' := [(0, .slice h0.1 a0.length h0.2), (1, .slice h1.1 a1.length h1.2), (2, .int .i64 a2), (3, .slice h2.1 a3.length h2.2), (27, .int .i64 (a1.length : Int))]) (bx' := []) (by kernel_rfl) ?_
  refine O.q (v := .bool false) (some 28) (Qu.eqv (u := .bool (decide ((a1.length : Int) > 500))) (v := .bool false) (0, 0) [] (by kernel_rfl) (congrArg Value.bool hc1)) (by kernel_rfl) ?_
  refine O.pure 5 [] [0, 1, 2, 3, 33] [] (fr' := [(0, .slice h0.1 a0.length h0.2), (1, .slice h1.1 a1.length h1.2), (2, .int .i64 a2), (3, .slice h2.1 a3.length h2.2), (33, .bool (decide ((a3.length : Int) > 100)))]) (bx' := []) (by kernel_rfl) ?_
  refine O.nil (by kernel_rfl) ?_
  rcases condE H with ⟨hc2, H⟩ | ⟨hc2, H⟩
  ·refine J.condT (x := .tmp 33) (t := (decide ((a3.length : Int) > 100))) (by kernel_rfl) (by kernel_rfl) hc2 ?_
   refine J.seq (by kernel_rfl) ?_
   obtain ⟨x2_0, hx2_0, H⟩ := bindE H
   refine J.region (by kernel_rfl) ?_
   refine O.e (some 34) (Ev.call0 (xs := []) [] (by kernel_rfl) (by kernel_rfl) (fun w hS => haywainlaw14_knows.con K  _ _ w hS hx2_0 ((Option.some.inj H).trans hr))) (by kernel_rfl) (fun _ => ?_)
   refine O.pure 1 [] [8] [] (fr' := [(8, .bool x2_0)]) (bx' := []) (by kernel_rfl) ?_
   refine O.nil (by kernel_rfl) ?_
   obtain rfl := Option.some.inj H
   exact J.doneS [] [] [] [] [] () (vs := [.bool x2_0]) (by kernel_rfl) (by kernel_rfl) (by kernel_rfl) (by kernel_rfl) (by kernel_rfl) (by decide)
  ·refine J.condF (x := .tmp 33) (t := (decide ((a3.length : Int) > 100))) (by kernel_rfl) (by kernel_rfl) hc2 ?_
   refine J.skip (by kernel_rfl) ?_
   refine J.seq (by kernel_rfl) ?_
   obtain ⟨x3_1, hx3_1, H⟩ := bindE H
   refine J.region (by kernel_rfl) ?_
   refine O.pure 1 [] [1, 2, 3, 36] [] (fr' := [(1, .slice h1.1 a1.length h1.2), (2, .int .i64 a2), (3, .slice h2.1 a3.length h2.2), (36, .slice h0.1 a0.length h0.2)]) (bx' := []) (by kernel_rfl) ?_
   refine O.e (some 37) (Ev.call0 (xs := [.tmp 36]) [0] (by kernel_rfl) (by kernel_rfl) (fun w hS => haywainlaw14_kept.con K a0 h0  _ _ w hS hx3_1)) (by kernel_rfl) (fun p3_1 => ?_)
   refine O.pure 4 [] [1, 2, 3, 38, 39, 40] [] (fr' := [(1, .slice h1.1 a1.length h1.2), (2, .int .i64 a2), (3, .slice h2.1 a3.length h2.2), (38, .agg #[.slice p3_1.1 x3_1.1.f0.length p3_1.2]), (39, .int .i64 x3_1.2.1), (40, .bool x3_1.2.2)]) (bx' := []) (by kernel_rfl) ?_
   refine O.e (some 9) (Ev.alloc (t := 24) (z := .agg #[.slice none 0 0]) (by kernel_rfl) (by kernel_rfl)) (by kernel_rfl) (fun p3_6 => ?_)
   refine O.pure 3 [(0, 0)] [1, 2, 3, 9, 10, 11] [p3_6, 0] (fr' := [(1, .slice h1.1 a1.length h1.2), (2, .int .i64 a2), (3, .slice h2.1 a3.length h2.2), (9, .pointer (some ⟨p3_6, 0, none⟩)), (10, .int .i64 x3_1.2.1), (11, .bool x3_1.2.2)]) (bx' := [⟨p3_6, [.slice p3_1.1 x3_1.1.f0.length p3_1.2], 24⟩]) (by kernel_rfl) ?_
   refine O.nil (by kernel_rfl) ?_
   refine J.seq (by kernel_rfl) ?_
   refine J.seq (by kernel_rfl) ?_
   refine J.region (by kernel_rfl) ?_
   refine O.pure 2 [] [1, 2, 3, 9, 10, 42] [] (fr' := [(1, .slice h1.1 a1.length h1.2), (2, .int .i64 a2), (3, .slice h2.1 a3.length h2.2), (9, .pointer (some ⟨p3_6, 0, none⟩)), (10, .int .i64 x3_1.2.1), (42, .bool (!x3_1.2.2))]) (bx' := [⟨p3_6, [.slice p3_1.1 x3_1.1.f0.length p3_1.2], 24⟩]) (by kernel_rfl) ?_
   refine O.nil (by kernel_rfl) ?_
   rcases condE H with ⟨hc3, H⟩ | ⟨hc3, H⟩
   ·obtain rfl := Option.some.inj H
    cases hr
   ·refine J.condF (x := .tmp 42) (t := (!x3_1.2.2)) (by kernel_rfl) (by kernel_rfl) hc3 ?_
    refine J.skip (by kernel_rfl) ?_
    refine J.seq (by kernel_rfl) ?_
    obtain ⟨x6_1, hx6_1, H⟩ := bindE H
    refine J.region (by kernel_rfl) ?_
    refine O.pure 1 [(0, 0)] [1, 2, 3, 9, 10, 44] [p3_6, 0] (fr' := [(1, .slice h1.1 a1.length h1.2), (2, .int .i64 a2), (3, .slice h2.1 a3.length h2.2), (9, .pointer (some ⟨p3_6, 0, none⟩)), (10, .int .i64 x3_1.2.1), (44, .agg #[.slice p3_1.1 x3_1.1.f0.length p3_1.2])]) (bx' := [⟨p3_6, [.slice p3_1.1 x3_1.1.f0.length p3_1.2], 24⟩]) (by kernel_rfl) ?_
    refine O.e (some 45) (Ev.call0 (xs := [.tmp 44]) [0] (by kernel_rfl) (by kernel_rfl) (fun w hS => ckpt_Last.con K x3_1.1 p3_1  _ _ w hS hx6_1)) (by kernel_rfl) (fun p6_1 => ?_)
    refine O.pure 7 [] [1, 2, 3, 9, 10, 12, 13, 14] [] (fr' := [(1, .slice h1.1 a1.length h1.2), (2, .int .i64 a2), (3, .slice h2.1 a3.length h2.2), (9, .pointer (some ⟨p3_6, 0, none⟩)), (10, .int .i64 x3_1.2.1), (12, .int .i64 x6_1.1), (13, .slice p6_1.1 x6_1.2.1.length p6_1.2), (14, .int .i64 x6_1.2.2)]) (bx' := [⟨p3_6, [.slice p3_1.1 x3_1.1.f0.length p3_1.2], 24⟩]) (by kernel_rfl) ?_
    refine O.nil (by kernel_rfl) ?_
    refine J.seq (by kernel_rfl) ?_
    obtain ⟨y7_5, hy7_5, H⟩ := bindE H
    have hy7_5a := (appE hy7_5).1
    obtain ⟨x7_6, hx7_6, H⟩ := bindE H
    refine J.drawS (by kernel_rfl) [(0, some 50, .agg #[.slice p3_1.1 x3_1.1.f0.length p3_1.2]), (1, some 51, .int .i64 x3_1.2.1), (2, some 52, .int .i64 (IntKind.wrap .i64 (x3_1.2.1 + 1))), (4, some 54, .slice h1.1 a1.length h1.2)] ([0, 1, 2, 4] ++ []) (by kernel_rfl) ?_
    refine D.mid (cs := [3]) [0, 1, 2, 4] [] [(0, 0)] [p3_6, 0] (by kernel_rfl) (by kernel_rfl) trivial (by kernel_rfl) ⟨?_, trivial⟩
    refine EvStep.mk (some 53) (new := fun p7_3 => []) ([0, 1, 2, 4] ++ []) (by kernel_rfl) (Ev.lit (t := 27) (len := 0) (parts := #[]) (ps := []) (cs := []) (e := 5) (Kd.int .u8) ([] : List Int) (by kernel_rfl) (by kernel_rfl) (by kernel_rfl) (by kernel_rfl) (by kernel_rfl) (by decide) (fun w' hφ => (Els.nil _ _ _))) (fun p7_3 => by kernel_rfl) (fun p7_3 => ?_)
    refine D.mid (cs := [5]) [0, 1, 2, 4] [] [(0, 0)] [p3_6, 0] (by kernel_rfl) (by kernel_rfl) trivial (by kernel_rfl) ⟨?_, trivial⟩
    refine EvStep.mk (some 55) (new := fun p7_5 => []) ([0, 1, 2] ++ []) (by kernel_rfl) (Ev.appSl (d := (Kd.int .u8)) (ys := a1) (A := h1.1) (c := h1.2) (x := .tmp 53) (y := .tmp 54) (t := 27) (bytes := 1) 3 (by kernel_rfl) (by kernel_rfl) (by kernel_rfl) rfl (by kernel_rfl) (by decide) hy7_5a) (fun p7_5 => by kernel_rfl) (fun p7_5 => ?_)
    refine D.mid (cs := [6]) [0, 1, 2] [] [(0, 0)] [p3_6, 0] (by kernel_rfl) (by kernel_rfl) trivial (by kernel_rfl) ⟨?_, trivial⟩
    refine EvStep.mk (some 56) (new := fun p7_6 => [(7, some 49, .tuple #[.slice p7_6.1 x7_6.1.length p7_6.2, .int .i64 x7_6.2]), (8, some 57, .slice p7_6.1 x7_6.1.length p7_6.2), (9, some 58, .int .i64 x7_6.2), (10, some 15, .slice p7_6.1 x7_6.1.length p7_6.2), (11, some 16, .int .i64 x7_6.2)]) ([1, 7, 8, 9, 10, 11] ++ []) (by kernel_rfl) (Ev.mono (fun w hS => hS.freezeH (h := p7_5) (xs := (([] : List Int) ++ a1))) (Ev.call0 (xs := [.tmp 50, .tmp 52, .tmp 55]) [2, 0] (by kernel_rfl) (by kernel_rfl) (fun w hS => ckpt_Save.con K x3_1.1 (IntKind.wrap .i64 (x3_1.2.1 + 1)) (([] : List Int) ++ a1) p3_1 p7_5  _ _ w hS hx7_6))) (fun p7_6 => by kernel_rfl) (fun p7_6 => ?_)
    refine D.fin (fr' := [(1, .slice h1.1 a1.length h1.2), (2, .int .i64 a2), (3, .slice h2.1 a3.length h2.2), (9, .pointer (some ⟨p3_6, 0, none⟩)), (10, .int .i64 x3_1.2.1), (12, .int .i64 x6_1.1), (13, .slice p6_1.1 x6_1.2.1.length p6_1.2), (14, .int .i64 x6_1.2.2), (15, .slice p7_6.1 x7_6.1.length p7_6.2), (16, .int .i64 x7_6.2)]) [1, 7, 8, 9, 10, 11] [] [] [] [1, 2, 3, 9, 10, 12, 13, 14, 15, 16] (by kernel_rfl) (by kernel_rfl) trivial (by kernel_rfl) ?_
    refine J.seq (by kernel_rfl) ?_
    refine J.seq (by kernel_rfl) ?_
    refine J.region (by kernel_rfl) ?_
    refine O.pure 2 [] [1, 2, 3, 9, 10, 12, 13, 14, 15, 60] [] (fr' := [(1, .slice h1.1 a1.length h1.2), (2, .int .i64 a2), (3, .slice h2.1 a3.length h2.2), (9, .pointer (some ⟨p3_6, 0, none⟩)), (10, .int .i64 x3_1.2.1), (12, .int .i64 x6_1.1), (13, .slice p6_1.1 x6_1.2.1.length p6_1.2), (14, .int .i64 x6_1.2.2), (15, .slice p7_6.1 x7_6.1.length p7_6.2), (60, .bool (x7_6.2 != 0))]) (bx' := [⟨p3_6, [.slice p3_1.1 x3_1.1.f0.length p3_1.2], 24⟩]) (by kernel_rfl) ?_
    refine O.nil (by kernel_rfl) ?_
    rcases condE H with ⟨hc4, H⟩ | ⟨hc4, H⟩
    ·obtain rfl := Option.some.inj H
     cases hr
    ·refine J.condF (x := .tmp 60) (t := (x7_6.2 != 0)) (by kernel_rfl) (by kernel_rfl) hc4 ?_
     refine J.skip (by kernel_rfl) ?_
     refine J.seq (by kernel_rfl) ?_
     obtain ⟨x10_3, hx10_3, H⟩ := bindE H
     refine J.region (by kernel_rfl) ?_
     refine O.pure 3 [(0, 0)] [1, 3, 10, 12, 13, 14, 15, 62, 63, 64] [p3_6, 0] (fr' := [(1, .slice h1.1 a1.length h1.2), (3, .slice h2.1 a3.length h2.2), (10, .int .i64 x3_1.2.1), (12, .int .i64 x6_1.1), (13, .slice p6_1.1 x6_1.2.1.length p6_1.2), (14, .int .i64 x6_1.2.2), (15, .slice p7_6.1 x7_6.1.length p7_6.2), (62, .agg #[.slice p3_1.1 x3_1.1.f0.length p3_1.2]), (63, .slice p7_6.1 x7_6.1.length p7_6.2), (64, .int .i64 a2)]) (bx' := [⟨p3_6, [.slice p3_1.1 x3_1.1.f0.length p3_1.2], 24⟩]) (by kernel_rfl) ?_
     refine O.e (some 65) (Ev.mono (fun w hS => hS.freezeH (h := p7_6) (xs := x7_6.1)) (Ev.call0 (xs := [.tmp 62, .tmp 63, .tmp 64]) [3, 0] (by kernel_rfl) (by kernel_rfl) (fun w hS => ckpt_Do.con K x3_1.1 x7_6.1 a2 p3_1 p7_6  _ _ w hS hx10_3))) (by kernel_rfl) (fun p10_3 => ?_)
     refine O.pure 3 [] [1, 3, 10, 12, 13, 14, 15, 66, 67] [] (fr' := [(1, .slice h1.1 a1.length h1.2), (3, .slice h2.1 a3.length h2.2), (10, .int .i64 x3_1.2.1), (12, .int .i64 x6_1.1), (13, .slice p6_1.1 x6_1.2.1.length p6_1.2), (14, .int .i64 x6_1.2.2), (15, .slice p7_6.1 x7_6.1.length p7_6.2), (66, .agg #[.slice p10_3.1 x10_3.1.f0.length p10_3.2]), (67, .int .i64 x10_3.2)]) (bx' := [⟨p3_6, [.slice p3_1.1 x3_1.1.f0.length p3_1.2], 24⟩]) (by kernel_rfl) ?_
     refine O.e (some 17) (Ev.alloc (t := 24) (z := .agg #[.slice none 0 0]) (by kernel_rfl) (by kernel_rfl)) (by kernel_rfl) (fun p10_7 => ?_)
     refine O.pure 2 [(0, 0)] [1, 3, 10, 12, 13, 14, 15, 17, 18] [p10_7, 0] (fr' := [(1, .slice h1.1 a1.length h1.2), (3, .slice h2.1 a3.length h2.2), (10, .int .i64 x3_1.2.1), (12, .int .i64 x6_1.1), (13, .slice p6_1.1 x6_1.2.1.length p6_1.2), (14, .int .i64 x6_1.2.2), (15, .slice p7_6.1 x7_6.1.length p7_6.2), (17, .pointer (some ⟨p10_7, 0, none⟩)), (18, .int .i64 x10_3.2)]) (bx' := [⟨p10_7, [.slice p10_3.1 x10_3.1.f0.length p10_3.2], 24⟩, ⟨p3_6, [.slice p3_1.1 x3_1.1.f0.length p3_1.2], 24⟩]) (by kernel_rfl) ?_
     refine O.nil (by kernel_rfl) ?_
     refine J.seq (by kernel_rfl) ?_
     obtain ⟨x11_2, hx11_2, H⟩ := bindE H
     obtain ⟨x11_3, hx11_3, H⟩ := bindE H
     refine J.region (by kernel_rfl) ?_
     refine O.pure 2 [(0, 0)] [1, 10, 12, 13, 14, 15, 18, 69, 70] [p10_7, 0] (fr' := [(1, .slice h1.1 a1.length h1.2), (10, .int .i64 x3_1.2.1), (12, .int .i64 x6_1.1), (13, .slice p6_1.1 x6_1.2.1.length p6_1.2), (14, .int .i64 x6_1.2.2), (15, .slice p7_6.1 x7_6.1.length p7_6.2), (18, .int .i64 x10_3.2), (69, .agg #[.slice p10_3.1 x10_3.1.f0.length p10_3.2]), (70, .slice h2.1 a3.length h2.2)]) (bx' := [⟨p10_7, [.slice p10_3.1 x10_3.1.f0.length p10_3.2], 24⟩, ⟨p3_6, [.slice p3_1.1 x3_1.1.f0.length p3_1.2], 24⟩]) (by kernel_rfl) ?_
     refine O.e (some 71) (Ev.call0 (xs := [.tmp 69, .tmp 70]) [0, 7] (by kernel_rfl) (by kernel_rfl) (fun w hS => disk_Crash.con K x10_3.1 a3 p10_3 h2  _ _ w hS hx11_2)) (by kernel_rfl) (fun p11_2 => ?_)
     refine O.e (some 72) (Ev.mono (fun w hS => hS.freezeH (h := p11_2) (xs := x11_2.f0)) (Ev.call0 (xs := [.tmp 71]) [0] (by kernel_rfl) (by kernel_rfl) (fun w hS => ckpt_Open.con K x11_2 p11_2  _ _ w hS hx11_3))) (by kernel_rfl) (fun p11_3 => ?_)
     refine O.pure 3 [] [1, 10, 12, 13, 14, 15, 18, 73, 74] [] (fr' := [(1, .slice h1.1 a1.length h1.2), (10, .int .i64 x3_1.2.1), (12, .int .i64 x6_1.1), (13, .slice p6_1.1 x6_1.2.1.length p6_1.2), (14, .int .i64 x6_1.2.2), (15, .slice p7_6.1 x7_6.1.length p7_6.2), (18, .int .i64 x10_3.2), (73, .agg #[.slice p11_3.1 x11_3.1.f0.length p11_3.2]), (74, .int .i64 x11_3.2)]) (bx' := [⟨p10_7, [.slice p10_3.1 x10_3.1.f0.length p10_3.2], 24⟩, ⟨p3_6, [.slice p3_1.1 x3_1.1.f0.length p3_1.2], 24⟩]) (by kernel_rfl) ?_
     refine O.e (some 19) (Ev.alloc (t := 24) (z := .agg #[.slice none 0 0]) (by kernel_rfl) (by kernel_rfl)) (by kernel_rfl) (fun p11_7 => ?_)
     refine O.pure 2 [(0, 0)] [1, 10, 12, 13, 14, 15, 18, 19, 20] [p11_7, 0] (fr' := [(1, .slice h1.1 a1.length h1.2), (10, .int .i64 x3_1.2.1), (12, .int .i64 x6_1.1), (13, .slice p6_1.1 x6_1.2.1.length p6_1.2), (14, .int .i64 x6_1.2.2), (15, .slice p7_6.1 x7_6.1.length p7_6.2), (18, .int .i64 x10_3.2), (19, .pointer (some ⟨p11_7, 0, none⟩)), (20, .int .i64 x11_3.2)]) (bx' := [⟨p11_7, [.slice p11_3.1 x11_3.1.f0.length p11_3.2], 24⟩, ⟨p10_7, [.slice p10_3.1 x10_3.1.f0.length p10_3.2], 24⟩, ⟨p3_6, [.slice p3_1.1 x3_1.1.f0.length p3_1.2], 24⟩]) (by kernel_rfl) ?_
     refine O.nil (by kernel_rfl) ?_
     refine J.seq (by kernel_rfl) ?_
     obtain ⟨x12_1, hx12_1, H⟩ := bindE H
     refine J.region (by kernel_rfl) ?_
     refine O.pure 1 [(0, 0)] [1, 10, 12, 13, 14, 15, 18, 20, 76] [p11_7, 0] (fr' := [(1, .slice h1.1 a1.length h1.2), (10, .int .i64 x3_1.2.1), (12, .int .i64 x6_1.1), (13, .slice p6_1.1 x6_1.2.1.length p6_1.2), (14, .int .i64 x6_1.2.2), (15, .slice p7_6.1 x7_6.1.length p7_6.2), (18, .int .i64 x10_3.2), (20, .int .i64 x11_3.2), (76, .agg #[.slice p11_3.1 x11_3.1.f0.length p11_3.2])]) (bx' := [⟨p11_7, [.slice p11_3.1 x11_3.1.f0.length p11_3.2], 24⟩, ⟨p10_7, [.slice p10_3.1 x10_3.1.f0.length p10_3.2], 24⟩, ⟨p3_6, [.slice p3_1.1 x3_1.1.f0.length p3_1.2], 24⟩]) (by kernel_rfl) ?_
     refine O.e (some 77) (Ev.call0 (xs := [.tmp 76]) [0] (by kernel_rfl) (by kernel_rfl) (fun w hS => ckpt_Last.con K x11_3.1 p11_3  _ _ w hS hx12_1)) (by kernel_rfl) (fun p12_1 => ?_)
     refine O.pure 7 [] [1, 10, 12, 13, 14, 15, 18, 20, 21, 22, 23] [] (fr' := [(1, .slice h1.1 a1.length h1.2), (10, .int .i64 x3_1.2.1), (12, .int .i64 x6_1.1), (13, .slice p6_1.1 x6_1.2.1.length p6_1.2), (14, .int .i64 x6_1.2.2), (15, .slice p7_6.1 x7_6.1.length p7_6.2), (18, .int .i64 x10_3.2), (20, .int .i64 x11_3.2), (21, .int .i64 x12_1.1), (22, .slice p12_1.1 x12_1.2.1.length p12_1.2), (23, .int .i64 x12_1.2.2)]) (bx' := [⟨p11_7, [.slice p11_3.1 x11_3.1.f0.length p11_3.2], 24⟩, ⟨p10_7, [.slice p10_3.1 x10_3.1.f0.length p10_3.2], 24⟩, ⟨p3_6, [.slice p3_1.1 x3_1.1.f0.length p3_1.2], 24⟩]) (by kernel_rfl) ?_
     refine O.nil (by kernel_rfl) ?_
     refine J.seq (by kernel_rfl) ?_
     refine J.seq (by kernel_rfl) ?_
     rcases condE H with ⟨hc5, H⟩ | ⟨hc5, H⟩
     ·obtain rfl := Option.some.inj H
      cases hr
     ·rcases condE H with ⟨hc6, H⟩ | ⟨hc6, H⟩
      ·obtain rfl := Option.some.inj H
       cases hr
      ·refine J.region (by kernel_rfl) ?_
       refine O.pure 1 [] [1, 10, 12, 13, 14, 15, 18, 21, 22, 23, 81] [] (fr' := [(1, .slice h1.1 a1.length h1.2), (10, .int .i64 x3_1.2.1), (12, .int .i64 x6_1.1), (13, .slice p6_1.1 x6_1.2.1.length p6_1.2), (14, .int .i64 x6_1.2.2), (15, .slice p7_6.1 x7_6.1.length p7_6.2), (18, .int .i64 x10_3.2), (21, .int .i64 x12_1.1), (22, .slice p12_1.1 x12_1.2.1.length p12_1.2), (23, .int .i64 x12_1.2.2), (81, .int .i64 x11_3.2)]) (bx' := [⟨p11_7, [.slice p11_3.1 x11_3.1.f0.length p11_3.2], 24⟩, ⟨p10_7, [.slice p10_3.1 x10_3.1.f0.length p10_3.2], 24⟩, ⟨p3_6, [.slice p3_1.1 x3_1.1.f0.length p3_1.2], 24⟩]) (by kernel_rfl) ?_
       refine O.q (v := .bool false) (some 82) (Qu.eqv (u := .bool (x11_3.2 != 0)) (v := .bool false) (0, 0) [] (by kernel_rfl) (congrArg Value.bool hc5)) (by kernel_rfl) ?_
       refine O.pure 2 [] [1, 10, 12, 13, 14, 15, 18, 21, 22, 23, 83, 84] [] (fr' := [(1, .slice h1.1 a1.length h1.2), (10, .int .i64 x3_1.2.1), (12, .int .i64 x6_1.1), (13, .slice p6_1.1 x6_1.2.1.length p6_1.2), (14, .int .i64 x6_1.2.2), (15, .slice p7_6.1 x7_6.1.length p7_6.2), (18, .int .i64 x10_3.2), (21, .int .i64 x12_1.1), (22, .slice p12_1.1 x12_1.2.1.length p12_1.2), (23, .int .i64 x12_1.2.2), (83, .bool false), (84, .int .i64 x10_3.2)]) (bx' := [⟨p11_7, [.slice p11_3.1 x11_3.1.f0.length p11_3.2], 24⟩, ⟨p10_7, [.slice p10_3.1 x10_3.1.f0.length p10_3.2], 24⟩, ⟨p3_6, [.slice p3_1.1 x3_1.1.f0.length p3_1.2], 24⟩]) (by kernel_rfl) ?_
       refine O.q (v := .bool false) (some 85) (Qu.eqv (u := .bool (decide (x10_3.2 < 0))) (v := .bool false) (0, 0) [] (by kernel_rfl) (congrArg Value.bool hc6)) (by kernel_rfl) ?_
       refine O.pure 7 [] [1, 10, 12, 13, 14, 18, 21, 22, 23, 92] [] (fr' := [(1, .slice h1.1 a1.length h1.2), (10, .int .i64 x3_1.2.1), (12, .int .i64 x6_1.1), (13, .slice p6_1.1 x6_1.2.1.length p6_1.2), (14, .int .i64 x6_1.2.2), (18, .int .i64 x10_3.2), (21, .int .i64 x12_1.1), (22, .slice p12_1.1 x12_1.2.1.length p12_1.2), (23, .int .i64 x12_1.2.2), (92, .bool (decide (x10_3.2 > (x7_6.1.length : Int))))]) (bx' := [⟨p11_7, [.slice p11_3.1 x11_3.1.f0.length p11_3.2], 24⟩, ⟨p10_7, [.slice p10_3.1 x10_3.1.f0.length p10_3.2], 24⟩, ⟨p3_6, [.slice p3_1.1 x3_1.1.f0.length p3_1.2], 24⟩]) (by kernel_rfl) ?_
       refine O.nil (by kernel_rfl) ?_
       rcases condE H with ⟨hc7, H⟩ | ⟨hc7, H⟩
       ·obtain rfl := Option.some.inj H
        cases hr
       ·refine J.condF (x := .tmp 92) (t := (decide (x10_3.2 > (x7_6.1.length : Int)))) (by kernel_rfl) (by kernel_rfl) hc7 ?_
        refine J.skip (by kernel_rfl) ?_
        refine J.seq (by kernel_rfl) ?_
        rcases condE H with ⟨hc8, H⟩ | ⟨hc8, H⟩
        ·rcases condE H with ⟨hc9, H⟩ | ⟨hc9, H⟩
         ·refine J.region (by kernel_rfl) ?_
          refine O.pure 2 [] [1, 10, 13, 14, 18, 21, 22, 23, 93, 94] [] (fr' := [(1, .slice h1.1 a1.length h1.2), (10, .int .i64 x3_1.2.1), (13, .slice p6_1.1 x6_1.2.1.length p6_1.2), (14, .int .i64 x6_1.2.2), (18, .int .i64 x10_3.2), (21, .int .i64 x12_1.1), (22, .slice p12_1.1 x12_1.2.1.length p12_1.2), (23, .int .i64 x12_1.2.2), (93, .int .i64 x12_1.1), (94, .int .i64 x6_1.1)]) (bx' := [⟨p11_7, [.slice p11_3.1 x11_3.1.f0.length p11_3.2], 24⟩, ⟨p10_7, [.slice p10_3.1 x10_3.1.f0.length p10_3.2], 24⟩, ⟨p3_6, [.slice p3_1.1 x3_1.1.f0.length p3_1.2], 24⟩]) (by kernel_rfl) ?_
          refine O.q (v := .bool true) (some 95) (Qu.eqv (u := .bool (x12_1.1 == x6_1.1)) (v := .bool true) (0, 0) [] (by kernel_rfl) (congrArg Value.bool hc8)) (by kernel_rfl) ?_
          refine O.pure 2 [] [1, 10, 13, 14, 18, 21, 22, 23, 96, 97] [] (fr' := [(1, .slice h1.1 a1.length h1.2), (10, .int .i64 x3_1.2.1), (13, .slice p6_1.1 x6_1.2.1.length p6_1.2), (14, .int .i64 x6_1.2.2), (18, .int .i64 x10_3.2), (21, .int .i64 x12_1.1), (22, .slice p12_1.1 x12_1.2.1.length p12_1.2), (23, .int .i64 x12_1.2.2), (96, .bool true), (97, .slice p12_1.1 x12_1.2.1.length p12_1.2)]) (bx' := [⟨p11_7, [.slice p11_3.1 x11_3.1.f0.length p11_3.2], 24⟩, ⟨p10_7, [.slice p10_3.1 x10_3.1.f0.length p10_3.2], 24⟩, ⟨p3_6, [.slice p3_1.1 x3_1.1.f0.length p3_1.2], 24⟩]) (by kernel_rfl) ?_
          refine O.q (v := .string (strOfNums x12_1.2.1)) (some 98) (Qu.str (t := 27) (u := 9) (x := .tmp 97) (h := p12_1) (xs := x12_1.2.1) 0 (by kernel_rfl) (by kernel_rfl) (by kernel_rfl) (by kernel_rfl) rfl) (by kernel_rfl) ?_
          refine O.pure 1 [] [1, 10, 14, 18, 21, 22, 23, 96, 98, 99] [] (fr' := [(1, .slice h1.1 a1.length h1.2), (10, .int .i64 x3_1.2.1), (14, .int .i64 x6_1.2.2), (18, .int .i64 x10_3.2), (21, .int .i64 x12_1.1), (22, .slice p12_1.1 x12_1.2.1.length p12_1.2), (23, .int .i64 x12_1.2.2), (96, .bool true), (98, .string (strOfNums x12_1.2.1)), (99, .slice p6_1.1 x6_1.2.1.length p6_1.2)]) (bx' := [⟨p11_7, [.slice p11_3.1 x11_3.1.f0.length p11_3.2], 24⟩, ⟨p10_7, [.slice p10_3.1 x10_3.1.f0.length p10_3.2], 24⟩, ⟨p3_6, [.slice p3_1.1 x3_1.1.f0.length p3_1.2], 24⟩]) (by kernel_rfl) ?_
          refine O.q (v := .string (strOfNums x6_1.2.1)) (some 100) (Qu.str (t := 27) (u := 9) (x := .tmp 99) (h := p6_1) (xs := x6_1.2.1) 6 (by kernel_rfl) (by kernel_rfl) (by kernel_rfl) (by kernel_rfl) rfl) (by kernel_rfl) ?_
          refine O.q (v := .bool true) (some 101) (Qu.eqv (u := .bool ((strOfNums x12_1.2.1).toList == (strOfNums x6_1.2.1).toList)) (v := .bool true) (0, 0) [] (by kernel_rfl) (congrArg Value.bool hc9)) (by kernel_rfl) ?_
          refine O.pure 7 [] [1, 10, 18, 21, 22, 23, 24] [] (fr' := [(1, .slice h1.1 a1.length h1.2), (10, .int .i64 x3_1.2.1), (18, .int .i64 x10_3.2), (21, .int .i64 x12_1.1), (22, .slice p12_1.1 x12_1.2.1.length p12_1.2), (23, .int .i64 x12_1.2.2), (24, .bool (x12_1.2.2 == x6_1.2.2))]) (bx' := [⟨p11_7, [.slice p11_3.1 x11_3.1.f0.length p11_3.2], 24⟩, ⟨p10_7, [.slice p10_3.1 x10_3.1.f0.length p10_3.2], 24⟩, ⟨p3_6, [.slice p3_1.1 x3_1.1.f0.length p3_1.2], 24⟩]) (by kernel_rfl) ?_
          refine O.nil (by kernel_rfl) ?_
          refine J.seq (by kernel_rfl) ?_
          rcases condE H with ⟨hc10, H⟩ | ⟨hc10, H⟩
          ·rcases condE H with ⟨hc11, H⟩ | ⟨hc11, H⟩
           ·refine J.region (by kernel_rfl) ?_
            refine O.pure 3 [] [1, 18, 22, 23, 24, 108, 110] [] (fr' := [(1, .slice h1.1 a1.length h1.2), (18, .int .i64 x10_3.2), (22, .slice p12_1.1 x12_1.2.1.length p12_1.2), (23, .int .i64 x12_1.2.2), (24, .bool (x12_1.2.2 == x6_1.2.2)), (108, .int .i64 x12_1.1), (110, .int .i64 (IntKind.wrap .i64 (x3_1.2.1 + 1)))]) (bx' := [⟨p11_7, [.slice p11_3.1 x11_3.1.f0.length p11_3.2], 24⟩, ⟨p10_7, [.slice p10_3.1 x10_3.1.f0.length p10_3.2], 24⟩, ⟨p3_6, [.slice p3_1.1 x3_1.1.f0.length p3_1.2], 24⟩]) (by kernel_rfl) ?_
            refine O.q (v := .bool true) (some 111) (Qu.eqv (u := .bool (x12_1.1 == (IntKind.wrap .i64 (x3_1.2.1 + 1)))) (v := .bool true) (0, 0) [] (by kernel_rfl) (congrArg Value.bool hc10)) (by kernel_rfl) ?_
            refine O.pure 2 [] [1, 18, 23, 24, 112, 113] [] (fr' := [(1, .slice h1.1 a1.length h1.2), (18, .int .i64 x10_3.2), (23, .int .i64 x12_1.2.2), (24, .bool (x12_1.2.2 == x6_1.2.2)), (112, .bool true), (113, .slice p12_1.1 x12_1.2.1.length p12_1.2)]) (bx' := [⟨p11_7, [.slice p11_3.1 x11_3.1.f0.length p11_3.2], 24⟩, ⟨p10_7, [.slice p10_3.1 x10_3.1.f0.length p10_3.2], 24⟩, ⟨p3_6, [.slice p3_1.1 x3_1.1.f0.length p3_1.2], 24⟩]) (by kernel_rfl) ?_
            refine O.q (v := .string (strOfNums x12_1.2.1)) (some 114) (Qu.str (t := 27) (u := 9) (x := .tmp 113) (h := p12_1) (xs := x12_1.2.1) 0 (by kernel_rfl) (by kernel_rfl) (by kernel_rfl) (by kernel_rfl) rfl) (by kernel_rfl) ?_
            refine O.pure 1 [] [18, 23, 24, 112, 114, 115] [] (fr' := [(18, .int .i64 x10_3.2), (23, .int .i64 x12_1.2.2), (24, .bool (x12_1.2.2 == x6_1.2.2)), (112, .bool true), (114, .string (strOfNums x12_1.2.1)), (115, .slice h1.1 a1.length h1.2)]) (bx' := [⟨p11_7, [.slice p11_3.1 x11_3.1.f0.length p11_3.2], 24⟩, ⟨p10_7, [.slice p10_3.1 x10_3.1.f0.length p10_3.2], 24⟩, ⟨p3_6, [.slice p3_1.1 x3_1.1.f0.length p3_1.2], 24⟩]) (by kernel_rfl) ?_
            refine O.q (v := .string (strOfNums a1)) (some 116) (Qu.str (t := 27) (u := 9) (x := .tmp 115) (h := h1) (xs := a1) 9 (by kernel_rfl) (by kernel_rfl) (by kernel_rfl) (by kernel_rfl) rfl) (by kernel_rfl) ?_
            refine O.q (v := .bool true) (some 117) (Qu.eqv (u := .bool ((strOfNums x12_1.2.1).toList == (strOfNums a1).toList)) (v := .bool true) (0, 0) [] (by kernel_rfl) (congrArg Value.bool hc11)) (by kernel_rfl) ?_
            refine O.pure 6 [] [18, 24, 25] [] (fr' := [(18, .int .i64 x10_3.2), (24, .bool (x12_1.2.2 == x6_1.2.2)), (25, .bool (x12_1.2.2 == 0))]) (bx' := [⟨p11_7, [.slice p11_3.1 x11_3.1.f0.length p11_3.2], 24⟩, ⟨p10_7, [.slice p10_3.1 x10_3.1.f0.length p10_3.2], 24⟩, ⟨p3_6, [.slice p3_1.1 x3_1.1.f0.length p3_1.2], 24⟩]) (by kernel_rfl) ?_
            refine O.nil (by kernel_rfl) ?_
            refine J.seq (by kernel_rfl) ?_
            refine J.seq (by kernel_rfl) ?_
            refine J.region (by kernel_rfl) ?_
            refine O.pure 2 [] [18, 24, 25, 124] [] (fr' := [(18, .int .i64 x10_3.2), (24, .bool (x12_1.2.2 == x6_1.2.2)), (25, .bool (x12_1.2.2 == 0)), (124, .bool (decide (x10_3.2 < 3)))]) (bx' := [⟨p11_7, [.slice p11_3.1 x11_3.1.f0.length p11_3.2], 24⟩, ⟨p10_7, [.slice p10_3.1 x10_3.1.f0.length p10_3.2], 24⟩, ⟨p3_6, [.slice p3_1.1 x3_1.1.f0.length p3_1.2], 24⟩]) (by kernel_rfl) ?_
            refine O.nil (by kernel_rfl) ?_
            rcases condE H with ⟨hc12, H⟩ | ⟨hc12, H⟩
            ·refine J.condT (x := .tmp 124) (t := (decide (x10_3.2 < 3))) (by kernel_rfl) (by kernel_rfl) hc12 ?_
             refine J.seq (by kernel_rfl) ?_
             rcases condE H with ⟨hc13, H⟩ | ⟨hc13, H⟩
             ·obtain ⟨x18_2, hx18_2, H⟩ := bindE H
              refine J.region (by kernel_rfl) ?_
              refine O.q (v := .bool true) (some 125) (Qu.eqv (u := .bool (x12_1.2.2 == x6_1.2.2)) (v := .bool true) (0, 0) [] (by kernel_rfl) (congrArg Value.bool hc13)) (by kernel_rfl) ?_
              refine O.pure 1 [] [126] [] (fr' := [(126, .bool true)]) (bx' := [⟨p11_7, [.slice p11_3.1 x11_3.1.f0.length p11_3.2], 24⟩, ⟨p10_7, [.slice p10_3.1 x10_3.1.f0.length p10_3.2], 24⟩, ⟨p3_6, [.slice p3_1.1 x3_1.1.f0.length p3_1.2], 24⟩]) (by kernel_rfl) ?_
              refine O.e (some 127) (Ev.call0 (xs := []) [] (by kernel_rfl) (by kernel_rfl) (fun w hS => haywainlaw14_knows.con K  _ _ w hS hx18_2 ((Option.some.inj H).trans hr))) (by kernel_rfl) (fun _ => ?_)
              refine O.pure 2 [] [8] [] (fr' := [(8, .bool x18_2)]) (bx' := [⟨p11_7, [.slice p11_3.1 x11_3.1.f0.length p11_3.2], 24⟩, ⟨p10_7, [.slice p10_3.1 x10_3.1.f0.length p10_3.2], 24⟩, ⟨p3_6, [.slice p3_1.1 x3_1.1.f0.length p3_1.2], 24⟩]) (by kernel_rfl) ?_
              refine O.nil (by kernel_rfl) ?_
              obtain rfl := Option.some.inj H
              exact J.doneS [] [] [] [] [] () (vs := [.bool x18_2]) (by kernel_rfl) (by kernel_rfl) (by kernel_rfl) (by kernel_rfl) (by kernel_rfl) (by decide)
             ·obtain rfl := Option.some.inj H
              cases hr
            ·refine J.condF (x := .tmp 124) (t := (decide (x10_3.2 < 3))) (by kernel_rfl) (by kernel_rfl) hc12 ?_
             refine J.skip (by kernel_rfl) ?_
             refine J.seq (by kernel_rfl) ?_
             refine J.seq (by kernel_rfl) ?_
             refine J.region (by kernel_rfl) ?_
             refine O.pure 2 [] [24, 25, 130] [] (fr' := [(24, .bool (x12_1.2.2 == x6_1.2.2)), (25, .bool (x12_1.2.2 == 0)), (130, .bool (decide (x10_3.2 > 3)))]) (bx' := [⟨p11_7, [.slice p11_3.1 x11_3.1.f0.length p11_3.2], 24⟩, ⟨p10_7, [.slice p10_3.1 x10_3.1.f0.length p10_3.2], 24⟩, ⟨p3_6, [.slice p3_1.1 x3_1.1.f0.length p3_1.2], 24⟩]) (by kernel_rfl) ?_
             refine O.nil (by kernel_rfl) ?_
             rcases condE H with ⟨hc14, H⟩ | ⟨hc14, H⟩
             ·refine J.condT (x := .tmp 130) (t := (decide (x10_3.2 > 3))) (by kernel_rfl) (by kernel_rfl) hc14 ?_
              refine J.seq (by kernel_rfl) ?_
              rcases condE H with ⟨hc15, H⟩ | ⟨hc15, H⟩
              ·obtain ⟨x20_2, hx20_2, H⟩ := bindE H
               refine J.region (by kernel_rfl) ?_
               refine O.q (v := .bool true) (some 131) (Qu.eqv (u := .bool (x12_1.2.2 == 0)) (v := .bool true) (0, 0) [] (by kernel_rfl) (congrArg Value.bool hc15)) (by kernel_rfl) ?_
               refine O.pure 1 [] [132] [] (fr' := [(132, .bool true)]) (bx' := [⟨p11_7, [.slice p11_3.1 x11_3.1.f0.length p11_3.2], 24⟩, ⟨p10_7, [.slice p10_3.1 x10_3.1.f0.length p10_3.2], 24⟩, ⟨p3_6, [.slice p3_1.1 x3_1.1.f0.length p3_1.2], 24⟩]) (by kernel_rfl) ?_
               refine O.e (some 133) (Ev.call0 (xs := []) [] (by kernel_rfl) (by kernel_rfl) (fun w hS => haywainlaw14_knows.con K  _ _ w hS hx20_2 ((Option.some.inj H).trans hr))) (by kernel_rfl) (fun _ => ?_)
               refine O.pure 2 [] [8] [] (fr' := [(8, .bool x20_2)]) (bx' := [⟨p11_7, [.slice p11_3.1 x11_3.1.f0.length p11_3.2], 24⟩, ⟨p10_7, [.slice p10_3.1 x10_3.1.f0.length p10_3.2], 24⟩, ⟨p3_6, [.slice p3_1.1 x3_1.1.f0.length p3_1.2], 24⟩]) (by kernel_rfl) ?_
               refine O.nil (by kernel_rfl) ?_
               obtain rfl := Option.some.inj H
               exact J.doneS [] [] [] [] [] () (vs := [.bool x20_2]) (by kernel_rfl) (by kernel_rfl) (by kernel_rfl) (by kernel_rfl) (by kernel_rfl) (by decide)
              ·obtain rfl := Option.some.inj H
               cases hr
             ·refine J.condF (x := .tmp 130) (t := (decide (x10_3.2 > 3))) (by kernel_rfl) (by kernel_rfl) hc14 ?_
              refine J.skip (by kernel_rfl) ?_
              refine J.seq (by kernel_rfl) ?_
              rcases condE H with ⟨hc16, H⟩ | ⟨hc16, H⟩
              ·obtain ⟨x21_5, hx21_5, H⟩ := bindE H
               refine J.region (by kernel_rfl) ?_
               refine O.q (v := .bool true) (some 135) (Qu.eqv (u := .bool (x12_1.2.2 == x6_1.2.2)) (v := .bool true) (0, 0) [] (by kernel_rfl) (congrArg Value.bool hc16)) (by kernel_rfl) ?_
               refine O.pure 4 [] [139] [] (fr' := [(139, .bool true)]) (bx' := [⟨p11_7, [.slice p11_3.1 x11_3.1.f0.length p11_3.2], 24⟩, ⟨p10_7, [.slice p10_3.1 x10_3.1.f0.length p10_3.2], 24⟩, ⟨p3_6, [.slice p3_1.1 x3_1.1.f0.length p3_1.2], 24⟩]) (by kernel_rfl) ?_
               refine O.e (some 140) (Ev.call0 (xs := []) [] (by kernel_rfl) (by kernel_rfl) (fun w hS => haywainlaw14_knows.con K  _ _ w hS hx21_5 ((Option.some.inj H).trans hr))) (by kernel_rfl) (fun _ => ?_)
               refine O.pure 2 [] [8] [] (fr' := [(8, .bool x21_5)]) (bx' := [⟨p11_7, [.slice p11_3.1 x11_3.1.f0.length p11_3.2], 24⟩, ⟨p10_7, [.slice p10_3.1 x10_3.1.f0.length p10_3.2], 24⟩, ⟨p3_6, [.slice p3_1.1 x3_1.1.f0.length p3_1.2], 24⟩]) (by kernel_rfl) ?_
               refine O.nil (by kernel_rfl) ?_
               obtain rfl := Option.some.inj H
               exact J.doneS [] [] [] [] [] () (vs := [.bool x21_5]) (by kernel_rfl) (by kernel_rfl) (by kernel_rfl) (by kernel_rfl) (by kernel_rfl) (by decide)
              ·rcases condE H with ⟨hc17, H⟩ | ⟨hc17, H⟩
               ·obtain ⟨x21_5, hx21_5, H⟩ := bindE H
                refine J.region (by kernel_rfl) ?_
                refine O.q (v := .bool false) (some 135) (Qu.eqv (u := .bool (x12_1.2.2 == x6_1.2.2)) (v := .bool false) (0, 0) [] (by kernel_rfl) (congrArg Value.bool hc16)) (by kernel_rfl) ?_
                refine O.pure 1 [] [25, 136] [] (fr' := [(25, .bool (x12_1.2.2 == 0)), (136, .bool false)]) (bx' := [⟨p11_7, [.slice p11_3.1 x11_3.1.f0.length p11_3.2], 24⟩, ⟨p10_7, [.slice p10_3.1 x10_3.1.f0.length p10_3.2], 24⟩, ⟨p3_6, [.slice p3_1.1 x3_1.1.f0.length p3_1.2], 24⟩]) (by kernel_rfl) ?_
                refine O.q (v := .bool true) (some 137) (Qu.eqv (u := .bool (x12_1.2.2 == 0)) (v := .bool true) (0, 0) [] (by kernel_rfl) (congrArg Value.bool hc17)) (by kernel_rfl) ?_
                refine O.pure 2 [] [139] [] (fr' := [(139, .bool true)]) (bx' := [⟨p11_7, [.slice p11_3.1 x11_3.1.f0.length p11_3.2], 24⟩, ⟨p10_7, [.slice p10_3.1 x10_3.1.f0.length p10_3.2], 24⟩, ⟨p3_6, [.slice p3_1.1 x3_1.1.f0.length p3_1.2], 24⟩]) (by kernel_rfl) ?_
                refine O.e (some 140) (Ev.call0 (xs := []) [] (by kernel_rfl) (by kernel_rfl) (fun w hS => haywainlaw14_knows.con K  _ _ w hS hx21_5 ((Option.some.inj H).trans hr))) (by kernel_rfl) (fun _ => ?_)
                refine O.pure 2 [] [8] [] (fr' := [(8, .bool x21_5)]) (bx' := [⟨p11_7, [.slice p11_3.1 x11_3.1.f0.length p11_3.2], 24⟩, ⟨p10_7, [.slice p10_3.1 x10_3.1.f0.length p10_3.2], 24⟩, ⟨p3_6, [.slice p3_1.1 x3_1.1.f0.length p3_1.2], 24⟩]) (by kernel_rfl) ?_
                refine O.nil (by kernel_rfl) ?_
                obtain rfl := Option.some.inj H
                exact J.doneS [] [] [] [] [] () (vs := [.bool x21_5]) (by kernel_rfl) (by kernel_rfl) (by kernel_rfl) (by kernel_rfl) (by kernel_rfl) (by decide)
               ·obtain rfl := Option.some.inj H
                cases hr
           ·refine J.region (by kernel_rfl) ?_
            refine O.pure 3 [] [1, 18, 22, 23, 24, 108, 110] [] (fr' := [(1, .slice h1.1 a1.length h1.2), (18, .int .i64 x10_3.2), (22, .slice p12_1.1 x12_1.2.1.length p12_1.2), (23, .int .i64 x12_1.2.2), (24, .bool (x12_1.2.2 == x6_1.2.2)), (108, .int .i64 x12_1.1), (110, .int .i64 (IntKind.wrap .i64 (x3_1.2.1 + 1)))]) (bx' := [⟨p11_7, [.slice p11_3.1 x11_3.1.f0.length p11_3.2], 24⟩, ⟨p10_7, [.slice p10_3.1 x10_3.1.f0.length p10_3.2], 24⟩, ⟨p3_6, [.slice p3_1.1 x3_1.1.f0.length p3_1.2], 24⟩]) (by kernel_rfl) ?_
            refine O.q (v := .bool true) (some 111) (Qu.eqv (u := .bool (x12_1.1 == (IntKind.wrap .i64 (x3_1.2.1 + 1)))) (v := .bool true) (0, 0) [] (by kernel_rfl) (congrArg Value.bool hc10)) (by kernel_rfl) ?_
            refine O.pure 2 [] [1, 18, 23, 24, 112, 113] [] (fr' := [(1, .slice h1.1 a1.length h1.2), (18, .int .i64 x10_3.2), (23, .int .i64 x12_1.2.2), (24, .bool (x12_1.2.2 == x6_1.2.2)), (112, .bool true), (113, .slice p12_1.1 x12_1.2.1.length p12_1.2)]) (bx' := [⟨p11_7, [.slice p11_3.1 x11_3.1.f0.length p11_3.2], 24⟩, ⟨p10_7, [.slice p10_3.1 x10_3.1.f0.length p10_3.2], 24⟩, ⟨p3_6, [.slice p3_1.1 x3_1.1.f0.length p3_1.2], 24⟩]) (by kernel_rfl) ?_
            refine O.q (v := .string (strOfNums x12_1.2.1)) (some 114) (Qu.str (t := 27) (u := 9) (x := .tmp 113) (h := p12_1) (xs := x12_1.2.1) 0 (by kernel_rfl) (by kernel_rfl) (by kernel_rfl) (by kernel_rfl) rfl) (by kernel_rfl) ?_
            refine O.pure 1 [] [18, 23, 24, 112, 114, 115] [] (fr' := [(18, .int .i64 x10_3.2), (23, .int .i64 x12_1.2.2), (24, .bool (x12_1.2.2 == x6_1.2.2)), (112, .bool true), (114, .string (strOfNums x12_1.2.1)), (115, .slice h1.1 a1.length h1.2)]) (bx' := [⟨p11_7, [.slice p11_3.1 x11_3.1.f0.length p11_3.2], 24⟩, ⟨p10_7, [.slice p10_3.1 x10_3.1.f0.length p10_3.2], 24⟩, ⟨p3_6, [.slice p3_1.1 x3_1.1.f0.length p3_1.2], 24⟩]) (by kernel_rfl) ?_
            refine O.q (v := .string (strOfNums a1)) (some 116) (Qu.str (t := 27) (u := 9) (x := .tmp 115) (h := h1) (xs := a1) 9 (by kernel_rfl) (by kernel_rfl) (by kernel_rfl) (by kernel_rfl) rfl) (by kernel_rfl) ?_
            refine O.q (v := .bool false) (some 117) (Qu.eqv (u := .bool ((strOfNums x12_1.2.1).toList == (strOfNums a1).toList)) (v := .bool false) (0, 0) [] (by kernel_rfl) (congrArg Value.bool hc11)) (by kernel_rfl) ?_
            refine O.pure 6 [] [18, 24, 25] [] (fr' := [(18, .int .i64 x10_3.2), (24, .bool (x12_1.2.2 == x6_1.2.2)), (25, .bool false)]) (bx' := [⟨p11_7, [.slice p11_3.1 x11_3.1.f0.length p11_3.2], 24⟩, ⟨p10_7, [.slice p10_3.1 x10_3.1.f0.length p10_3.2], 24⟩, ⟨p3_6, [.slice p3_1.1 x3_1.1.f0.length p3_1.2], 24⟩]) (by kernel_rfl) ?_
            refine O.nil (by kernel_rfl) ?_
            refine J.seq (by kernel_rfl) ?_
            refine J.seq (by kernel_rfl) ?_
            refine J.region (by kernel_rfl) ?_
            refine O.pure 2 [] [18, 24, 25, 124] [] (fr' := [(18, .int .i64 x10_3.2), (24, .bool (x12_1.2.2 == x6_1.2.2)), (25, .bool false), (124, .bool (decide (x10_3.2 < 3)))]) (bx' := [⟨p11_7, [.slice p11_3.1 x11_3.1.f0.length p11_3.2], 24⟩, ⟨p10_7, [.slice p10_3.1 x10_3.1.f0.length p10_3.2], 24⟩, ⟨p3_6, [.slice p3_1.1 x3_1.1.f0.length p3_1.2], 24⟩]) (by kernel_rfl) ?_
            refine O.nil (by kernel_rfl) ?_
            rcases condE H with ⟨hc18, H⟩ | ⟨hc18, H⟩
            ·refine J.condT (x := .tmp 124) (t := (decide (x10_3.2 < 3))) (by kernel_rfl) (by kernel_rfl) hc18 ?_
             refine J.seq (by kernel_rfl) ?_
             rcases condE H with ⟨hc19, H⟩ | ⟨hc19, H⟩
             ·obtain ⟨x18_2, hx18_2, H⟩ := bindE H
              refine J.region (by kernel_rfl) ?_
              refine O.q (v := .bool true) (some 125) (Qu.eqv (u := .bool (x12_1.2.2 == x6_1.2.2)) (v := .bool true) (0, 0) [] (by kernel_rfl) (congrArg Value.bool hc19)) (by kernel_rfl) ?_
              refine O.pure 1 [] [126] [] (fr' := [(126, .bool true)]) (bx' := [⟨p11_7, [.slice p11_3.1 x11_3.1.f0.length p11_3.2], 24⟩, ⟨p10_7, [.slice p10_3.1 x10_3.1.f0.length p10_3.2], 24⟩, ⟨p3_6, [.slice p3_1.1 x3_1.1.f0.length p3_1.2], 24⟩]) (by kernel_rfl) ?_
              refine O.e (some 127) (Ev.call0 (xs := []) [] (by kernel_rfl) (by kernel_rfl) (fun w hS => haywainlaw14_knows.con K  _ _ w hS hx18_2 ((Option.some.inj H).trans hr))) (by kernel_rfl) (fun _ => ?_)
              refine O.pure 2 [] [8] [] (fr' := [(8, .bool x18_2)]) (bx' := [⟨p11_7, [.slice p11_3.1 x11_3.1.f0.length p11_3.2], 24⟩, ⟨p10_7, [.slice p10_3.1 x10_3.1.f0.length p10_3.2], 24⟩, ⟨p3_6, [.slice p3_1.1 x3_1.1.f0.length p3_1.2], 24⟩]) (by kernel_rfl) ?_
              refine O.nil (by kernel_rfl) ?_
              obtain rfl := Option.some.inj H
              exact J.doneS [] [] [] [] [] () (vs := [.bool x18_2]) (by kernel_rfl) (by kernel_rfl) (by kernel_rfl) (by kernel_rfl) (by kernel_rfl) (by decide)
             ·obtain rfl := Option.some.inj H
              cases hr
            ·refine J.condF (x := .tmp 124) (t := (decide (x10_3.2 < 3))) (by kernel_rfl) (by kernel_rfl) hc18 ?_
             refine J.skip (by kernel_rfl) ?_
             refine J.seq (by kernel_rfl) ?_
             refine J.seq (by kernel_rfl) ?_
             refine J.region (by kernel_rfl) ?_
             refine O.pure 2 [] [24, 25, 130] [] (fr' := [(24, .bool (x12_1.2.2 == x6_1.2.2)), (25, .bool false), (130, .bool (decide (x10_3.2 > 3)))]) (bx' := [⟨p11_7, [.slice p11_3.1 x11_3.1.f0.length p11_3.2], 24⟩, ⟨p10_7, [.slice p10_3.1 x10_3.1.f0.length p10_3.2], 24⟩, ⟨p3_6, [.slice p3_1.1 x3_1.1.f0.length p3_1.2], 24⟩]) (by kernel_rfl) ?_
             refine O.nil (by kernel_rfl) ?_
             rcases condE H with ⟨hc20, H⟩ | ⟨hc20, H⟩
             ·obtain rfl := Option.some.inj H
              cases hr
             ·refine J.condF (x := .tmp 130) (t := (decide (x10_3.2 > 3))) (by kernel_rfl) (by kernel_rfl) hc20 ?_
              refine J.skip (by kernel_rfl) ?_
              refine J.seq (by kernel_rfl) ?_
              rcases condE H with ⟨hc21, H⟩ | ⟨hc21, H⟩
              ·obtain ⟨x21_5, hx21_5, H⟩ := bindE H
               refine J.region (by kernel_rfl) ?_
               refine O.q (v := .bool true) (some 135) (Qu.eqv (u := .bool (x12_1.2.2 == x6_1.2.2)) (v := .bool true) (0, 0) [] (by kernel_rfl) (congrArg Value.bool hc21)) (by kernel_rfl) ?_
               refine O.pure 4 [] [139] [] (fr' := [(139, .bool true)]) (bx' := [⟨p11_7, [.slice p11_3.1 x11_3.1.f0.length p11_3.2], 24⟩, ⟨p10_7, [.slice p10_3.1 x10_3.1.f0.length p10_3.2], 24⟩, ⟨p3_6, [.slice p3_1.1 x3_1.1.f0.length p3_1.2], 24⟩]) (by kernel_rfl) ?_
               refine O.e (some 140) (Ev.call0 (xs := []) [] (by kernel_rfl) (by kernel_rfl) (fun w hS => haywainlaw14_knows.con K  _ _ w hS hx21_5 ((Option.some.inj H).trans hr))) (by kernel_rfl) (fun _ => ?_)
               refine O.pure 2 [] [8] [] (fr' := [(8, .bool x21_5)]) (bx' := [⟨p11_7, [.slice p11_3.1 x11_3.1.f0.length p11_3.2], 24⟩, ⟨p10_7, [.slice p10_3.1 x10_3.1.f0.length p10_3.2], 24⟩, ⟨p3_6, [.slice p3_1.1 x3_1.1.f0.length p3_1.2], 24⟩]) (by kernel_rfl) ?_
               refine O.nil (by kernel_rfl) ?_
               obtain rfl := Option.some.inj H
               exact J.doneS [] [] [] [] [] () (vs := [.bool x21_5]) (by kernel_rfl) (by kernel_rfl) (by kernel_rfl) (by kernel_rfl) (by kernel_rfl) (by decide)
              ·obtain rfl := Option.some.inj H
               cases hr
          ·refine J.region (by kernel_rfl) ?_
           refine O.pure 3 [] [1, 18, 22, 23, 24, 108, 110] [] (fr' := [(1, .slice h1.1 a1.length h1.2), (18, .int .i64 x10_3.2), (22, .slice p12_1.1 x12_1.2.1.length p12_1.2), (23, .int .i64 x12_1.2.2), (24, .bool (x12_1.2.2 == x6_1.2.2)), (108, .int .i64 x12_1.1), (110, .int .i64 (IntKind.wrap .i64 (x3_1.2.1 + 1)))]) (bx' := [⟨p11_7, [.slice p11_3.1 x11_3.1.f0.length p11_3.2], 24⟩, ⟨p10_7, [.slice p10_3.1 x10_3.1.f0.length p10_3.2], 24⟩, ⟨p3_6, [.slice p3_1.1 x3_1.1.f0.length p3_1.2], 24⟩]) (by kernel_rfl) ?_
           refine O.q (v := .bool false) (some 111) (Qu.eqv (u := .bool (x12_1.1 == (IntKind.wrap .i64 (x3_1.2.1 + 1)))) (v := .bool false) (0, 0) [] (by kernel_rfl) (congrArg Value.bool hc10)) (by kernel_rfl) ?_
           refine O.pure 12 [] [18, 24, 25] [] (fr' := [(18, .int .i64 x10_3.2), (24, .bool (x12_1.2.2 == x6_1.2.2)), (25, .bool false)]) (bx' := [⟨p11_7, [.slice p11_3.1 x11_3.1.f0.length p11_3.2], 24⟩, ⟨p10_7, [.slice p10_3.1 x10_3.1.f0.length p10_3.2], 24⟩, ⟨p3_6, [.slice p3_1.1 x3_1.1.f0.length p3_1.2], 24⟩]) (by kernel_rfl) ?_
           refine O.nil (by kernel_rfl) ?_
           refine J.seq (by kernel_rfl) ?_
           refine J.seq (by kernel_rfl) ?_
           refine J.region (by kernel_rfl) ?_
           refine O.pure 2 [] [18, 24, 25, 124] [] (fr' := [(18, .int .i64 x10_3.2), (24, .bool (x12_1.2.2 == x6_1.2.2)), (25, .bool false), (124, .bool (decide (x10_3.2 < 3)))]) (bx' := [⟨p11_7, [.slice p11_3.1 x11_3.1.f0.length p11_3.2], 24⟩, ⟨p10_7, [.slice p10_3.1 x10_3.1.f0.length p10_3.2], 24⟩, ⟨p3_6, [.slice p3_1.1 x3_1.1.f0.length p3_1.2], 24⟩]) (by kernel_rfl) ?_
           refine O.nil (by kernel_rfl) ?_
           rcases condE H with ⟨hc22, H⟩ | ⟨hc22, H⟩
           ·refine J.condT (x := .tmp 124) (t := (decide (x10_3.2 < 3))) (by kernel_rfl) (by kernel_rfl) hc22 ?_
            refine J.seq (by kernel_rfl) ?_
            rcases condE H with ⟨hc23, H⟩ | ⟨hc23, H⟩
            ·obtain ⟨x18_2, hx18_2, H⟩ := bindE H
             refine J.region (by kernel_rfl) ?_
             refine O.q (v := .bool true) (some 125) (Qu.eqv (u := .bool (x12_1.2.2 == x6_1.2.2)) (v := .bool true) (0, 0) [] (by kernel_rfl) (congrArg Value.bool hc23)) (by kernel_rfl) ?_
             refine O.pure 1 [] [126] [] (fr' := [(126, .bool true)]) (bx' := [⟨p11_7, [.slice p11_3.1 x11_3.1.f0.length p11_3.2], 24⟩, ⟨p10_7, [.slice p10_3.1 x10_3.1.f0.length p10_3.2], 24⟩, ⟨p3_6, [.slice p3_1.1 x3_1.1.f0.length p3_1.2], 24⟩]) (by kernel_rfl) ?_
             refine O.e (some 127) (Ev.call0 (xs := []) [] (by kernel_rfl) (by kernel_rfl) (fun w hS => haywainlaw14_knows.con K  _ _ w hS hx18_2 ((Option.some.inj H).trans hr))) (by kernel_rfl) (fun _ => ?_)
             refine O.pure 2 [] [8] [] (fr' := [(8, .bool x18_2)]) (bx' := [⟨p11_7, [.slice p11_3.1 x11_3.1.f0.length p11_3.2], 24⟩, ⟨p10_7, [.slice p10_3.1 x10_3.1.f0.length p10_3.2], 24⟩, ⟨p3_6, [.slice p3_1.1 x3_1.1.f0.length p3_1.2], 24⟩]) (by kernel_rfl) ?_
             refine O.nil (by kernel_rfl) ?_
             obtain rfl := Option.some.inj H
             exact J.doneS [] [] [] [] [] () (vs := [.bool x18_2]) (by kernel_rfl) (by kernel_rfl) (by kernel_rfl) (by kernel_rfl) (by kernel_rfl) (by decide)
            ·obtain rfl := Option.some.inj H
             cases hr
           ·refine J.condF (x := .tmp 124) (t := (decide (x10_3.2 < 3))) (by kernel_rfl) (by kernel_rfl) hc22 ?_
            refine J.skip (by kernel_rfl) ?_
            refine J.seq (by kernel_rfl) ?_
            refine J.seq (by kernel_rfl) ?_
            refine J.region (by kernel_rfl) ?_
            refine O.pure 2 [] [24, 25, 130] [] (fr' := [(24, .bool (x12_1.2.2 == x6_1.2.2)), (25, .bool false), (130, .bool (decide (x10_3.2 > 3)))]) (bx' := [⟨p11_7, [.slice p11_3.1 x11_3.1.f0.length p11_3.2], 24⟩, ⟨p10_7, [.slice p10_3.1 x10_3.1.f0.length p10_3.2], 24⟩, ⟨p3_6, [.slice p3_1.1 x3_1.1.f0.length p3_1.2], 24⟩]) (by kernel_rfl) ?_
            refine O.nil (by kernel_rfl) ?_
            rcases condE H with ⟨hc24, H⟩ | ⟨hc24, H⟩
            ·obtain rfl := Option.some.inj H
             cases hr
            ·refine J.condF (x := .tmp 130) (t := (decide (x10_3.2 > 3))) (by kernel_rfl) (by kernel_rfl) hc24 ?_
             refine J.skip (by kernel_rfl) ?_
             refine J.seq (by kernel_rfl) ?_
             rcases condE H with ⟨hc25, H⟩ | ⟨hc25, H⟩
             ·obtain ⟨x21_5, hx21_5, H⟩ := bindE H
              refine J.region (by kernel_rfl) ?_
              refine O.q (v := .bool true) (some 135) (Qu.eqv (u := .bool (x12_1.2.2 == x6_1.2.2)) (v := .bool true) (0, 0) [] (by kernel_rfl) (congrArg Value.bool hc25)) (by kernel_rfl) ?_
              refine O.pure 4 [] [139] [] (fr' := [(139, .bool true)]) (bx' := [⟨p11_7, [.slice p11_3.1 x11_3.1.f0.length p11_3.2], 24⟩, ⟨p10_7, [.slice p10_3.1 x10_3.1.f0.length p10_3.2], 24⟩, ⟨p3_6, [.slice p3_1.1 x3_1.1.f0.length p3_1.2], 24⟩]) (by kernel_rfl) ?_
              refine O.e (some 140) (Ev.call0 (xs := []) [] (by kernel_rfl) (by kernel_rfl) (fun w hS => haywainlaw14_knows.con K  _ _ w hS hx21_5 ((Option.some.inj H).trans hr))) (by kernel_rfl) (fun _ => ?_)
              refine O.pure 2 [] [8] [] (fr' := [(8, .bool x21_5)]) (bx' := [⟨p11_7, [.slice p11_3.1 x11_3.1.f0.length p11_3.2], 24⟩, ⟨p10_7, [.slice p10_3.1 x10_3.1.f0.length p10_3.2], 24⟩, ⟨p3_6, [.slice p3_1.1 x3_1.1.f0.length p3_1.2], 24⟩]) (by kernel_rfl) ?_
              refine O.nil (by kernel_rfl) ?_
              obtain rfl := Option.some.inj H
              exact J.doneS [] [] [] [] [] () (vs := [.bool x21_5]) (by kernel_rfl) (by kernel_rfl) (by kernel_rfl) (by kernel_rfl) (by kernel_rfl) (by decide)
             ·obtain rfl := Option.some.inj H
              cases hr
         ·refine J.region (by kernel_rfl) ?_
          refine O.pure 2 [] [1, 10, 13, 14, 18, 21, 22, 23, 93, 94] [] (fr' := [(1, .slice h1.1 a1.length h1.2), (10, .int .i64 x3_1.2.1), (13, .slice p6_1.1 x6_1.2.1.length p6_1.2), (14, .int .i64 x6_1.2.2), (18, .int .i64 x10_3.2), (21, .int .i64 x12_1.1), (22, .slice p12_1.1 x12_1.2.1.length p12_1.2), (23, .int .i64 x12_1.2.2), (93, .int .i64 x12_1.1), (94, .int .i64 x6_1.1)]) (bx' := [⟨p11_7, [.slice p11_3.1 x11_3.1.f0.length p11_3.2], 24⟩, ⟨p10_7, [.slice p10_3.1 x10_3.1.f0.length p10_3.2], 24⟩, ⟨p3_6, [.slice p3_1.1 x3_1.1.f0.length p3_1.2], 24⟩]) (by kernel_rfl) ?_
          refine O.q (v := .bool true) (some 95) (Qu.eqv (u := .bool (x12_1.1 == x6_1.1)) (v := .bool true) (0, 0) [] (by kernel_rfl) (congrArg Value.bool hc8)) (by kernel_rfl) ?_
          refine O.pure 2 [] [1, 10, 13, 14, 18, 21, 22, 23, 96, 97] [] (fr' := [(1, .slice h1.1 a1.length h1.2), (10, .int .i64 x3_1.2.1), (13, .slice p6_1.1 x6_1.2.1.length p6_1.2), (14, .int .i64 x6_1.2.2), (18, .int .i64 x10_3.2), (21, .int .i64 x12_1.1), (22, .slice p12_1.1 x12_1.2.1.length p12_1.2), (23, .int .i64 x12_1.2.2), (96, .bool true), (97, .slice p12_1.1 x12_1.2.1.length p12_1.2)]) (bx' := [⟨p11_7, [.slice p11_3.1 x11_3.1.f0.length p11_3.2], 24⟩, ⟨p10_7, [.slice p10_3.1 x10_3.1.f0.length p10_3.2], 24⟩, ⟨p3_6, [.slice p3_1.1 x3_1.1.f0.length p3_1.2], 24⟩]) (by kernel_rfl) ?_
          refine O.q (v := .string (strOfNums x12_1.2.1)) (some 98) (Qu.str (t := 27) (u := 9) (x := .tmp 97) (h := p12_1) (xs := x12_1.2.1) 0 (by kernel_rfl) (by kernel_rfl) (by kernel_rfl) (by kernel_rfl) rfl) (by kernel_rfl) ?_
          refine O.pure 1 [] [1, 10, 14, 18, 21, 22, 23, 96, 98, 99] [] (fr' := [(1, .slice h1.1 a1.length h1.2), (10, .int .i64 x3_1.2.1), (14, .int .i64 x6_1.2.2), (18, .int .i64 x10_3.2), (21, .int .i64 x12_1.1), (22, .slice p12_1.1 x12_1.2.1.length p12_1.2), (23, .int .i64 x12_1.2.2), (96, .bool true), (98, .string (strOfNums x12_1.2.1)), (99, .slice p6_1.1 x6_1.2.1.length p6_1.2)]) (bx' := [⟨p11_7, [.slice p11_3.1 x11_3.1.f0.length p11_3.2], 24⟩, ⟨p10_7, [.slice p10_3.1 x10_3.1.f0.length p10_3.2], 24⟩, ⟨p3_6, [.slice p3_1.1 x3_1.1.f0.length p3_1.2], 24⟩]) (by kernel_rfl) ?_
          refine O.q (v := .string (strOfNums x6_1.2.1)) (some 100) (Qu.str (t := 27) (u := 9) (x := .tmp 99) (h := p6_1) (xs := x6_1.2.1) 6 (by kernel_rfl) (by kernel_rfl) (by kernel_rfl) (by kernel_rfl) rfl) (by kernel_rfl) ?_
          refine O.q (v := .bool false) (some 101) (Qu.eqv (u := .bool ((strOfNums x12_1.2.1).toList == (strOfNums x6_1.2.1).toList)) (v := .bool false) (0, 0) [] (by kernel_rfl) (congrArg Value.bool hc9)) (by kernel_rfl) ?_
          refine O.pure 7 [] [1, 10, 18, 21, 22, 23, 24] [] (fr' := [(1, .slice h1.1 a1.length h1.2), (10, .int .i64 x3_1.2.1), (18, .int .i64 x10_3.2), (21, .int .i64 x12_1.1), (22, .slice p12_1.1 x12_1.2.1.length p12_1.2), (23, .int .i64 x12_1.2.2), (24, .bool false)]) (bx' := [⟨p11_7, [.slice p11_3.1 x11_3.1.f0.length p11_3.2], 24⟩, ⟨p10_7, [.slice p10_3.1 x10_3.1.f0.length p10_3.2], 24⟩, ⟨p3_6, [.slice p3_1.1 x3_1.1.f0.length p3_1.2], 24⟩]) (by kernel_rfl) ?_
          refine O.nil (by kernel_rfl) ?_
          refine J.seq (by kernel_rfl) ?_
          rcases condE H with ⟨hc26, H⟩ | ⟨hc26, H⟩
          ·rcases condE H with ⟨hc27, H⟩ | ⟨hc27, H⟩
           ·refine J.region (by kernel_rfl) ?_
            refine O.pure 3 [] [1, 18, 22, 23, 24, 108, 110] [] (fr' := [(1, .slice h1.1 a1.length h1.2), (18, .int .i64 x10_3.2), (22, .slice p12_1.1 x12_1.2.1.length p12_1.2), (23, .int .i64 x12_1.2.2), (24, .bool false), (108, .int .i64 x12_1.1), (110, .int .i64 (IntKind.wrap .i64 (x3_1.2.1 + 1)))]) (bx' := [⟨p11_7, [.slice p11_3.1 x11_3.1.f0.length p11_3.2], 24⟩, ⟨p10_7, [.slice p10_3.1 x10_3.1.f0.length p10_3.2], 24⟩, ⟨p3_6, [.slice p3_1.1 x3_1.1.f0.length p3_1.2], 24⟩]) (by kernel_rfl) ?_
            refine O.q (v := .bool true) (some 111) (Qu.eqv (u := .bool (x12_1.1 == (IntKind.wrap .i64 (x3_1.2.1 + 1)))) (v := .bool true) (0, 0) [] (by kernel_rfl) (congrArg Value.bool hc26)) (by kernel_rfl) ?_
            refine O.pure 2 [] [1, 18, 23, 24, 112, 113] [] (fr' := [(1, .slice h1.1 a1.length h1.2), (18, .int .i64 x10_3.2), (23, .int .i64 x12_1.2.2), (24, .bool false), (112, .bool true), (113, .slice p12_1.1 x12_1.2.1.length p12_1.2)]) (bx' := [⟨p11_7, [.slice p11_3.1 x11_3.1.f0.length p11_3.2], 24⟩, ⟨p10_7, [.slice p10_3.1 x10_3.1.f0.length p10_3.2], 24⟩, ⟨p3_6, [.slice p3_1.1 x3_1.1.f0.length p3_1.2], 24⟩]) (by kernel_rfl) ?_
            refine O.q (v := .string (strOfNums x12_1.2.1)) (some 114) (Qu.str (t := 27) (u := 9) (x := .tmp 113) (h := p12_1) (xs := x12_1.2.1) 0 (by kernel_rfl) (by kernel_rfl) (by kernel_rfl) (by kernel_rfl) rfl) (by kernel_rfl) ?_
            refine O.pure 1 [] [18, 23, 24, 112, 114, 115] [] (fr' := [(18, .int .i64 x10_3.2), (23, .int .i64 x12_1.2.2), (24, .bool false), (112, .bool true), (114, .string (strOfNums x12_1.2.1)), (115, .slice h1.1 a1.length h1.2)]) (bx' := [⟨p11_7, [.slice p11_3.1 x11_3.1.f0.length p11_3.2], 24⟩, ⟨p10_7, [.slice p10_3.1 x10_3.1.f0.length p10_3.2], 24⟩, ⟨p3_6, [.slice p3_1.1 x3_1.1.f0.length p3_1.2], 24⟩]) (by kernel_rfl) ?_
            refine O.q (v := .string (strOfNums a1)) (some 116) (Qu.str (t := 27) (u := 9) (x := .tmp 115) (h := h1) (xs := a1) 9 (by kernel_rfl) (by kernel_rfl) (by kernel_rfl) (by kernel_rfl) rfl) (by kernel_rfl) ?_
            refine O.q (v := .bool true) (some 117) (Qu.eqv (u := .bool ((strOfNums x12_1.2.1).toList == (strOfNums a1).toList)) (v := .bool true) (0, 0) [] (by kernel_rfl) (congrArg Value.bool hc27)) (by kernel_rfl) ?_
            refine O.pure 6 [] [18, 24, 25] [] (fr' := [(18, .int .i64 x10_3.2), (24, .bool false), (25, .bool (x12_1.2.2 == 0))]) (bx' := [⟨p11_7, [.slice p11_3.1 x11_3.1.f0.length p11_3.2], 24⟩, ⟨p10_7, [.slice p10_3.1 x10_3.1.f0.length p10_3.2], 24⟩, ⟨p3_6, [.slice p3_1.1 x3_1.1.f0.length p3_1.2], 24⟩]) (by kernel_rfl) ?_
            refine O.nil (by kernel_rfl) ?_
            refine J.seq (by kernel_rfl) ?_
            refine J.seq (by kernel_rfl) ?_
            refine J.region (by kernel_rfl) ?_
            refine O.pure 2 [] [18, 24, 25, 124] [] (fr' := [(18, .int .i64 x10_3.2), (24, .bool false), (25, .bool (x12_1.2.2 == 0)), (124, .bool (decide (x10_3.2 < 3)))]) (bx' := [⟨p11_7, [.slice p11_3.1 x11_3.1.f0.length p11_3.2], 24⟩, ⟨p10_7, [.slice p10_3.1 x10_3.1.f0.length p10_3.2], 24⟩, ⟨p3_6, [.slice p3_1.1 x3_1.1.f0.length p3_1.2], 24⟩]) (by kernel_rfl) ?_
            refine O.nil (by kernel_rfl) ?_
            rcases condE H with ⟨hc28, H⟩ | ⟨hc28, H⟩
            ·obtain rfl := Option.some.inj H
             cases hr
            ·refine J.condF (x := .tmp 124) (t := (decide (x10_3.2 < 3))) (by kernel_rfl) (by kernel_rfl) hc28 ?_
             refine J.skip (by kernel_rfl) ?_
             refine J.seq (by kernel_rfl) ?_
             refine J.seq (by kernel_rfl) ?_
             refine J.region (by kernel_rfl) ?_
             refine O.pure 2 [] [24, 25, 130] [] (fr' := [(24, .bool false), (25, .bool (x12_1.2.2 == 0)), (130, .bool (decide (x10_3.2 > 3)))]) (bx' := [⟨p11_7, [.slice p11_3.1 x11_3.1.f0.length p11_3.2], 24⟩, ⟨p10_7, [.slice p10_3.1 x10_3.1.f0.length p10_3.2], 24⟩, ⟨p3_6, [.slice p3_1.1 x3_1.1.f0.length p3_1.2], 24⟩]) (by kernel_rfl) ?_
             refine O.nil (by kernel_rfl) ?_
             rcases condE H with ⟨hc29, H⟩ | ⟨hc29, H⟩
             ·refine J.condT (x := .tmp 130) (t := (decide (x10_3.2 > 3))) (by kernel_rfl) (by kernel_rfl) hc29 ?_
              refine J.seq (by kernel_rfl) ?_
              rcases condE H with ⟨hc30, H⟩ | ⟨hc30, H⟩
              ·obtain ⟨x20_2, hx20_2, H⟩ := bindE H
               refine J.region (by kernel_rfl) ?_
               refine O.q (v := .bool true) (some 131) (Qu.eqv (u := .bool (x12_1.2.2 == 0)) (v := .bool true) (0, 0) [] (by kernel_rfl) (congrArg Value.bool hc30)) (by kernel_rfl) ?_
               refine O.pure 1 [] [132] [] (fr' := [(132, .bool true)]) (bx' := [⟨p11_7, [.slice p11_3.1 x11_3.1.f0.length p11_3.2], 24⟩, ⟨p10_7, [.slice p10_3.1 x10_3.1.f0.length p10_3.2], 24⟩, ⟨p3_6, [.slice p3_1.1 x3_1.1.f0.length p3_1.2], 24⟩]) (by kernel_rfl) ?_
               refine O.e (some 133) (Ev.call0 (xs := []) [] (by kernel_rfl) (by kernel_rfl) (fun w hS => haywainlaw14_knows.con K  _ _ w hS hx20_2 ((Option.some.inj H).trans hr))) (by kernel_rfl) (fun _ => ?_)
               refine O.pure 2 [] [8] [] (fr' := [(8, .bool x20_2)]) (bx' := [⟨p11_7, [.slice p11_3.1 x11_3.1.f0.length p11_3.2], 24⟩, ⟨p10_7, [.slice p10_3.1 x10_3.1.f0.length p10_3.2], 24⟩, ⟨p3_6, [.slice p3_1.1 x3_1.1.f0.length p3_1.2], 24⟩]) (by kernel_rfl) ?_
               refine O.nil (by kernel_rfl) ?_
               obtain rfl := Option.some.inj H
               exact J.doneS [] [] [] [] [] () (vs := [.bool x20_2]) (by kernel_rfl) (by kernel_rfl) (by kernel_rfl) (by kernel_rfl) (by kernel_rfl) (by decide)
              ·obtain rfl := Option.some.inj H
               cases hr
             ·refine J.condF (x := .tmp 130) (t := (decide (x10_3.2 > 3))) (by kernel_rfl) (by kernel_rfl) hc29 ?_
              refine J.skip (by kernel_rfl) ?_
              refine J.seq (by kernel_rfl) ?_
              rcases condE H with ⟨hc31, H⟩ | ⟨hc31, H⟩
              ·obtain ⟨x21_5, hx21_5, H⟩ := bindE H
               refine J.region (by kernel_rfl) ?_
               refine O.pure 2 [] [25, 136] [] (fr' := [(25, .bool (x12_1.2.2 == 0)), (136, .bool false)]) (bx' := [⟨p11_7, [.slice p11_3.1 x11_3.1.f0.length p11_3.2], 24⟩, ⟨p10_7, [.slice p10_3.1 x10_3.1.f0.length p10_3.2], 24⟩, ⟨p3_6, [.slice p3_1.1 x3_1.1.f0.length p3_1.2], 24⟩]) (by kernel_rfl) ?_
               refine O.q (v := .bool true) (some 137) (Qu.eqv (u := .bool (x12_1.2.2 == 0)) (v := .bool true) (0, 0) [] (by kernel_rfl) (congrArg Value.bool hc31)) (by kernel_rfl) ?_
               refine O.pure 2 [] [139] [] (fr' := [(139, .bool true)]) (bx' := [⟨p11_7, [.slice p11_3.1 x11_3.1.f0.length p11_3.2], 24⟩, ⟨p10_7, [.slice p10_3.1 x10_3.1.f0.length p10_3.2], 24⟩, ⟨p3_6, [.slice p3_1.1 x3_1.1.f0.length p3_1.2], 24⟩]) (by kernel_rfl) ?_
               refine O.e (some 140) (Ev.call0 (xs := []) [] (by kernel_rfl) (by kernel_rfl) (fun w hS => haywainlaw14_knows.con K  _ _ w hS hx21_5 ((Option.some.inj H).trans hr))) (by kernel_rfl) (fun _ => ?_)
               refine O.pure 2 [] [8] [] (fr' := [(8, .bool x21_5)]) (bx' := [⟨p11_7, [.slice p11_3.1 x11_3.1.f0.length p11_3.2], 24⟩, ⟨p10_7, [.slice p10_3.1 x10_3.1.f0.length p10_3.2], 24⟩, ⟨p3_6, [.slice p3_1.1 x3_1.1.f0.length p3_1.2], 24⟩]) (by kernel_rfl) ?_
               refine O.nil (by kernel_rfl) ?_
               obtain rfl := Option.some.inj H
               exact J.doneS [] [] [] [] [] () (vs := [.bool x21_5]) (by kernel_rfl) (by kernel_rfl) (by kernel_rfl) (by kernel_rfl) (by kernel_rfl) (by decide)
              ·obtain rfl := Option.some.inj H
               cases hr
           ·refine J.region (by kernel_rfl) ?_
            refine O.pure 3 [] [1, 18, 22, 23, 24, 108, 110] [] (fr' := [(1, .slice h1.1 a1.length h1.2), (18, .int .i64 x10_3.2), (22, .slice p12_1.1 x12_1.2.1.length p12_1.2), (23, .int .i64 x12_1.2.2), (24, .bool false), (108, .int .i64 x12_1.1), (110, .int .i64 (IntKind.wrap .i64 (x3_1.2.1 + 1)))]) (bx' := [⟨p11_7, [.slice p11_3.1 x11_3.1.f0.length p11_3.2], 24⟩, ⟨p10_7, [.slice p10_3.1 x10_3.1.f0.length p10_3.2], 24⟩, ⟨p3_6, [.slice p3_1.1 x3_1.1.f0.length p3_1.2], 24⟩]) (by kernel_rfl) ?_
            refine O.q (v := .bool true) (some 111) (Qu.eqv (u := .bool (x12_1.1 == (IntKind.wrap .i64 (x3_1.2.1 + 1)))) (v := .bool true) (0, 0) [] (by kernel_rfl) (congrArg Value.bool hc26)) (by kernel_rfl) ?_
            refine O.pure 2 [] [1, 18, 23, 24, 112, 113] [] (fr' := [(1, .slice h1.1 a1.length h1.2), (18, .int .i64 x10_3.2), (23, .int .i64 x12_1.2.2), (24, .bool false), (112, .bool true), (113, .slice p12_1.1 x12_1.2.1.length p12_1.2)]) (bx' := [⟨p11_7, [.slice p11_3.1 x11_3.1.f0.length p11_3.2], 24⟩, ⟨p10_7, [.slice p10_3.1 x10_3.1.f0.length p10_3.2], 24⟩, ⟨p3_6, [.slice p3_1.1 x3_1.1.f0.length p3_1.2], 24⟩]) (by kernel_rfl) ?_
            refine O.q (v := .string (strOfNums x12_1.2.1)) (some 114) (Qu.str (t := 27) (u := 9) (x := .tmp 113) (h := p12_1) (xs := x12_1.2.1) 0 (by kernel_rfl) (by kernel_rfl) (by kernel_rfl) (by kernel_rfl) rfl) (by kernel_rfl) ?_
            refine O.pure 1 [] [18, 23, 24, 112, 114, 115] [] (fr' := [(18, .int .i64 x10_3.2), (23, .int .i64 x12_1.2.2), (24, .bool false), (112, .bool true), (114, .string (strOfNums x12_1.2.1)), (115, .slice h1.1 a1.length h1.2)]) (bx' := [⟨p11_7, [.slice p11_3.1 x11_3.1.f0.length p11_3.2], 24⟩, ⟨p10_7, [.slice p10_3.1 x10_3.1.f0.length p10_3.2], 24⟩, ⟨p3_6, [.slice p3_1.1 x3_1.1.f0.length p3_1.2], 24⟩]) (by kernel_rfl) ?_
            refine O.q (v := .string (strOfNums a1)) (some 116) (Qu.str (t := 27) (u := 9) (x := .tmp 115) (h := h1) (xs := a1) 9 (by kernel_rfl) (by kernel_rfl) (by kernel_rfl) (by kernel_rfl) rfl) (by kernel_rfl) ?_
            refine O.q (v := .bool false) (some 117) (Qu.eqv (u := .bool ((strOfNums x12_1.2.1).toList == (strOfNums a1).toList)) (v := .bool false) (0, 0) [] (by kernel_rfl) (congrArg Value.bool hc27)) (by kernel_rfl) ?_
            refine O.pure 6 [] [18, 24, 25] [] (fr' := [(18, .int .i64 x10_3.2), (24, .bool false), (25, .bool false)]) (bx' := [⟨p11_7, [.slice p11_3.1 x11_3.1.f0.length p11_3.2], 24⟩, ⟨p10_7, [.slice p10_3.1 x10_3.1.f0.length p10_3.2], 24⟩, ⟨p3_6, [.slice p3_1.1 x3_1.1.f0.length p3_1.2], 24⟩]) (by kernel_rfl) ?_
            refine O.nil (by kernel_rfl) ?_
            refine J.seq (by kernel_rfl) ?_
            refine J.seq (by kernel_rfl) ?_
            refine J.region (by kernel_rfl) ?_
            refine O.pure 2 [] [18, 24, 25, 124] [] (fr' := [(18, .int .i64 x10_3.2), (24, .bool false), (25, .bool false), (124, .bool (decide (x10_3.2 < 3)))]) (bx' := [⟨p11_7, [.slice p11_3.1 x11_3.1.f0.length p11_3.2], 24⟩, ⟨p10_7, [.slice p10_3.1 x10_3.1.f0.length p10_3.2], 24⟩, ⟨p3_6, [.slice p3_1.1 x3_1.1.f0.length p3_1.2], 24⟩]) (by kernel_rfl) ?_
            refine O.nil (by kernel_rfl) ?_
            rcases condE H with ⟨hc32, H⟩ | ⟨hc32, H⟩
            ·obtain rfl := Option.some.inj H
             cases hr
            ·refine J.condF (x := .tmp 124) (t := (decide (x10_3.2 < 3))) (by kernel_rfl) (by kernel_rfl) hc32 ?_
             refine J.skip (by kernel_rfl) ?_
             refine J.seq (by kernel_rfl) ?_
             refine J.seq (by kernel_rfl) ?_
             refine J.region (by kernel_rfl) ?_
             refine O.pure 2 [] [24, 25, 130] [] (fr' := [(24, .bool false), (25, .bool false), (130, .bool (decide (x10_3.2 > 3)))]) (bx' := [⟨p11_7, [.slice p11_3.1 x11_3.1.f0.length p11_3.2], 24⟩, ⟨p10_7, [.slice p10_3.1 x10_3.1.f0.length p10_3.2], 24⟩, ⟨p3_6, [.slice p3_1.1 x3_1.1.f0.length p3_1.2], 24⟩]) (by kernel_rfl) ?_
             refine O.nil (by kernel_rfl) ?_
             rcases condE H with ⟨hc33, H⟩ | ⟨hc33, H⟩
             ·obtain rfl := Option.some.inj H
              cases hr
             ·obtain rfl := Option.some.inj H
              cases hr
          ·refine J.region (by kernel_rfl) ?_
           refine O.pure 3 [] [1, 18, 22, 23, 24, 108, 110] [] (fr' := [(1, .slice h1.1 a1.length h1.2), (18, .int .i64 x10_3.2), (22, .slice p12_1.1 x12_1.2.1.length p12_1.2), (23, .int .i64 x12_1.2.2), (24, .bool false), (108, .int .i64 x12_1.1), (110, .int .i64 (IntKind.wrap .i64 (x3_1.2.1 + 1)))]) (bx' := [⟨p11_7, [.slice p11_3.1 x11_3.1.f0.length p11_3.2], 24⟩, ⟨p10_7, [.slice p10_3.1 x10_3.1.f0.length p10_3.2], 24⟩, ⟨p3_6, [.slice p3_1.1 x3_1.1.f0.length p3_1.2], 24⟩]) (by kernel_rfl) ?_
           refine O.q (v := .bool false) (some 111) (Qu.eqv (u := .bool (x12_1.1 == (IntKind.wrap .i64 (x3_1.2.1 + 1)))) (v := .bool false) (0, 0) [] (by kernel_rfl) (congrArg Value.bool hc26)) (by kernel_rfl) ?_
           refine O.pure 12 [] [18, 24, 25] [] (fr' := [(18, .int .i64 x10_3.2), (24, .bool false), (25, .bool false)]) (bx' := [⟨p11_7, [.slice p11_3.1 x11_3.1.f0.length p11_3.2], 24⟩, ⟨p10_7, [.slice p10_3.1 x10_3.1.f0.length p10_3.2], 24⟩, ⟨p3_6, [.slice p3_1.1 x3_1.1.f0.length p3_1.2], 24⟩]) (by kernel_rfl) ?_
           refine O.nil (by kernel_rfl) ?_
           refine J.seq (by kernel_rfl) ?_
           refine J.seq (by kernel_rfl) ?_
           refine J.region (by kernel_rfl) ?_
           refine O.pure 2 [] [18, 24, 25, 124] [] (fr' := [(18, .int .i64 x10_3.2), (24, .bool false), (25, .bool false), (124, .bool (decide (x10_3.2 < 3)))]) (bx' := [⟨p11_7, [.slice p11_3.1 x11_3.1.f0.length p11_3.2], 24⟩, ⟨p10_7, [.slice p10_3.1 x10_3.1.f0.length p10_3.2], 24⟩, ⟨p3_6, [.slice p3_1.1 x3_1.1.f0.length p3_1.2], 24⟩]) (by kernel_rfl) ?_
           refine O.nil (by kernel_rfl) ?_
           rcases condE H with ⟨hc34, H⟩ | ⟨hc34, H⟩
           ·obtain rfl := Option.some.inj H
            cases hr
           ·refine J.condF (x := .tmp 124) (t := (decide (x10_3.2 < 3))) (by kernel_rfl) (by kernel_rfl) hc34 ?_
            refine J.skip (by kernel_rfl) ?_
            refine J.seq (by kernel_rfl) ?_
            refine J.seq (by kernel_rfl) ?_
            refine J.region (by kernel_rfl) ?_
            refine O.pure 2 [] [24, 25, 130] [] (fr' := [(24, .bool false), (25, .bool false), (130, .bool (decide (x10_3.2 > 3)))]) (bx' := [⟨p11_7, [.slice p11_3.1 x11_3.1.f0.length p11_3.2], 24⟩, ⟨p10_7, [.slice p10_3.1 x10_3.1.f0.length p10_3.2], 24⟩, ⟨p3_6, [.slice p3_1.1 x3_1.1.f0.length p3_1.2], 24⟩]) (by kernel_rfl) ?_
            refine O.nil (by kernel_rfl) ?_
            rcases condE H with ⟨hc35, H⟩ | ⟨hc35, H⟩
            ·obtain rfl := Option.some.inj H
             cases hr
            ·obtain rfl := Option.some.inj H
             cases hr
        ·refine J.region (by kernel_rfl) ?_
         refine O.pure 2 [] [1, 10, 13, 14, 18, 21, 22, 23, 93, 94] [] (fr' := [(1, .slice h1.1 a1.length h1.2), (10, .int .i64 x3_1.2.1), (13, .slice p6_1.1 x6_1.2.1.length p6_1.2), (14, .int .i64 x6_1.2.2), (18, .int .i64 x10_3.2), (21, .int .i64 x12_1.1), (22, .slice p12_1.1 x12_1.2.1.length p12_1.2), (23, .int .i64 x12_1.2.2), (93, .int .i64 x12_1.1), (94, .int .i64 x6_1.1)]) (bx' := [⟨p11_7, [.slice p11_3.1 x11_3.1.f0.length p11_3.2], 24⟩, ⟨p10_7, [.slice p10_3.1 x10_3.1.f0.length p10_3.2], 24⟩, ⟨p3_6, [.slice p3_1.1 x3_1.1.f0.length p3_1.2], 24⟩]) (by kernel_rfl) ?_
         refine O.q (v := .bool false) (some 95) (Qu.eqv (u := .bool (x12_1.1 == x6_1.1)) (v := .bool false) (0, 0) [] (by kernel_rfl) (congrArg Value.bool hc8)) (by kernel_rfl) ?_
         refine O.pure 13 [] [1, 10, 18, 21, 22, 23, 24] [] (fr' := [(1, .slice h1.1 a1.length h1.2), (10, .int .i64 x3_1.2.1), (18, .int .i64 x10_3.2), (21, .int .i64 x12_1.1), (22, .slice p12_1.1 x12_1.2.1.length p12_1.2), (23, .int .i64 x12_1.2.2), (24, .bool false)]) (bx' := [⟨p11_7, [.slice p11_3.1 x11_3.1.f0.length p11_3.2], 24⟩, ⟨p10_7, [.slice p10_3.1 x10_3.1.f0.length p10_3.2], 24⟩, ⟨p3_6, [.slice p3_1.1 x3_1.1.f0.length p3_1.2], 24⟩]) (by kernel_rfl) ?_
         refine O.nil (by kernel_rfl) ?_
         refine J.seq (by kernel_rfl) ?_
         rcases condE H with ⟨hc36, H⟩ | ⟨hc36, H⟩
         ·rcases condE H with ⟨hc37, H⟩ | ⟨hc37, H⟩
          ·refine J.region (by kernel_rfl) ?_
           refine O.pure 3 [] [1, 18, 22, 23, 24, 108, 110] [] (fr' := [(1, .slice h1.1 a1.length h1.2), (18, .int .i64 x10_3.2), (22, .slice p12_1.1 x12_1.2.1.length p12_1.2), (23, .int .i64 x12_1.2.2), (24, .bool false), (108, .int .i64 x12_1.1), (110, .int .i64 (IntKind.wrap .i64 (x3_1.2.1 + 1)))]) (bx' := [⟨p11_7, [.slice p11_3.1 x11_3.1.f0.length p11_3.2], 24⟩, ⟨p10_7, [.slice p10_3.1 x10_3.1.f0.length p10_3.2], 24⟩, ⟨p3_6, [.slice p3_1.1 x3_1.1.f0.length p3_1.2], 24⟩]) (by kernel_rfl) ?_
           refine O.q (v := .bool true) (some 111) (Qu.eqv (u := .bool (x12_1.1 == (IntKind.wrap .i64 (x3_1.2.1 + 1)))) (v := .bool true) (0, 0) [] (by kernel_rfl) (congrArg Value.bool hc36)) (by kernel_rfl) ?_
           refine O.pure 2 [] [1, 18, 23, 24, 112, 113] [] (fr' := [(1, .slice h1.1 a1.length h1.2), (18, .int .i64 x10_3.2), (23, .int .i64 x12_1.2.2), (24, .bool false), (112, .bool true), (113, .slice p12_1.1 x12_1.2.1.length p12_1.2)]) (bx' := [⟨p11_7, [.slice p11_3.1 x11_3.1.f0.length p11_3.2], 24⟩, ⟨p10_7, [.slice p10_3.1 x10_3.1.f0.length p10_3.2], 24⟩, ⟨p3_6, [.slice p3_1.1 x3_1.1.f0.length p3_1.2], 24⟩]) (by kernel_rfl) ?_
           refine O.q (v := .string (strOfNums x12_1.2.1)) (some 114) (Qu.str (t := 27) (u := 9) (x := .tmp 113) (h := p12_1) (xs := x12_1.2.1) 0 (by kernel_rfl) (by kernel_rfl) (by kernel_rfl) (by kernel_rfl) rfl) (by kernel_rfl) ?_
           refine O.pure 1 [] [18, 23, 24, 112, 114, 115] [] (fr' := [(18, .int .i64 x10_3.2), (23, .int .i64 x12_1.2.2), (24, .bool false), (112, .bool true), (114, .string (strOfNums x12_1.2.1)), (115, .slice h1.1 a1.length h1.2)]) (bx' := [⟨p11_7, [.slice p11_3.1 x11_3.1.f0.length p11_3.2], 24⟩, ⟨p10_7, [.slice p10_3.1 x10_3.1.f0.length p10_3.2], 24⟩, ⟨p3_6, [.slice p3_1.1 x3_1.1.f0.length p3_1.2], 24⟩]) (by kernel_rfl) ?_
           refine O.q (v := .string (strOfNums a1)) (some 116) (Qu.str (t := 27) (u := 9) (x := .tmp 115) (h := h1) (xs := a1) 9 (by kernel_rfl) (by kernel_rfl) (by kernel_rfl) (by kernel_rfl) rfl) (by kernel_rfl) ?_
           refine O.q (v := .bool true) (some 117) (Qu.eqv (u := .bool ((strOfNums x12_1.2.1).toList == (strOfNums a1).toList)) (v := .bool true) (0, 0) [] (by kernel_rfl) (congrArg Value.bool hc37)) (by kernel_rfl) ?_
           refine O.pure 6 [] [18, 24, 25] [] (fr' := [(18, .int .i64 x10_3.2), (24, .bool false), (25, .bool (x12_1.2.2 == 0))]) (bx' := [⟨p11_7, [.slice p11_3.1 x11_3.1.f0.length p11_3.2], 24⟩, ⟨p10_7, [.slice p10_3.1 x10_3.1.f0.length p10_3.2], 24⟩, ⟨p3_6, [.slice p3_1.1 x3_1.1.f0.length p3_1.2], 24⟩]) (by kernel_rfl) ?_
           refine O.nil (by kernel_rfl) ?_
           refine J.seq (by kernel_rfl) ?_
           refine J.seq (by kernel_rfl) ?_
           refine J.region (by kernel_rfl) ?_
           refine O.pure 2 [] [18, 24, 25, 124] [] (fr' := [(18, .int .i64 x10_3.2), (24, .bool false), (25, .bool (x12_1.2.2 == 0)), (124, .bool (decide (x10_3.2 < 3)))]) (bx' := [⟨p11_7, [.slice p11_3.1 x11_3.1.f0.length p11_3.2], 24⟩, ⟨p10_7, [.slice p10_3.1 x10_3.1.f0.length p10_3.2], 24⟩, ⟨p3_6, [.slice p3_1.1 x3_1.1.f0.length p3_1.2], 24⟩]) (by kernel_rfl) ?_
           refine O.nil (by kernel_rfl) ?_
           rcases condE H with ⟨hc38, H⟩ | ⟨hc38, H⟩
           ·obtain rfl := Option.some.inj H
            cases hr
           ·refine J.condF (x := .tmp 124) (t := (decide (x10_3.2 < 3))) (by kernel_rfl) (by kernel_rfl) hc38 ?_
            refine J.skip (by kernel_rfl) ?_
            refine J.seq (by kernel_rfl) ?_
            refine J.seq (by kernel_rfl) ?_
            refine J.region (by kernel_rfl) ?_
            refine O.pure 2 [] [24, 25, 130] [] (fr' := [(24, .bool false), (25, .bool (x12_1.2.2 == 0)), (130, .bool (decide (x10_3.2 > 3)))]) (bx' := [⟨p11_7, [.slice p11_3.1 x11_3.1.f0.length p11_3.2], 24⟩, ⟨p10_7, [.slice p10_3.1 x10_3.1.f0.length p10_3.2], 24⟩, ⟨p3_6, [.slice p3_1.1 x3_1.1.f0.length p3_1.2], 24⟩]) (by kernel_rfl) ?_
            refine O.nil (by kernel_rfl) ?_
            rcases condE H with ⟨hc39, H⟩ | ⟨hc39, H⟩
            ·refine J.condT (x := .tmp 130) (t := (decide (x10_3.2 > 3))) (by kernel_rfl) (by kernel_rfl) hc39 ?_
             refine J.seq (by kernel_rfl) ?_
             rcases condE H with ⟨hc40, H⟩ | ⟨hc40, H⟩
             ·obtain ⟨x20_2, hx20_2, H⟩ := bindE H
              refine J.region (by kernel_rfl) ?_
              refine O.q (v := .bool true) (some 131) (Qu.eqv (u := .bool (x12_1.2.2 == 0)) (v := .bool true) (0, 0) [] (by kernel_rfl) (congrArg Value.bool hc40)) (by kernel_rfl) ?_
              refine O.pure 1 [] [132] [] (fr' := [(132, .bool true)]) (bx' := [⟨p11_7, [.slice p11_3.1 x11_3.1.f0.length p11_3.2], 24⟩, ⟨p10_7, [.slice p10_3.1 x10_3.1.f0.length p10_3.2], 24⟩, ⟨p3_6, [.slice p3_1.1 x3_1.1.f0.length p3_1.2], 24⟩]) (by kernel_rfl) ?_
              refine O.e (some 133) (Ev.call0 (xs := []) [] (by kernel_rfl) (by kernel_rfl) (fun w hS => haywainlaw14_knows.con K  _ _ w hS hx20_2 ((Option.some.inj H).trans hr))) (by kernel_rfl) (fun _ => ?_)
              refine O.pure 2 [] [8] [] (fr' := [(8, .bool x20_2)]) (bx' := [⟨p11_7, [.slice p11_3.1 x11_3.1.f0.length p11_3.2], 24⟩, ⟨p10_7, [.slice p10_3.1 x10_3.1.f0.length p10_3.2], 24⟩, ⟨p3_6, [.slice p3_1.1 x3_1.1.f0.length p3_1.2], 24⟩]) (by kernel_rfl) ?_
              refine O.nil (by kernel_rfl) ?_
              obtain rfl := Option.some.inj H
              exact J.doneS [] [] [] [] [] () (vs := [.bool x20_2]) (by kernel_rfl) (by kernel_rfl) (by kernel_rfl) (by kernel_rfl) (by kernel_rfl) (by decide)
             ·obtain rfl := Option.some.inj H
              cases hr
            ·refine J.condF (x := .tmp 130) (t := (decide (x10_3.2 > 3))) (by kernel_rfl) (by kernel_rfl) hc39 ?_
             refine J.skip (by kernel_rfl) ?_
             refine J.seq (by kernel_rfl) ?_
             rcases condE H with ⟨hc41, H⟩ | ⟨hc41, H⟩
             ·obtain ⟨x21_5, hx21_5, H⟩ := bindE H
              refine J.region (by kernel_rfl) ?_
              refine O.pure 2 [] [25, 136] [] (fr' := [(25, .bool (x12_1.2.2 == 0)), (136, .bool false)]) (bx' := [⟨p11_7, [.slice p11_3.1 x11_3.1.f0.length p11_3.2], 24⟩, ⟨p10_7, [.slice p10_3.1 x10_3.1.f0.length p10_3.2], 24⟩, ⟨p3_6, [.slice p3_1.1 x3_1.1.f0.length p3_1.2], 24⟩]) (by kernel_rfl) ?_
              refine O.q (v := .bool true) (some 137) (Qu.eqv (u := .bool (x12_1.2.2 == 0)) (v := .bool true) (0, 0) [] (by kernel_rfl) (congrArg Value.bool hc41)) (by kernel_rfl) ?_
              refine O.pure 2 [] [139] [] (fr' := [(139, .bool true)]) (bx' := [⟨p11_7, [.slice p11_3.1 x11_3.1.f0.length p11_3.2], 24⟩, ⟨p10_7, [.slice p10_3.1 x10_3.1.f0.length p10_3.2], 24⟩, ⟨p3_6, [.slice p3_1.1 x3_1.1.f0.length p3_1.2], 24⟩]) (by kernel_rfl) ?_
              refine O.e (some 140) (Ev.call0 (xs := []) [] (by kernel_rfl) (by kernel_rfl) (fun w hS => haywainlaw14_knows.con K  _ _ w hS hx21_5 ((Option.some.inj H).trans hr))) (by kernel_rfl) (fun _ => ?_)
              refine O.pure 2 [] [8] [] (fr' := [(8, .bool x21_5)]) (bx' := [⟨p11_7, [.slice p11_3.1 x11_3.1.f0.length p11_3.2], 24⟩, ⟨p10_7, [.slice p10_3.1 x10_3.1.f0.length p10_3.2], 24⟩, ⟨p3_6, [.slice p3_1.1 x3_1.1.f0.length p3_1.2], 24⟩]) (by kernel_rfl) ?_
              refine O.nil (by kernel_rfl) ?_
              obtain rfl := Option.some.inj H
              exact J.doneS [] [] [] [] [] () (vs := [.bool x21_5]) (by kernel_rfl) (by kernel_rfl) (by kernel_rfl) (by kernel_rfl) (by kernel_rfl) (by decide)
             ·obtain rfl := Option.some.inj H
              cases hr
          ·refine J.region (by kernel_rfl) ?_
           refine O.pure 3 [] [1, 18, 22, 23, 24, 108, 110] [] (fr' := [(1, .slice h1.1 a1.length h1.2), (18, .int .i64 x10_3.2), (22, .slice p12_1.1 x12_1.2.1.length p12_1.2), (23, .int .i64 x12_1.2.2), (24, .bool false), (108, .int .i64 x12_1.1), (110, .int .i64 (IntKind.wrap .i64 (x3_1.2.1 + 1)))]) (bx' := [⟨p11_7, [.slice p11_3.1 x11_3.1.f0.length p11_3.2], 24⟩, ⟨p10_7, [.slice p10_3.1 x10_3.1.f0.length p10_3.2], 24⟩, ⟨p3_6, [.slice p3_1.1 x3_1.1.f0.length p3_1.2], 24⟩]) (by kernel_rfl) ?_
           refine O.q (v := .bool true) (some 111) (Qu.eqv (u := .bool (x12_1.1 == (IntKind.wrap .i64 (x3_1.2.1 + 1)))) (v := .bool true) (0, 0) [] (by kernel_rfl) (congrArg Value.bool hc36)) (by kernel_rfl) ?_
           refine O.pure 2 [] [1, 18, 23, 24, 112, 113] [] (fr' := [(1, .slice h1.1 a1.length h1.2), (18, .int .i64 x10_3.2), (23, .int .i64 x12_1.2.2), (24, .bool false), (112, .bool true), (113, .slice p12_1.1 x12_1.2.1.length p12_1.2)]) (bx' := [⟨p11_7, [.slice p11_3.1 x11_3.1.f0.length p11_3.2], 24⟩, ⟨p10_7, [.slice p10_3.1 x10_3.1.f0.length p10_3.2], 24⟩, ⟨p3_6, [.slice p3_1.1 x3_1.1.f0.length p3_1.2], 24⟩]) (by kernel_rfl) ?_
           refine O.q (v := .string (strOfNums x12_1.2.1)) (some 114) (Qu.str (t := 27) (u := 9) (x := .tmp 113) (h := p12_1) (xs := x12_1.2.1) 0 (by kernel_rfl) (by kernel_rfl) (by kernel_rfl) (by kernel_rfl) rfl) (by kernel_rfl) ?_
           refine O.pure 1 [] [18, 23, 24, 112, 114, 115] [] (fr' := [(18, .int .i64 x10_3.2), (23, .int .i64 x12_1.2.2), (24, .bool false), (112, .bool true), (114, .string (strOfNums x12_1.2.1)), (115, .slice h1.1 a1.length h1.2)]) (bx' := [⟨p11_7, [.slice p11_3.1 x11_3.1.f0.length p11_3.2], 24⟩, ⟨p10_7, [.slice p10_3.1 x10_3.1.f0.length p10_3.2], 24⟩, ⟨p3_6, [.slice p3_1.1 x3_1.1.f0.length p3_1.2], 24⟩]) (by kernel_rfl) ?_
           refine O.q (v := .string (strOfNums a1)) (some 116) (Qu.str (t := 27) (u := 9) (x := .tmp 115) (h := h1) (xs := a1) 9 (by kernel_rfl) (by kernel_rfl) (by kernel_rfl) (by kernel_rfl) rfl) (by kernel_rfl) ?_
           refine O.q (v := .bool false) (some 117) (Qu.eqv (u := .bool ((strOfNums x12_1.2.1).toList == (strOfNums a1).toList)) (v := .bool false) (0, 0) [] (by kernel_rfl) (congrArg Value.bool hc37)) (by kernel_rfl) ?_
           refine O.pure 6 [] [18, 24, 25] [] (fr' := [(18, .int .i64 x10_3.2), (24, .bool false), (25, .bool false)]) (bx' := [⟨p11_7, [.slice p11_3.1 x11_3.1.f0.length p11_3.2], 24⟩, ⟨p10_7, [.slice p10_3.1 x10_3.1.f0.length p10_3.2], 24⟩, ⟨p3_6, [.slice p3_1.1 x3_1.1.f0.length p3_1.2], 24⟩]) (by kernel_rfl) ?_
           refine O.nil (by kernel_rfl) ?_
           refine J.seq (by kernel_rfl) ?_
           refine J.seq (by kernel_rfl) ?_
           refine J.region (by kernel_rfl) ?_
           refine O.pure 2 [] [18, 24, 25, 124] [] (fr' := [(18, .int .i64 x10_3.2), (24, .bool false), (25, .bool false), (124, .bool (decide (x10_3.2 < 3)))]) (bx' := [⟨p11_7, [.slice p11_3.1 x11_3.1.f0.length p11_3.2], 24⟩, ⟨p10_7, [.slice p10_3.1 x10_3.1.f0.length p10_3.2], 24⟩, ⟨p3_6, [.slice p3_1.1 x3_1.1.f0.length p3_1.2], 24⟩]) (by kernel_rfl) ?_
           refine O.nil (by kernel_rfl) ?_
           rcases condE H with ⟨hc42, H⟩ | ⟨hc42, H⟩
           ·obtain rfl := Option.some.inj H
            cases hr
           ·refine J.condF (x := .tmp 124) (t := (decide (x10_3.2 < 3))) (by kernel_rfl) (by kernel_rfl) hc42 ?_
            refine J.skip (by kernel_rfl) ?_
            refine J.seq (by kernel_rfl) ?_
            refine J.seq (by kernel_rfl) ?_
            refine J.region (by kernel_rfl) ?_
            refine O.pure 2 [] [24, 25, 130] [] (fr' := [(24, .bool false), (25, .bool false), (130, .bool (decide (x10_3.2 > 3)))]) (bx' := [⟨p11_7, [.slice p11_3.1 x11_3.1.f0.length p11_3.2], 24⟩, ⟨p10_7, [.slice p10_3.1 x10_3.1.f0.length p10_3.2], 24⟩, ⟨p3_6, [.slice p3_1.1 x3_1.1.f0.length p3_1.2], 24⟩]) (by kernel_rfl) ?_
            refine O.nil (by kernel_rfl) ?_
            rcases condE H with ⟨hc43, H⟩ | ⟨hc43, H⟩
            ·obtain rfl := Option.some.inj H
             cases hr
            ·obtain rfl := Option.some.inj H
             cases hr
         ·refine J.region (by kernel_rfl) ?_
          refine O.pure 3 [] [1, 18, 22, 23, 24, 108, 110] [] (fr' := [(1, .slice h1.1 a1.length h1.2), (18, .int .i64 x10_3.2), (22, .slice p12_1.1 x12_1.2.1.length p12_1.2), (23, .int .i64 x12_1.2.2), (24, .bool false), (108, .int .i64 x12_1.1), (110, .int .i64 (IntKind.wrap .i64 (x3_1.2.1 + 1)))]) (bx' := [⟨p11_7, [.slice p11_3.1 x11_3.1.f0.length p11_3.2], 24⟩, ⟨p10_7, [.slice p10_3.1 x10_3.1.f0.length p10_3.2], 24⟩, ⟨p3_6, [.slice p3_1.1 x3_1.1.f0.length p3_1.2], 24⟩]) (by kernel_rfl) ?_
          refine O.q (v := .bool false) (some 111) (Qu.eqv (u := .bool (x12_1.1 == (IntKind.wrap .i64 (x3_1.2.1 + 1)))) (v := .bool false) (0, 0) [] (by kernel_rfl) (congrArg Value.bool hc36)) (by kernel_rfl) ?_
          refine O.pure 12 [] [18, 24, 25] [] (fr' := [(18, .int .i64 x10_3.2), (24, .bool false), (25, .bool false)]) (bx' := [⟨p11_7, [.slice p11_3.1 x11_3.1.f0.length p11_3.2], 24⟩, ⟨p10_7, [.slice p10_3.1 x10_3.1.f0.length p10_3.2], 24⟩, ⟨p3_6, [.slice p3_1.1 x3_1.1.f0.length p3_1.2], 24⟩]) (by kernel_rfl) ?_
          refine O.nil (by kernel_rfl) ?_
          refine J.seq (by kernel_rfl) ?_
          refine J.seq (by kernel_rfl) ?_
          refine J.region (by kernel_rfl) ?_
          refine O.pure 2 [] [18, 24, 25, 124] [] (fr' := [(18, .int .i64 x10_3.2), (24, .bool false), (25, .bool false), (124, .bool (decide (x10_3.2 < 3)))]) (bx' := [⟨p11_7, [.slice p11_3.1 x11_3.1.f0.length p11_3.2], 24⟩, ⟨p10_7, [.slice p10_3.1 x10_3.1.f0.length p10_3.2], 24⟩, ⟨p3_6, [.slice p3_1.1 x3_1.1.f0.length p3_1.2], 24⟩]) (by kernel_rfl) ?_
          refine O.nil (by kernel_rfl) ?_
          rcases condE H with ⟨hc44, H⟩ | ⟨hc44, H⟩
          ·obtain rfl := Option.some.inj H
           cases hr
          ·refine J.condF (x := .tmp 124) (t := (decide (x10_3.2 < 3))) (by kernel_rfl) (by kernel_rfl) hc44 ?_
           refine J.skip (by kernel_rfl) ?_
           refine J.seq (by kernel_rfl) ?_
           refine J.seq (by kernel_rfl) ?_
           refine J.region (by kernel_rfl) ?_
           refine O.pure 2 [] [24, 25, 130] [] (fr' := [(24, .bool false), (25, .bool false), (130, .bool (decide (x10_3.2 > 3)))]) (bx' := [⟨p11_7, [.slice p11_3.1 x11_3.1.f0.length p11_3.2], 24⟩, ⟨p10_7, [.slice p10_3.1 x10_3.1.f0.length p10_3.2], 24⟩, ⟨p3_6, [.slice p3_1.1 x3_1.1.f0.length p3_1.2], 24⟩]) (by kernel_rfl) ?_
           refine O.nil (by kernel_rfl) ?_
           rcases condE H with ⟨hc45, H⟩ | ⟨hc45, H⟩
           ·obtain rfl := Option.some.inj H
            cases hr
           ·obtain rfl := Option.some.inj H
            cases hr
def haywainlaw14_CkptCuts.Pure : Prop := ∀ (a0 : List (List Int)) (a1 : List Int) (a2 : Int) (a3 : List Int), (a0.length * 24 ≤ 140737488351232 ∧ ∀ x_ ∈ a0, x_.length * 1 ≤ 140737488351232 ∧ ∀ x__ ∈ x_, (Lit.int .u8 x__).wf = true) → (a1.length * 1 ≤ 140737488351232 ∧ ∀ x_ ∈ a1, (Lit.int .u8 x_).wf = true) → ((Lit.int .i64 a2).wf = true) → (a3.length * 8 ≤ 140737488351232 ∧ ∀ x_ ∈ a3, (Lit.int .i64 x_).wf = true) → ∃ K, haywainlaw14_CkptCuts.f K a0 a1 a2 a3 = some true
end Go.Proofs.Ytkcpbehgjbionaa.G
