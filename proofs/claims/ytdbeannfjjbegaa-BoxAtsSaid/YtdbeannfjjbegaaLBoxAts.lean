/- The law BoxAts as plain Lean, with its contract; printed by a program of this session. -/
import Derived.Test.YtdbeannfjjbegaaG1
set_option linter.unusedVariables false
set_option linter.unusedSimpArgs false
namespace Go.Proofs.Ytdbeannfjjbegaa.G
open Go Go.RowKit Go.Hw
/-! ### haywain/haywainlaw05.BoxAts: function 6 -/
def haywainlaw05_BoxAts.f (K : Nat) (a0 : List S40) (a1 : List S40) (a2 : Int) : Option Bool := (haywainlaw05_great.f K a0).bind fun x1_1 => cond x1_1 ((haywainlaw05_knows.f K).bind fun x2_0 => some (x2_0)) ((haywainlaw05_great.f K a1).bind fun x1_4 => cond x1_4 ((haywainlaw05_knows.f K).bind fun x2_0 => some (x2_0)) ((box_At.f K a0 a2).bind fun x3_2 => (haywainref05_At.f K a0 a2).bind fun x4_2 => cond (x3_2.1 == x4_2.1) (cond (x3_2.2 == x4_2.2) ((haywainlaw05_own.f K a0).bind fun x5_10 => (haywainlaw05_own.f K a1).bind fun x5_12 => (box_Same.f K x5_10 x5_12).bind fun x5_13 => (haywainref05_Same.f K a0 a1).bind fun x5_16 => cond (x5_13 == x5_16) ((haywainlaw05_own.f K a0).bind fun x5_21 => (haywainlaw05_own.f K a0).bind fun x5_23 => (box_Sort.f K x5_23).bind fun x5_24 => (box_Same.f K x5_21 x5_24).bind fun x5_25 => cond x5_25 ((haywainlaw05_knows.f K).bind fun x5_28 => some (x5_28)) (some (false))) (some (false))) (some (false))) (some (false))))
set_option maxRecDepth 100000 in
set_option maxHeartbeats 1000000 in
theorem haywainlaw05_BoxAts.con (K : Nat) (a0 : List S40) (a1 : List S40) (a2 : Int) (h0 : Hd) (h1 : Hd) (r : Bool) (X : Nat → Nat → Prop) (w : World) (hS : St X w [] [] [] [] [Rd kd40 h0.1 h0.2 a0, Rd kd40 h1.1 h1.2 a1] w) (H : haywainlaw05_BoxAts.f K a0 a1 a2 = some r) :
    Cn Try.prog 6 [.slice h0.1 a0.length h0.2, .slice h1.1 a1.length h1.2, .int .i64 a2] X w [] (fun i : Unit => .bool r) (fun i => []) (fun i => []) (fun i => []) := by
  refine Cn.of Try.func6 (by kernel_rfl) hS ?_
  unfold haywainlaw05_BoxAts.f at H
  refine J.seq (by kernel_rfl) ?_
  refine J.region (by kernel_rfl) ?_
  refine O.pure 1 [] [0, 1, 2] [] (fr' := [(0, .slice h0.1 a0.length h0.2), (1, .slice h1.1 a1.length h1.2), (2, .int .i64 a2)]) (bx' := []) (by kernel_rfl) ?_
  refine O.nil (by kernel_rfl) ?_
  refine J.seq (by kernel_rfl) ?_
  refine J.seq (by kernel_rfl) ?_
  obtain ⟨x1_1, hx1_1, H⟩ := bindE H
  rcases condE H with ⟨hc1, H⟩ | ⟨hc1, H⟩
  · refine J.region (by kernel_rfl) ?_
    refine O.pure 1 [] [0, 1, 2, 11] [] (fr' := [(0, .slice h0.1 a0.length h0.2), (1, .slice h1.1 a1.length h1.2), (2, .int .i64 a2), (11, .slice h0.1 a0.length h0.2)]) (bx' := []) (by kernel_rfl) ?_
    refine O.e (some 12) (Ev.call0 (xs := [.tmp 11]) [0] (by kernel_rfl) (by kernel_rfl) (fun w hS => haywainlaw05_great.con K a0 h0  _ _ w hS hx1_1)) (by kernel_rfl) (fun _ => ?_)
    refine O.q (v := .bool true) (some 13) (Qu.eqv (u := .bool x1_1) (v := .bool true) (0, 0) [] (by kernel_rfl) (congrArg Value.bool hc1)) (by kernel_rfl) ?_
    refine O.pure 3 [] [0, 1, 2, 16] [] (fr' := [(0, .slice h0.1 a0.length h0.2), (1, .slice h1.1 a1.length h1.2), (2, .int .i64 a2), (16, .bool true)]) (bx' := []) (by kernel_rfl) ?_
    refine O.nil (by kernel_rfl) ?_
    refine J.cond (o := .tmp 16) true (by kernel_rfl) (by kernel_rfl) ?_
    refine J.seq (by kernel_rfl) ?_
    obtain ⟨x2_0, hx2_0, H⟩ := bindE H
    refine J.region (by kernel_rfl) ?_
    refine O.e (some 17) (Ev.call0 (xs := []) [] (by kernel_rfl) (by kernel_rfl) (fun w hS => haywainlaw05_knows.con K  _ _ w hS hx2_0)) (by kernel_rfl) (fun _ => ?_)
    refine O.pure 1 [] [6] [] (fr' := [(6, .bool x2_0)]) (bx' := []) (by kernel_rfl) ?_
    refine O.nil (by kernel_rfl) ?_
    obtain rfl := Option.some.inj H
    exact J.doneS [] [] [] [] [] () (vs := [.bool x2_0]) (by kernel_rfl) (by kernel_rfl) (by kernel_rfl) (by kernel_rfl) (by kernel_rfl) (by decide)
  · obtain ⟨x1_4, hx1_4, H⟩ := bindE H
    refine J.region (by kernel_rfl) ?_
    refine O.pure 1 [] [0, 1, 2, 11] [] (fr' := [(0, .slice h0.1 a0.length h0.2), (1, .slice h1.1 a1.length h1.2), (2, .int .i64 a2), (11, .slice h0.1 a0.length h0.2)]) (bx' := []) (by kernel_rfl) ?_
    refine O.e (some 12) (Ev.call0 (xs := [.tmp 11]) [0] (by kernel_rfl) (by kernel_rfl) (fun w hS => haywainlaw05_great.con K a0 h0  _ _ w hS hx1_1)) (by kernel_rfl) (fun _ => ?_)
    refine O.q (v := .bool false) (some 13) (Qu.eqv (u := .bool x1_1) (v := .bool false) (0, 0) [] (by kernel_rfl) (congrArg Value.bool hc1)) (by kernel_rfl) ?_
    refine O.pure 1 [] [0, 1, 2, 13, 14] [] (fr' := [(0, .slice h0.1 a0.length h0.2), (1, .slice h1.1 a1.length h1.2), (2, .int .i64 a2), (13, .bool false), (14, .slice h1.1 a1.length h1.2)]) (bx' := []) (by kernel_rfl) ?_
    refine O.e (some 15) (Ev.call0 (xs := [.tmp 14]) [1] (by kernel_rfl) (by kernel_rfl) (fun w hS => haywainlaw05_great.con K a1 h1  _ _ w hS hx1_4)) (by kernel_rfl) (fun _ => ?_)
    refine O.pure 1 [] [0, 1, 2, 16] [] (fr' := [(0, .slice h0.1 a0.length h0.2), (1, .slice h1.1 a1.length h1.2), (2, .int .i64 a2), (16, .bool x1_4)]) (bx' := []) (by kernel_rfl) ?_
    refine O.nil (by kernel_rfl) ?_
    rcases condE H with ⟨hc2, H⟩ | ⟨hc2, H⟩
    · refine J.condT (x := .tmp 16) (t := x1_4) (by kernel_rfl) (by kernel_rfl) hc2 ?_
      refine J.seq (by kernel_rfl) ?_
      obtain ⟨x2_0, hx2_0, H⟩ := bindE H
      refine J.region (by kernel_rfl) ?_
      refine O.e (some 17) (Ev.call0 (xs := []) [] (by kernel_rfl) (by kernel_rfl) (fun w hS => haywainlaw05_knows.con K  _ _ w hS hx2_0)) (by kernel_rfl) (fun _ => ?_)
      refine O.pure 1 [] [6] [] (fr' := [(6, .bool x2_0)]) (bx' := []) (by kernel_rfl) ?_
      refine O.nil (by kernel_rfl) ?_
      obtain rfl := Option.some.inj H
      exact J.doneS [] [] [] [] [] () (vs := [.bool x2_0]) (by kernel_rfl) (by kernel_rfl) (by kernel_rfl) (by kernel_rfl) (by kernel_rfl) (by decide)
    · refine J.condF (x := .tmp 16) (t := x1_4) (by kernel_rfl) (by kernel_rfl) hc2 ?_
      refine J.skip (by kernel_rfl) ?_
      refine J.seq (by kernel_rfl) ?_
      obtain ⟨x3_2, hx3_2, H⟩ := bindE H
      refine J.region (by kernel_rfl) ?_
      refine O.pure 2 [] [0, 1, 2, 19, 20] [] (fr' := [(0, .slice h0.1 a0.length h0.2), (1, .slice h1.1 a1.length h1.2), (2, .int .i64 a2), (19, .slice h0.1 a0.length h0.2), (20, .int .i64 a2)]) (bx' := []) (by kernel_rfl) ?_
      refine O.e (some 21) (Ev.call0 (xs := [.tmp 19, .tmp 20]) [0] (by kernel_rfl) (by kernel_rfl) (fun w hS => box_At.con K a0 a2 h0  _ _ w hS hx3_2)) (by kernel_rfl) (fun _ => ?_)
      refine O.pure 5 [] [0, 1, 2, 7, 8] [] (fr' := [(0, .slice h0.1 a0.length h0.2), (1, .slice h1.1 a1.length h1.2), (2, .int .i64 a2), (7, .int .i64 x3_2.1), (8, .bool x3_2.2)]) (bx' := []) (by kernel_rfl) ?_
      refine O.nil (by kernel_rfl) ?_
      refine J.seq (by kernel_rfl) ?_
      obtain ⟨x4_2, hx4_2, H⟩ := bindE H
      refine J.region (by kernel_rfl) ?_
      refine O.pure 2 [] [0, 1, 7, 8, 25, 26] [] (fr' := [(0, .slice h0.1 a0.length h0.2), (1, .slice h1.1 a1.length h1.2), (7, .int .i64 x3_2.1), (8, .bool x3_2.2), (25, .slice h0.1 a0.length h0.2), (26, .int .i64 a2)]) (bx' := []) (by kernel_rfl) ?_
      refine O.e (some 27) (Ev.call0 (xs := [.tmp 25, .tmp 26]) [0] (by kernel_rfl) (by kernel_rfl) (fun w hS => haywainref05_At.con K a0 a2 h0  _ _ w hS hx4_2)) (by kernel_rfl) (fun _ => ?_)
      refine O.pure 5 [] [0, 1, 7, 8, 9, 10] [] (fr' := [(0, .slice h0.1 a0.length h0.2), (1, .slice h1.1 a1.length h1.2), (7, .int .i64 x3_2.1), (8, .bool x3_2.2), (9, .int .i64 x4_2.1), (10, .bool x4_2.2)]) (bx' := []) (by kernel_rfl) ?_
      refine O.nil (by kernel_rfl) ?_
      refine J.seq (by kernel_rfl) ?_
      rcases condE H with ⟨hc3, H⟩ | ⟨hc3, H⟩
      · rcases condE H with ⟨hc4, H⟩ | ⟨hc4, H⟩
        · obtain ⟨x5_10, hx5_10, H⟩ := bindE H
          obtain ⟨x5_12, hx5_12, H⟩ := bindE H
          obtain ⟨x5_13, hx5_13, H⟩ := bindE H
          obtain ⟨x5_16, hx5_16, H⟩ := bindE H
          rcases condE H with ⟨hc5, H⟩ | ⟨hc5, H⟩
          · obtain ⟨x5_21, hx5_21, H⟩ := bindE H
            obtain ⟨x5_23, hx5_23, H⟩ := bindE H
            obtain ⟨x5_24, hx5_24, H⟩ := bindE H
            obtain ⟨x5_25, hx5_25, H⟩ := bindE H
            rcases condE H with ⟨hc6, H⟩ | ⟨hc6, H⟩
            · obtain ⟨x5_28, hx5_28, H⟩ := bindE H
              refine J.region (by kernel_rfl) ?_
              refine O.pure 2 [] [0, 1, 8, 10, 30, 31] [] (fr' := [(0, .slice h0.1 a0.length h0.2), (1, .slice h1.1 a1.length h1.2), (8, .bool x3_2.2), (10, .bool x4_2.2), (30, .int .i64 x3_2.1), (31, .int .i64 x4_2.1)]) (bx' := []) (by kernel_rfl) ?_
              refine O.q (v := .bool true) (some 32) (Qu.eqv (u := .bool (x3_2.1 == x4_2.1)) (v := .bool true) (0, 0) [] (by kernel_rfl) (congrArg Value.bool hc3)) (by kernel_rfl) ?_
              refine O.pure 3 [] [0, 1, 33, 34, 35] [] (fr' := [(0, .slice h0.1 a0.length h0.2), (1, .slice h1.1 a1.length h1.2), (33, .bool true), (34, .bool x3_2.2), (35, .bool x4_2.2)]) (bx' := []) (by kernel_rfl) ?_
              refine O.q (v := .bool true) (some 36) (Qu.as (congrArg Value.bool hc4) (Qu.binT (op := .eql) (t := 4) (t' := 4) (x := .tmp 34) (y := .tmp 35) (u := .bool x3_2.2) (v := .bool x4_2.2) (by kernel_rfl) (by kernel_rfl) (by kernel_rfl) (by kernel_rfl))) (by kernel_rfl) ?_
              refine O.pure 3 [] [0, 1, 38, 39] [] (fr' := [(0, .slice h0.1 a0.length h0.2), (1, .slice h1.1 a1.length h1.2), (38, .bool true), (39, .slice h0.1 a0.length h0.2)]) (bx' := []) (by kernel_rfl) ?_
              refine O.e (some 40) (Ev.call0 (xs := [.tmp 39]) [0] (by kernel_rfl) (by kernel_rfl) (fun w hS => haywainlaw05_own.con K a0 h0  _ _ w hS hx5_10)) (by kernel_rfl) (fun p5_10 => ?_)
              refine O.pure 1 [] [0, 1, 38, 40, 41] [] (fr' := [(0, .slice h0.1 a0.length h0.2), (1, .slice h1.1 a1.length h1.2), (38, .bool true), (40, .slice p5_10.1 x5_10.length p5_10.2), (41, .slice h1.1 a1.length h1.2)]) (bx' := []) (by kernel_rfl) ?_
              refine O.e (some 42) (Ev.call0 (xs := [.tmp 41]) [1] (by kernel_rfl) (by kernel_rfl) (fun w hS => haywainlaw05_own.con K a1 h1  _ _ w hS hx5_12)) (by kernel_rfl) (fun p5_12 => ?_)
              refine O.e (some 43) (Ev.mono (fun w hS => hS.rowsel [1, 0] rfl (by decide)) (Ev.mono (fun w hS => hS.freezeH (h := p5_10) (xs := x5_10)) (Ev.mono (fun w hS => hS.freezeH (h := p5_12) (xs := x5_12)) (Ev.call0 (xs := [.tmp 40, .tmp 42]) [1, 0] (by kernel_rfl) (by kernel_rfl) (fun w hS => box_Same.con K x5_10 x5_12 p5_10 p5_12  _ _ w hS hx5_13))))) (by kernel_rfl) (fun _ => ?_)
              refine O.pure 2 [] [0, 38, 43, 44, 45] [] (fr' := [(0, .slice h0.1 a0.length h0.2), (38, .bool true), (43, .bool x5_13), (44, .slice h0.1 a0.length h0.2), (45, .slice h1.1 a1.length h1.2)]) (bx' := []) (by kernel_rfl) ?_
              refine O.e (some 46) (Ev.call0 (xs := [.tmp 44, .tmp 45]) [2, 3] (by kernel_rfl) (by kernel_rfl) (fun w hS => haywainref05_Same.con K a0 a1 h0 h1  _ _ w hS hx5_16)) (by kernel_rfl) (fun _ => ?_)
              refine O.q (v := .bool true) (some 47) (Qu.as (congrArg Value.bool hc5) (Qu.binT (op := .eql) (t := 4) (t' := 4) (x := .tmp 43) (y := .tmp 46) (u := .bool x5_13) (v := .bool x5_16) (by kernel_rfl) (by kernel_rfl) (by kernel_rfl) (by kernel_rfl))) (by kernel_rfl) ?_
              refine O.pure 3 [] [0, 49, 50] [] (fr' := [(0, .slice h0.1 a0.length h0.2), (49, .bool true), (50, .slice h0.1 a0.length h0.2)]) (bx' := []) (by kernel_rfl) ?_
              refine O.e (some 51) (Ev.call0 (xs := [.tmp 50]) [2] (by kernel_rfl) (by kernel_rfl) (fun w hS => haywainlaw05_own.con K a0 h0  _ _ w hS hx5_21)) (by kernel_rfl) (fun p5_21 => ?_)
              refine O.pure 1 [] [49, 51, 52] [] (fr' := [(49, .bool true), (51, .slice p5_21.1 x5_21.length p5_21.2), (52, .slice h0.1 a0.length h0.2)]) (bx' := []) (by kernel_rfl) ?_
              refine O.e (some 53) (Ev.call0 (xs := [.tmp 52]) [2] (by kernel_rfl) (by kernel_rfl) (fun w hS => haywainlaw05_own.con K a0 h0  _ _ w hS hx5_23)) (by kernel_rfl) (fun p5_23 => ?_)
              refine O.e (some 54) (Ev.callL (hh := p5_23) (xs := x5_23) (m := x5_23.length) (xs1 := [.tmp 53]) [0] rfl (by kernel_rfl) (by kernel_rfl) (fun _ q hq _ _ _ h => by obtain rfl := List.mem_singleton.1 hq; exact h) (fun w hS => box_Sort.con K x5_23 p5_23  _ _ w hS hx5_24)) (by kernel_rfl) (fun p5_24 => ?_)
              refine O.e (some 55) (Ev.mono (fun w hS => hS.rowsel [2, 0, 1] rfl (by decide)) (Ev.mono (fun w hS => hS.freezeH (h := p5_21) (xs := x5_21)) (Ev.mono (fun w hS => hS.freezeH (h := p5_24) (xs := x5_24)) (Ev.call0 (xs := [.tmp 51, .tmp 54]) [1, 0] (by kernel_rfl) (by kernel_rfl) (fun w hS => box_Same.con K x5_21 x5_24 p5_21 p5_24  _ _ w hS hx5_25))))) (by kernel_rfl) (fun _ => ?_)
              refine O.q (v := .bool true) (some 56) (Qu.eqv (u := .bool x5_25) (v := .bool true) (0, 0) [] (by kernel_rfl) (congrArg Value.bool hc6)) (by kernel_rfl) ?_
              refine O.pure 1 [] [57] [] (fr' := [(57, .bool true)]) (bx' := []) (by kernel_rfl) ?_
              refine O.e (some 58) (Ev.call0 (xs := []) [] (by kernel_rfl) (by kernel_rfl) (fun w hS => haywainlaw05_knows.con K  _ _ w hS hx5_28)) (by kernel_rfl) (fun _ => ?_)
              refine O.pure 2 [] [6] [] (fr' := [(6, .bool x5_28)]) (bx' := []) (by kernel_rfl) ?_
              refine O.nil (by kernel_rfl) ?_
              obtain rfl := Option.some.inj H
              exact J.doneS [] [] [] [] [] () (vs := [.bool x5_28]) (by kernel_rfl) (by kernel_rfl) (by kernel_rfl) (by kernel_rfl) (by kernel_rfl) (by decide)
            · refine J.region (by kernel_rfl) ?_
              refine O.pure 2 [] [0, 1, 8, 10, 30, 31] [] (fr' := [(0, .slice h0.1 a0.length h0.2), (1, .slice h1.1 a1.length h1.2), (8, .bool x3_2.2), (10, .bool x4_2.2), (30, .int .i64 x3_2.1), (31, .int .i64 x4_2.1)]) (bx' := []) (by kernel_rfl) ?_
              refine O.q (v := .bool true) (some 32) (Qu.eqv (u := .bool (x3_2.1 == x4_2.1)) (v := .bool true) (0, 0) [] (by kernel_rfl) (congrArg Value.bool hc3)) (by kernel_rfl) ?_
              refine O.pure 3 [] [0, 1, 33, 34, 35] [] (fr' := [(0, .slice h0.1 a0.length h0.2), (1, .slice h1.1 a1.length h1.2), (33, .bool true), (34, .bool x3_2.2), (35, .bool x4_2.2)]) (bx' := []) (by kernel_rfl) ?_
              refine O.q (v := .bool true) (some 36) (Qu.as (congrArg Value.bool hc4) (Qu.binT (op := .eql) (t := 4) (t' := 4) (x := .tmp 34) (y := .tmp 35) (u := .bool x3_2.2) (v := .bool x4_2.2) (by kernel_rfl) (by kernel_rfl) (by kernel_rfl) (by kernel_rfl))) (by kernel_rfl) ?_
              refine O.pure 3 [] [0, 1, 38, 39] [] (fr' := [(0, .slice h0.1 a0.length h0.2), (1, .slice h1.1 a1.length h1.2), (38, .bool true), (39, .slice h0.1 a0.length h0.2)]) (bx' := []) (by kernel_rfl) ?_
              refine O.e (some 40) (Ev.call0 (xs := [.tmp 39]) [0] (by kernel_rfl) (by kernel_rfl) (fun w hS => haywainlaw05_own.con K a0 h0  _ _ w hS hx5_10)) (by kernel_rfl) (fun p5_10 => ?_)
              refine O.pure 1 [] [0, 1, 38, 40, 41] [] (fr' := [(0, .slice h0.1 a0.length h0.2), (1, .slice h1.1 a1.length h1.2), (38, .bool true), (40, .slice p5_10.1 x5_10.length p5_10.2), (41, .slice h1.1 a1.length h1.2)]) (bx' := []) (by kernel_rfl) ?_
              refine O.e (some 42) (Ev.call0 (xs := [.tmp 41]) [1] (by kernel_rfl) (by kernel_rfl) (fun w hS => haywainlaw05_own.con K a1 h1  _ _ w hS hx5_12)) (by kernel_rfl) (fun p5_12 => ?_)
              refine O.e (some 43) (Ev.mono (fun w hS => hS.rowsel [1, 0] rfl (by decide)) (Ev.mono (fun w hS => hS.freezeH (h := p5_10) (xs := x5_10)) (Ev.mono (fun w hS => hS.freezeH (h := p5_12) (xs := x5_12)) (Ev.call0 (xs := [.tmp 40, .tmp 42]) [1, 0] (by kernel_rfl) (by kernel_rfl) (fun w hS => box_Same.con K x5_10 x5_12 p5_10 p5_12  _ _ w hS hx5_13))))) (by kernel_rfl) (fun _ => ?_)
              refine O.pure 2 [] [0, 38, 43, 44, 45] [] (fr' := [(0, .slice h0.1 a0.length h0.2), (38, .bool true), (43, .bool x5_13), (44, .slice h0.1 a0.length h0.2), (45, .slice h1.1 a1.length h1.2)]) (bx' := []) (by kernel_rfl) ?_
              refine O.e (some 46) (Ev.call0 (xs := [.tmp 44, .tmp 45]) [2, 3] (by kernel_rfl) (by kernel_rfl) (fun w hS => haywainref05_Same.con K a0 a1 h0 h1  _ _ w hS hx5_16)) (by kernel_rfl) (fun _ => ?_)
              refine O.q (v := .bool true) (some 47) (Qu.as (congrArg Value.bool hc5) (Qu.binT (op := .eql) (t := 4) (t' := 4) (x := .tmp 43) (y := .tmp 46) (u := .bool x5_13) (v := .bool x5_16) (by kernel_rfl) (by kernel_rfl) (by kernel_rfl) (by kernel_rfl))) (by kernel_rfl) ?_
              refine O.pure 3 [] [0, 49, 50] [] (fr' := [(0, .slice h0.1 a0.length h0.2), (49, .bool true), (50, .slice h0.1 a0.length h0.2)]) (bx' := []) (by kernel_rfl) ?_
              refine O.e (some 51) (Ev.call0 (xs := [.tmp 50]) [2] (by kernel_rfl) (by kernel_rfl) (fun w hS => haywainlaw05_own.con K a0 h0  _ _ w hS hx5_21)) (by kernel_rfl) (fun p5_21 => ?_)
              refine O.pure 1 [] [49, 51, 52] [] (fr' := [(49, .bool true), (51, .slice p5_21.1 x5_21.length p5_21.2), (52, .slice h0.1 a0.length h0.2)]) (bx' := []) (by kernel_rfl) ?_
              refine O.e (some 53) (Ev.call0 (xs := [.tmp 52]) [2] (by kernel_rfl) (by kernel_rfl) (fun w hS => haywainlaw05_own.con K a0 h0  _ _ w hS hx5_23)) (by kernel_rfl) (fun p5_23 => ?_)
              refine O.e (some 54) (Ev.callL (hh := p5_23) (xs := x5_23) (m := x5_23.length) (xs1 := [.tmp 53]) [0] rfl (by kernel_rfl) (by kernel_rfl) (fun _ q hq _ _ _ h => by obtain rfl := List.mem_singleton.1 hq; exact h) (fun w hS => box_Sort.con K x5_23 p5_23  _ _ w hS hx5_24)) (by kernel_rfl) (fun p5_24 => ?_)
              refine O.e (some 55) (Ev.mono (fun w hS => hS.rowsel [2, 0, 1] rfl (by decide)) (Ev.mono (fun w hS => hS.freezeH (h := p5_21) (xs := x5_21)) (Ev.mono (fun w hS => hS.freezeH (h := p5_24) (xs := x5_24)) (Ev.call0 (xs := [.tmp 51, .tmp 54]) [1, 0] (by kernel_rfl) (by kernel_rfl) (fun w hS => box_Same.con K x5_21 x5_24 p5_21 p5_24  _ _ w hS hx5_25))))) (by kernel_rfl) (fun _ => ?_)
              refine O.q (v := .bool false) (some 56) (Qu.eqv (u := .bool x5_25) (v := .bool false) (0, 0) [] (by kernel_rfl) (congrArg Value.bool hc6)) (by kernel_rfl) ?_
              refine O.pure 4 [] [6] [] (fr' := [(6, .bool false)]) (bx' := []) (by kernel_rfl) ?_
              refine O.nil (by kernel_rfl) ?_
              obtain rfl := Option.some.inj H
              exact J.doneS [] [] [] [] [] () (vs := [.bool false]) (by kernel_rfl) (by kernel_rfl) (by kernel_rfl) (by kernel_rfl) (by kernel_rfl) (by decide)
          · refine J.region (by kernel_rfl) ?_
            refine O.pure 2 [] [0, 1, 8, 10, 30, 31] [] (fr' := [(0, .slice h0.1 a0.length h0.2), (1, .slice h1.1 a1.length h1.2), (8, .bool x3_2.2), (10, .bool x4_2.2), (30, .int .i64 x3_2.1), (31, .int .i64 x4_2.1)]) (bx' := []) (by kernel_rfl) ?_
            refine O.q (v := .bool true) (some 32) (Qu.eqv (u := .bool (x3_2.1 == x4_2.1)) (v := .bool true) (0, 0) [] (by kernel_rfl) (congrArg Value.bool hc3)) (by kernel_rfl) ?_
            refine O.pure 3 [] [0, 1, 33, 34, 35] [] (fr' := [(0, .slice h0.1 a0.length h0.2), (1, .slice h1.1 a1.length h1.2), (33, .bool true), (34, .bool x3_2.2), (35, .bool x4_2.2)]) (bx' := []) (by kernel_rfl) ?_
            refine O.q (v := .bool true) (some 36) (Qu.as (congrArg Value.bool hc4) (Qu.binT (op := .eql) (t := 4) (t' := 4) (x := .tmp 34) (y := .tmp 35) (u := .bool x3_2.2) (v := .bool x4_2.2) (by kernel_rfl) (by kernel_rfl) (by kernel_rfl) (by kernel_rfl))) (by kernel_rfl) ?_
            refine O.pure 3 [] [0, 1, 38, 39] [] (fr' := [(0, .slice h0.1 a0.length h0.2), (1, .slice h1.1 a1.length h1.2), (38, .bool true), (39, .slice h0.1 a0.length h0.2)]) (bx' := []) (by kernel_rfl) ?_
            refine O.e (some 40) (Ev.call0 (xs := [.tmp 39]) [0] (by kernel_rfl) (by kernel_rfl) (fun w hS => haywainlaw05_own.con K a0 h0  _ _ w hS hx5_10)) (by kernel_rfl) (fun p5_10 => ?_)
            refine O.pure 1 [] [0, 1, 38, 40, 41] [] (fr' := [(0, .slice h0.1 a0.length h0.2), (1, .slice h1.1 a1.length h1.2), (38, .bool true), (40, .slice p5_10.1 x5_10.length p5_10.2), (41, .slice h1.1 a1.length h1.2)]) (bx' := []) (by kernel_rfl) ?_
            refine O.e (some 42) (Ev.call0 (xs := [.tmp 41]) [1] (by kernel_rfl) (by kernel_rfl) (fun w hS => haywainlaw05_own.con K a1 h1  _ _ w hS hx5_12)) (by kernel_rfl) (fun p5_12 => ?_)
            refine O.e (some 43) (Ev.mono (fun w hS => hS.rowsel [1, 0] rfl (by decide)) (Ev.mono (fun w hS => hS.freezeH (h := p5_10) (xs := x5_10)) (Ev.mono (fun w hS => hS.freezeH (h := p5_12) (xs := x5_12)) (Ev.call0 (xs := [.tmp 40, .tmp 42]) [1, 0] (by kernel_rfl) (by kernel_rfl) (fun w hS => box_Same.con K x5_10 x5_12 p5_10 p5_12  _ _ w hS hx5_13))))) (by kernel_rfl) (fun _ => ?_)
            refine O.pure 2 [] [0, 38, 43, 44, 45] [] (fr' := [(0, .slice h0.1 a0.length h0.2), (38, .bool true), (43, .bool x5_13), (44, .slice h0.1 a0.length h0.2), (45, .slice h1.1 a1.length h1.2)]) (bx' := []) (by kernel_rfl) ?_
            refine O.e (some 46) (Ev.call0 (xs := [.tmp 44, .tmp 45]) [2, 3] (by kernel_rfl) (by kernel_rfl) (fun w hS => haywainref05_Same.con K a0 a1 h0 h1  _ _ w hS hx5_16)) (by kernel_rfl) (fun _ => ?_)
            refine O.q (v := .bool false) (some 47) (Qu.as (congrArg Value.bool hc5) (Qu.binT (op := .eql) (t := 4) (t' := 4) (x := .tmp 43) (y := .tmp 46) (u := .bool x5_13) (v := .bool x5_16) (by kernel_rfl) (by kernel_rfl) (by kernel_rfl) (by kernel_rfl))) (by kernel_rfl) ?_
            refine O.pure 13 [] [6] [] (fr' := [(6, .bool false)]) (bx' := []) (by kernel_rfl) ?_
            refine O.nil (by kernel_rfl) ?_
            obtain rfl := Option.some.inj H
            exact J.doneS [] [] [] [] [] () (vs := [.bool false]) (by kernel_rfl) (by kernel_rfl) (by kernel_rfl) (by kernel_rfl) (by kernel_rfl) (by decide)
        · refine J.region (by kernel_rfl) ?_
          refine O.pure 2 [] [0, 1, 8, 10, 30, 31] [] (fr' := [(0, .slice h0.1 a0.length h0.2), (1, .slice h1.1 a1.length h1.2), (8, .bool x3_2.2), (10, .bool x4_2.2), (30, .int .i64 x3_2.1), (31, .int .i64 x4_2.1)]) (bx' := []) (by kernel_rfl) ?_
          refine O.q (v := .bool true) (some 32) (Qu.eqv (u := .bool (x3_2.1 == x4_2.1)) (v := .bool true) (0, 0) [] (by kernel_rfl) (congrArg Value.bool hc3)) (by kernel_rfl) ?_
          refine O.pure 3 [] [0, 1, 33, 34, 35] [] (fr' := [(0, .slice h0.1 a0.length h0.2), (1, .slice h1.1 a1.length h1.2), (33, .bool true), (34, .bool x3_2.2), (35, .bool x4_2.2)]) (bx' := []) (by kernel_rfl) ?_
          refine O.q (v := .bool false) (some 36) (Qu.as (congrArg Value.bool hc4) (Qu.binT (op := .eql) (t := 4) (t' := 4) (x := .tmp 34) (y := .tmp 35) (u := .bool x3_2.2) (v := .bool x4_2.2) (by kernel_rfl) (by kernel_rfl) (by kernel_rfl) (by kernel_rfl))) (by kernel_rfl) ?_
          refine O.pure 24 [] [6] [] (fr' := [(6, .bool false)]) (bx' := []) (by kernel_rfl) ?_
          refine O.nil (by kernel_rfl) ?_
          obtain rfl := Option.some.inj H
          exact J.doneS [] [] [] [] [] () (vs := [.bool false]) (by kernel_rfl) (by kernel_rfl) (by kernel_rfl) (by kernel_rfl) (by kernel_rfl) (by decide)
      · refine J.region (by kernel_rfl) ?_
        refine O.pure 2 [] [0, 1, 8, 10, 30, 31] [] (fr' := [(0, .slice h0.1 a0.length h0.2), (1, .slice h1.1 a1.length h1.2), (8, .bool x3_2.2), (10, .bool x4_2.2), (30, .int .i64 x3_2.1), (31, .int .i64 x4_2.1)]) (bx' := []) (by kernel_rfl) ?_
        refine O.q (v := .bool false) (some 32) (Qu.eqv (u := .bool (x3_2.1 == x4_2.1)) (v := .bool false) (0, 0) [] (by kernel_rfl) (congrArg Value.bool hc3)) (by kernel_rfl) ?_
        refine O.pure 28 [] [6] [] (fr' := [(6, .bool false)]) (bx' := []) (by kernel_rfl) ?_
        refine O.nil (by kernel_rfl) ?_
        obtain rfl := Option.some.inj H
        exact J.doneS [] [] [] [] [] () (vs := [.bool false]) (by kernel_rfl) (by kernel_rfl) (by kernel_rfl) (by kernel_rfl) (by kernel_rfl) (by decide)
def haywainlaw05_BoxAts.Pure : Prop := ∀ (a0 : List S40) (a1 : List S40) (a2 : Int), (a0.length * 16 ≤ 140737488351232 ∧ ∀ x_ ∈ a0, wf40 x_) → (a1.length * 16 ≤ 140737488351232 ∧ ∀ x_ ∈ a1, wf40 x_) → ((Lit.int .i64 a2).wf = true) → ∃ K, haywainlaw05_BoxAts.f K a0 a1 a2 = some true
end Go.Proofs.Ytdbeannfjjbegaa.G
