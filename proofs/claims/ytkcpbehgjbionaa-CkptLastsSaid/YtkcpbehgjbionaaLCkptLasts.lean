/- The law CkptLasts as plain Lean, with its contract; printed by a program of this session. -/
import Derived.Test.YtkcpbehgjbionaaG3
set_option linter.unusedVariables false
set_option linter.unusedSimpArgs false
namespace Go.Proofs.Ytkcpbehgjbionaa.G
open Go Go.RowKit Go.Hw
/-! ### haywain/haywainlaw14.CkptLasts: function 3 -/
def haywainlaw14_CkptLasts.f (K : Nat) (a0 : S24) (a1 : Int) : Option Bool := (haywainlaw14_great.f K a0).bind fun x1_1 => cond x1_1 ((haywainlaw14_knows.f K).bind fun x2_0 => some (x2_0)) ((ckpt_Last.f K a0).bind fun x3_1 => (haywainlaw13_As.f K a0).bind fun x4_1 => (haywainref14_Last.f K x4_1).bind fun x4_2 => cond (x3_1.1 == x4_2.1) (cond ((strOfNums x3_1.2.1).toList == (strOfNums x4_2.2.1).toList) (cond (x3_1.2.2 == x4_2.2.2) ((ckpt_File.f K a1).bind fun x5_17 => (haywainref14_File.f K a1).bind fun x5_19 => cond (x5_17.toList == x5_19.toList) ((haywainlaw14_knows.f K).bind fun x5_23 => some (x5_23)) (some (false))) (some (false))) (some (false))) (some (false)))
set_option maxRecDepth 100000 in
set_option maxHeartbeats 1000000 in
theorem haywainlaw14_CkptLasts.con (K : Nat) (a0 : S24) (a1 : Int) (h0 : Hd) (r : Bool) (X : Nat → Nat → Prop) (w : World) (hS : St X w [] [] [] [] [Rd kd70 h0.1 h0.2 a0.f0] w) (H : haywainlaw14_CkptLasts.f K a0 a1 = some r) (hr : r = true) :
    Cn Try.prog 3 [.agg #[.slice h0.1 a0.f0.length h0.2], .int .i64 a1] X w [] (fun i : Unit => .bool r) (fun i => []) (fun i => []) (fun i => []) := by
 refine Cn.of Try.func3 (by kernel_rfl) hS ?_
 unfold haywainlaw14_CkptLasts.f at H
 refine J.seq (by kernel_rfl) ?_
 refine J.region (by kernel_rfl) ?_
 refine O.e (some 2) (Ev.box (t := 24) (x := .tmp 0) (v := .agg #[.slice h0.1 a0.f0.length h0.2]) (by kernel_rfl) (by kernel_rfl)) (by kernel_rfl) (fun p0_0 => ?_)
 refine O.pure 1 [] [1, 2] [] (fr' := [(1, .int .i64 a1), (2, .pointer (some ⟨p0_0, 0, none⟩))]) (bx' := [⟨p0_0, [.slice h0.1 a0.f0.length h0.2], 24⟩]) (by kernel_rfl) ?_
 refine O.nil (by kernel_rfl) ?_
 refine J.seq (by kernel_rfl) ?_
 refine J.seq (by kernel_rfl) ?_
 obtain ⟨x1_1, hx1_1, H⟩ := bindE H
 refine J.region (by kernel_rfl) ?_
 refine O.pure 1 [(0, 0)] [1, 2, 11] [p0_0, 0] (fr' := [(1, .int .i64 a1), (2, .pointer (some ⟨p0_0, 0, none⟩)), (11, .agg #[.slice h0.1 a0.f0.length h0.2])]) (bx' := [⟨p0_0, [.slice h0.1 a0.f0.length h0.2], 24⟩]) (by kernel_rfl) ?_
 refine O.e (some 12) (Ev.call0 (xs := [.tmp 11]) [0] (by kernel_rfl) (by kernel_rfl) (fun w hS => haywainlaw14_great.con K a0 h0  _ _ w hS hx1_1)) (by kernel_rfl) (fun _ => ?_)
 refine O.nil (by kernel_rfl) ?_
 rcases condE H with ⟨hc1, H⟩ | ⟨hc1, H⟩
 ·refine J.condT (x := .tmp 12) (t := x1_1) (by kernel_rfl) (by kernel_rfl) hc1 ?_
  refine J.seq (by kernel_rfl) ?_
  obtain ⟨x2_0, hx2_0, H⟩ := bindE H
  refine J.region (by kernel_rfl) ?_
  refine O.e (some 13) (Ev.call0 (xs := []) [] (by kernel_rfl) (by kernel_rfl) (fun w hS => haywainlaw14_knows.con K  _ _ w hS hx2_0 ((Option.some.inj H).trans hr))) (by kernel_rfl) (fun _ => ?_)
  refine O.pure 1 [] [4] [] (fr' := [(4, .bool x2_0)]) (bx' := [⟨p0_0, [.slice h0.1 a0.f0.length h0.2], 24⟩]) (by kernel_rfl) ?_
  refine O.nil (by kernel_rfl) ?_
  obtain rfl := Option.some.inj H
  exact J.doneS [] [] [] [] [] () (vs := [.bool x2_0]) (by kernel_rfl) (by kernel_rfl) (by kernel_rfl) (by kernel_rfl) (by kernel_rfl) (by decide)
 ·refine J.condF (x := .tmp 12) (t := x1_1) (by kernel_rfl) (by kernel_rfl) hc1 ?_
  refine J.skip (by kernel_rfl) ?_
  refine J.seq (by kernel_rfl) ?_
  obtain ⟨x3_1, hx3_1, H⟩ := bindE H
  refine J.region (by kernel_rfl) ?_
  refine O.pure 1 [(0, 0)] [1, 2, 15] [p0_0, 0] (fr' := [(1, .int .i64 a1), (2, .pointer (some ⟨p0_0, 0, none⟩)), (15, .agg #[.slice h0.1 a0.f0.length h0.2])]) (bx' := [⟨p0_0, [.slice h0.1 a0.f0.length h0.2], 24⟩]) (by kernel_rfl) ?_
  refine O.e (some 16) (Ev.call0 (xs := [.tmp 15]) [0] (by kernel_rfl) (by kernel_rfl) (fun w hS => ckpt_Last.con K a0 h0  _ _ w hS hx3_1)) (by kernel_rfl) (fun p3_1 => ?_)
  refine O.pure 7 [] [1, 2, 5, 6, 7] [] (fr' := [(1, .int .i64 a1), (2, .pointer (some ⟨p0_0, 0, none⟩)), (5, .int .i64 x3_1.1), (6, .slice p3_1.1 x3_1.2.1.length p3_1.2), (7, .int .i64 x3_1.2.2)]) (bx' := [⟨p0_0, [.slice h0.1 a0.f0.length h0.2], 24⟩]) (by kernel_rfl) ?_
  refine O.nil (by kernel_rfl) ?_
  refine J.seq (by kernel_rfl) ?_
  obtain ⟨x4_1, hx4_1, H⟩ := bindE H
  obtain ⟨x4_2, hx4_2, H⟩ := bindE H
  refine J.region (by kernel_rfl) ?_
  refine O.pure 1 [(0, 0)] [1, 5, 6, 7, 21] [p0_0, 0] (fr' := [(1, .int .i64 a1), (5, .int .i64 x3_1.1), (6, .slice p3_1.1 x3_1.2.1.length p3_1.2), (7, .int .i64 x3_1.2.2), (21, .agg #[.slice h0.1 a0.f0.length h0.2])]) (bx' := [⟨p0_0, [.slice h0.1 a0.f0.length h0.2], 24⟩]) (by kernel_rfl) ?_
  refine O.e (some 22) (Ev.call0 (xs := [.tmp 21]) [1] (by kernel_rfl) (by kernel_rfl) (fun w hS => haywainlaw13_As.con K a0 h0  _ _ w hS hx4_1)) (by kernel_rfl) (fun p4_1 => ?_)
  refine O.e (some 23) (Ev.mono (fun w hS => hS.freezeH (h := p4_1) (xs := x4_1)) (Ev.call0 (xs := [.tmp 22]) [0] (by kernel_rfl) (by kernel_rfl) (fun w hS => haywainref14_Last.con K x4_1 p4_1  _ _ w hS hx4_2))) (by kernel_rfl) (fun p4_2 => ?_)
  refine O.pure 7 [] [1, 5, 6, 7, 8, 9, 10] [] (fr' := [(1, .int .i64 a1), (5, .int .i64 x3_1.1), (6, .slice p3_1.1 x3_1.2.1.length p3_1.2), (7, .int .i64 x3_1.2.2), (8, .int .i64 x4_2.1), (9, .slice p4_2.1 x4_2.2.1.length p4_2.2), (10, .int .i64 x4_2.2.2)]) (bx' := [⟨p0_0, [.slice h0.1 a0.f0.length h0.2], 24⟩]) (by kernel_rfl) ?_
  refine O.nil (by kernel_rfl) ?_
  refine J.seq (by kernel_rfl) ?_
  rcases condE H with ⟨hc2, H⟩ | ⟨hc2, H⟩
  ·rcases condE H with ⟨hc3, H⟩ | ⟨hc3, H⟩
   ·rcases condE H with ⟨hc4, H⟩ | ⟨hc4, H⟩
    ·obtain ⟨x5_17, hx5_17, H⟩ := bindE H
     obtain ⟨x5_19, hx5_19, H⟩ := bindE H
     rcases condE H with ⟨hc5, H⟩ | ⟨hc5, H⟩
     ·obtain ⟨x5_23, hx5_23, H⟩ := bindE H
      refine J.region (by kernel_rfl) ?_
      refine O.pure 2 [] [1, 6, 7, 9, 10, 27, 28] [] (fr' := [(1, .int .i64 a1), (6, .slice p3_1.1 x3_1.2.1.length p3_1.2), (7, .int .i64 x3_1.2.2), (9, .slice p4_2.1 x4_2.2.1.length p4_2.2), (10, .int .i64 x4_2.2.2), (27, .int .i64 x3_1.1), (28, .int .i64 x4_2.1)]) (bx' := [⟨p0_0, [.slice h0.1 a0.f0.length h0.2], 24⟩]) (by kernel_rfl) ?_
      refine O.q (v := .bool true) (some 29) (Qu.eqv (u := .bool (x3_1.1 == x4_2.1)) (v := .bool true) (0, 0) [] (by kernel_rfl) (congrArg Value.bool hc2)) (by kernel_rfl) ?_
      refine O.pure 2 [] [1, 7, 9, 10, 30, 31] [] (fr' := [(1, .int .i64 a1), (7, .int .i64 x3_1.2.2), (9, .slice p4_2.1 x4_2.2.1.length p4_2.2), (10, .int .i64 x4_2.2.2), (30, .bool true), (31, .slice p3_1.1 x3_1.2.1.length p3_1.2)]) (bx' := [⟨p0_0, [.slice h0.1 a0.f0.length h0.2], 24⟩]) (by kernel_rfl) ?_
      refine O.q (v := .string (strOfNums x3_1.2.1)) (some 32) (Qu.str (t := 27) (u := 9) (x := .tmp 31) (h := p3_1) (xs := x3_1.2.1) 2 (by kernel_rfl) (by kernel_rfl) (by kernel_rfl) (by kernel_rfl) rfl) (by kernel_rfl) ?_
      refine O.pure 1 [] [1, 7, 10, 30, 32, 33] [] (fr' := [(1, .int .i64 a1), (7, .int .i64 x3_1.2.2), (10, .int .i64 x4_2.2.2), (30, .bool true), (32, .string (strOfNums x3_1.2.1)), (33, .slice p4_2.1 x4_2.2.1.length p4_2.2)]) (bx' := [⟨p0_0, [.slice h0.1 a0.f0.length h0.2], 24⟩]) (by kernel_rfl) ?_
      refine O.q (v := .string (strOfNums x4_2.2.1)) (some 34) (Qu.str (t := 27) (u := 9) (x := .tmp 33) (h := p4_2) (xs := x4_2.2.1) 0 (by kernel_rfl) (by kernel_rfl) (by kernel_rfl) (by kernel_rfl) rfl) (by kernel_rfl) ?_
      refine O.q (v := .bool true) (some 35) (Qu.eqv (u := .bool ((strOfNums x3_1.2.1).toList == (strOfNums x4_2.2.1).toList)) (v := .bool true) (0, 0) [] (by kernel_rfl) (congrArg Value.bool hc3)) (by kernel_rfl) ?_
      refine O.pure 4 [] [1, 37, 38, 39] [] (fr' := [(1, .int .i64 a1), (37, .bool true), (38, .int .i64 x3_1.2.2), (39, .int .i64 x4_2.2.2)]) (bx' := [⟨p0_0, [.slice h0.1 a0.f0.length h0.2], 24⟩]) (by kernel_rfl) ?_
      refine O.q (v := .bool true) (some 40) (Qu.eqv (u := .bool (x3_1.2.2 == x4_2.2.2)) (v := .bool true) (0, 0) [] (by kernel_rfl) (congrArg Value.bool hc4)) (by kernel_rfl) ?_
      refine O.pure 3 [] [1, 42, 43] [] (fr' := [(1, .int .i64 a1), (42, .bool true), (43, .int .i64 a1)]) (bx' := [⟨p0_0, [.slice h0.1 a0.f0.length h0.2], 24⟩]) (by kernel_rfl) ?_
      refine O.e (some 44) (Ev.call0 (xs := [.tmp 43]) [] (by kernel_rfl) (by kernel_rfl) (fun w hS => ckpt_File.con K a1  _ _ w hS hx5_17)) (by kernel_rfl) (fun _ => ?_)
      refine O.pure 1 [] [42, 44, 45] [] (fr' := [(42, .bool true), (44, .string x5_17), (45, .int .i64 a1)]) (bx' := [⟨p0_0, [.slice h0.1 a0.f0.length h0.2], 24⟩]) (by kernel_rfl) ?_
      refine O.e (some 46) (Ev.call0 (xs := [.tmp 45]) [] (by kernel_rfl) (by kernel_rfl) (fun w hS => haywainref14_File.con K a1  _ _ w hS hx5_19)) (by kernel_rfl) (fun _ => ?_)
      refine O.q (v := .bool true) (some 47) (Qu.eqv (u := .bool (x5_17.toList == x5_19.toList)) (v := .bool true) (0, 0) [] (by kernel_rfl) (congrArg Value.bool hc5)) (by kernel_rfl) ?_
      refine O.pure 2 [] [49] [] (fr' := [(49, .bool true)]) (bx' := [⟨p0_0, [.slice h0.1 a0.f0.length h0.2], 24⟩]) (by kernel_rfl) ?_
      refine O.e (some 50) (Ev.call0 (xs := []) [] (by kernel_rfl) (by kernel_rfl) (fun w hS => haywainlaw14_knows.con K  _ _ w hS hx5_23 ((Option.some.inj H).trans hr))) (by kernel_rfl) (fun _ => ?_)
      refine O.pure 2 [] [4] [] (fr' := [(4, .bool x5_23)]) (bx' := [⟨p0_0, [.slice h0.1 a0.f0.length h0.2], 24⟩]) (by kernel_rfl) ?_
      refine O.nil (by kernel_rfl) ?_
      obtain rfl := Option.some.inj H
      exact J.doneS [] [] [] [] [] () (vs := [.bool x5_23]) (by kernel_rfl) (by kernel_rfl) (by kernel_rfl) (by kernel_rfl) (by kernel_rfl) (by decide)
     ·obtain rfl := Option.some.inj H
      cases hr
    ·obtain rfl := Option.some.inj H
     cases hr
   ·obtain rfl := Option.some.inj H
    cases hr
  ·obtain rfl := Option.some.inj H
   cases hr
def haywainlaw14_CkptLasts.Pure : Prop := ∀ (a0 : S24) (a1 : Int), (wf24 a0) → ((Lit.int .i64 a1).wf = true) → ∃ K, haywainlaw14_CkptLasts.f K a0 a1 = some true
end Go.Proofs.Ytkcpbehgjbionaa.G
