/- The law CkptSaves as plain Lean, with its contract; printed by a program of this session. -/
import Derived.Test.YtkcpbehgjbionaaG3
set_option linter.unusedVariables false
set_option linter.unusedSimpArgs false
namespace Go.Proofs.Ytkcpbehgjbionaa.G
open Go Go.RowKit Go.Hw
/-! ### haywain/haywainlaw14.CkptSaves: function 4 -/
def haywainlaw14_CkptSaves.f (K : Nat) (a0 : S24) (a1 : Int) (a2 : List Int) : Option Bool := (haywainlaw14_great.f K a0).bind fun x1_1 => cond x1_1 ((haywainlaw14_knows.f K).bind fun x2_0 => some (x2_0)) (cond (decide ((a2.length : Int) > 10000)) ((haywainlaw14_knows.f K).bind fun x2_0 => some (x2_0)) ((appO 1 ([] : List Int) a2).bind fun y3_4 => (ckpt_Save.f K a0 a1 (([] : List Int) ++ a2)).bind fun x3_5 => (haywainlaw13_As.f K a0).bind fun x4_1 => (haywainref14_Save.f K x4_1 a1 a2).bind fun x4_4 => (haywainlaw14_as.f K x3_5.1).bind fun x5_1 => (haywainref14_SameChanges.f K x5_1 x4_4.1).bind fun x5_3 => cond x5_3 (cond (x3_5.2 == x4_4.2) ((haywainlaw14_knows.f K).bind fun x5_10 => some (x5_10)) (some (false))) (some (false))))
set_option maxRecDepth 100000 in
set_option maxHeartbeats 1000000 in
theorem haywainlaw14_CkptSaves.con (K : Nat) (a0 : S24) (a1 : Int) (a2 : List Int) (h0 : Hd) (h1 : Hd) (r : Bool) (X : Nat → Nat → Prop) (w : World) (hS : St X w [] [] [] [] [Rd kd70 h0.1 h0.2 a0.f0, Rd (Kd.int .u8) h1.1 h1.2 a2] w) (H : haywainlaw14_CkptSaves.f K a0 a1 a2 = some r) (hr : r = true) :
    Cn Try.prog 4 [.agg #[.slice h0.1 a0.f0.length h0.2], .int .i64 a1, .slice h1.1 a2.length h1.2] X w [] (fun i : Unit => .bool r) (fun i => []) (fun i => []) (fun i => []) := by
 refine Cn.of Try.func4 (by kernel_rfl) hS ?_
 unfold haywainlaw14_CkptSaves.f at H
 refine J.seq (by kernel_rfl) ?_
 refine J.region (by kernel_rfl) ?_
 refine O.e (some 3) (Ev.box (t := 24) (x := .tmp 0) (v := .agg #[.slice h0.1 a0.f0.length h0.2]) (by kernel_rfl) (by kernel_rfl)) (by kernel_rfl) (fun p0_0 => ?_)
 refine O.pure 1 [] [1, 2, 3] [] (fr' := [(1, .int .i64 a1), (2, .slice h1.1 a2.length h1.2), (3, .pointer (some ⟨p0_0, 0, none⟩))]) (bx' := [⟨p0_0, [.slice h0.1 a0.f0.length h0.2], 24⟩]) (by kernel_rfl) ?_
 refine O.nil (by kernel_rfl) ?_
 refine J.seq (by kernel_rfl) ?_
 refine J.seq (by kernel_rfl) ?_
 obtain ⟨x1_1, hx1_1, H⟩ := bindE H
 rcases condE H with ⟨hc1, H⟩ | ⟨hc1, H⟩
 ·refine J.region (by kernel_rfl) ?_
  refine O.pure 1 [(0, 0)] [1, 2, 3, 11] [p0_0, 0] (fr' := [(1, .int .i64 a1), (2, .slice h1.1 a2.length h1.2), (3, .pointer (some ⟨p0_0, 0, none⟩)), (11, .agg #[.slice h0.1 a0.f0.length h0.2])]) (bx' := [⟨p0_0, [.slice h0.1 a0.f0.length h0.2], 24⟩]) (by kernel_rfl) ?_
  refine O.e (some 12) (Ev.call0 (xs := [.tmp 11]) [0] (by kernel_rfl) (by kernel_rfl) (fun w hS => haywainlaw14_great.con K a0 h0  _ _ w hS hx1_1)) (by kernel_rfl) (fun _ => ?_)
  refine O.q (v := .bool true) (some 13) (Qu.eqv (u := .bool x1_1) (v := .bool true) (0, 0) [] (by kernel_rfl) (congrArg Value.bool hc1)) (by kernel_rfl) ?_
  refine O.pure 4 [] [1, 2, 3, 17] [] (fr' := [(1, .int .i64 a1), (2, .slice h1.1 a2.length h1.2), (3, .pointer (some ⟨p0_0, 0, none⟩)), (17, .bool true)]) (bx' := [⟨p0_0, [.slice h0.1 a0.f0.length h0.2], 24⟩]) (by kernel_rfl) ?_
  refine O.nil (by kernel_rfl) ?_
  refine J.cond (o := .tmp 17) true (by kernel_rfl) (by kernel_rfl) ?_
  refine J.seq (by kernel_rfl) ?_
  obtain ⟨x2_0, hx2_0, H⟩ := bindE H
  refine J.region (by kernel_rfl) ?_
  refine O.e (some 18) (Ev.call0 (xs := []) [] (by kernel_rfl) (by kernel_rfl) (fun w hS => haywainlaw14_knows.con K  _ _ w hS hx2_0 ((Option.some.inj H).trans hr))) (by kernel_rfl) (fun _ => ?_)
  refine O.pure 1 [] [6] [] (fr' := [(6, .bool x2_0)]) (bx' := [⟨p0_0, [.slice h0.1 a0.f0.length h0.2], 24⟩]) (by kernel_rfl) ?_
  refine O.nil (by kernel_rfl) ?_
  obtain rfl := Option.some.inj H
  exact J.doneS [] [] [] [] [] () (vs := [.bool x2_0]) (by kernel_rfl) (by kernel_rfl) (by kernel_rfl) (by kernel_rfl) (by kernel_rfl) (by decide)
 ·refine J.region (by kernel_rfl) ?_
  refine O.pure 1 [(0, 0)] [1, 2, 3, 11] [p0_0, 0] (fr' := [(1, .int .i64 a1), (2, .slice h1.1 a2.length h1.2), (3, .pointer (some ⟨p0_0, 0, none⟩)), (11, .agg #[.slice h0.1 a0.f0.length h0.2])]) (bx' := [⟨p0_0, [.slice h0.1 a0.f0.length h0.2], 24⟩]) (by kernel_rfl) ?_
  refine O.e (some 12) (Ev.call0 (xs := [.tmp 11]) [0] (by kernel_rfl) (by kernel_rfl) (fun w hS => haywainlaw14_great.con K a0 h0  _ _ w hS hx1_1)) (by kernel_rfl) (fun _ => ?_)
  refine O.q (v := .bool false) (some 13) (Qu.eqv (u := .bool x1_1) (v := .bool false) (0, 0) [] (by kernel_rfl) (congrArg Value.bool hc1)) (by kernel_rfl) ?_
  refine O.pure 4 [] [1, 2, 3, 17] [] (fr' := [(1, .int .i64 a1), (2, .slice h1.1 a2.length h1.2), (3, .pointer (some ⟨p0_0, 0, none⟩)), (17, .bool (decide ((a2.length : Int) > 10000)))]) (bx' := [⟨p0_0, [.slice h0.1 a0.f0.length h0.2], 24⟩]) (by kernel_rfl) ?_
  refine O.nil (by kernel_rfl) ?_
  rcases condE H with ⟨hc2, H⟩ | ⟨hc2, H⟩
  ·refine J.condT (x := .tmp 17) (t := (decide ((a2.length : Int) > 10000))) (by kernel_rfl) (by kernel_rfl) hc2 ?_
   refine J.seq (by kernel_rfl) ?_
   obtain ⟨x2_0, hx2_0, H⟩ := bindE H
   refine J.region (by kernel_rfl) ?_
   refine O.e (some 18) (Ev.call0 (xs := []) [] (by kernel_rfl) (by kernel_rfl) (fun w hS => haywainlaw14_knows.con K  _ _ w hS hx2_0 ((Option.some.inj H).trans hr))) (by kernel_rfl) (fun _ => ?_)
   refine O.pure 1 [] [6] [] (fr' := [(6, .bool x2_0)]) (bx' := [⟨p0_0, [.slice h0.1 a0.f0.length h0.2], 24⟩]) (by kernel_rfl) ?_
   refine O.nil (by kernel_rfl) ?_
   obtain rfl := Option.some.inj H
   exact J.doneS [] [] [] [] [] () (vs := [.bool x2_0]) (by kernel_rfl) (by kernel_rfl) (by kernel_rfl) (by kernel_rfl) (by kernel_rfl) (by decide)
  ·refine J.condF (x := .tmp 17) (t := (decide ((a2.length : Int) > 10000))) (by kernel_rfl) (by kernel_rfl) hc2 ?_
   refine J.skip (by kernel_rfl) ?_
   refine J.seq (by kernel_rfl) ?_
   obtain ⟨y3_4, hy3_4, H⟩ := bindE H
   have hy3_4a := (appE hy3_4).1
   obtain ⟨x3_5, hx3_5, H⟩ := bindE H
   refine J.drawS (by kernel_rfl) [(0, some 20, .agg #[.slice h0.1 a0.f0.length h0.2]), (1, some 21, .int .i64 a1), (3, some 23, .slice h1.1 a2.length h1.2)] ([0, 1, 3] ++ []) (by kernel_rfl) ?_
   refine D.mid (cs := [2]) [0, 1, 3] [] [(0, 0)] [p0_0, 0] (by kernel_rfl) (by kernel_rfl) trivial (by kernel_rfl) ⟨?_, trivial⟩
   refine EvStep.mk (some 22) (new := fun p3_2 => []) ([0, 1, 3] ++ []) (by kernel_rfl) (Ev.lit (t := 27) (len := 0) (parts := #[]) (ps := []) (cs := []) (e := 5) (Kd.int .u8) ([] : List Int) (by kernel_rfl) (by kernel_rfl) (by kernel_rfl) (by kernel_rfl) (by kernel_rfl) (by decide) (fun w' hφ => (Els.nil _ _ _))) (fun p3_2 => by kernel_rfl) (fun p3_2 => ?_)
   refine D.mid (cs := [4]) [0, 1, 3] [] [(0, 0)] [p0_0, 0] (by kernel_rfl) (by kernel_rfl) trivial (by kernel_rfl) ⟨?_, trivial⟩
   refine EvStep.mk (some 24) (new := fun p3_4 => []) ([0, 1] ++ []) (by kernel_rfl) (Ev.appSl (d := (Kd.int .u8)) (ys := a2) (A := h1.1) (c := h1.2) (x := .tmp 22) (y := .tmp 23) (t := 27) (bytes := 1) 1 (by kernel_rfl) (by kernel_rfl) (by kernel_rfl) rfl (by kernel_rfl) (by decide) hy3_4a) (fun p3_4 => by kernel_rfl) (fun p3_4 => ?_)
   refine D.mid (cs := [5]) [0, 1] [] [(0, 0)] [p0_0, 0] (by kernel_rfl) (by kernel_rfl) trivial (by kernel_rfl) ⟨?_, trivial⟩
   refine EvStep.mk (some 25) (new := fun p3_5 => [(6, some 19, .tuple #[.slice p3_5.1 x3_5.1.length p3_5.2, .int .i64 x3_5.2]), (7, some 26, .slice p3_5.1 x3_5.1.length p3_5.2), (8, some 27, .int .i64 x3_5.2), (9, some 7, .slice p3_5.1 x3_5.1.length p3_5.2), (10, some 8, .int .i64 x3_5.2)]) ([6, 7, 8, 9, 10] ++ []) (by kernel_rfl) (Ev.mono (fun w hS => hS.freezeH (h := p3_4) (xs := (([] : List Int) ++ a2))) (Ev.call0 (xs := [.tmp 20, .tmp 21, .tmp 24]) [1, 0] (by kernel_rfl) (by kernel_rfl) (fun w hS => ckpt_Save.con K a0 a1 (([] : List Int) ++ a2) h0 p3_4  _ _ w hS hx3_5))) (fun p3_5 => by kernel_rfl) (fun p3_5 => ?_)
   refine D.fin (fr' := [(1, .int .i64 a1), (2, .slice h1.1 a2.length h1.2), (3, .pointer (some ⟨p0_0, 0, none⟩)), (7, .slice p3_5.1 x3_5.1.length p3_5.2), (8, .int .i64 x3_5.2)]) [6, 7, 8, 9, 10] [] [] [] [1, 2, 3, 7, 8] (by kernel_rfl) (by kernel_rfl) trivial (by kernel_rfl) ?_
   refine J.seq (by kernel_rfl) ?_
   obtain ⟨x4_1, hx4_1, H⟩ := bindE H
   obtain ⟨x4_4, hx4_4, H⟩ := bindE H
   refine J.region (by kernel_rfl) ?_
   refine O.pure 1 [(0, 0)] [1, 2, 7, 8, 29] [p0_0, 0] (fr' := [(1, .int .i64 a1), (2, .slice h1.1 a2.length h1.2), (7, .slice p3_5.1 x3_5.1.length p3_5.2), (8, .int .i64 x3_5.2), (29, .agg #[.slice h0.1 a0.f0.length h0.2])]) (bx' := [⟨p0_0, [.slice h0.1 a0.f0.length h0.2], 24⟩]) (by kernel_rfl) ?_
   refine O.e (some 30) (Ev.call0 (xs := [.tmp 29]) [1] (by kernel_rfl) (by kernel_rfl) (fun w hS => haywainlaw13_As.con K a0 h0  _ _ w hS hx4_1)) (by kernel_rfl) (fun p4_1 => ?_)
   refine O.pure 2 [] [7, 8, 30, 31, 32] [] (fr' := [(7, .slice p3_5.1 x3_5.1.length p3_5.2), (8, .int .i64 x3_5.2), (30, .slice p4_1.1 x4_1.length p4_1.2), (31, .int .i64 a1), (32, .slice h1.1 a2.length h1.2)]) (bx' := [⟨p0_0, [.slice h0.1 a0.f0.length h0.2], 24⟩]) (by kernel_rfl) ?_
   refine O.e (some 33) (Ev.mono (fun w hS => hS.freezeH (h := p4_1) (xs := x4_1)) (Ev.call0 (xs := [.tmp 30, .tmp 31, .tmp 32]) [0, 3] (by kernel_rfl) (by kernel_rfl) (fun w hS => haywainref14_Save.con K x4_1 a1 a2 p4_1 h1  _ _ w hS hx4_4))) (by kernel_rfl) (fun p4_4 => ?_)
   refine O.pure 5 [] [7, 8, 9, 10] [] (fr' := [(7, .slice p3_5.1 x3_5.1.length p3_5.2), (8, .int .i64 x3_5.2), (9, .slice p4_4.1 x4_4.1.length p4_4.2), (10, .int .i64 x4_4.2)]) (bx' := [⟨p0_0, [.slice h0.1 a0.f0.length h0.2], 24⟩]) (by kernel_rfl) ?_
   refine O.nil (by kernel_rfl) ?_
   refine J.seq (by kernel_rfl) ?_
   obtain ⟨x5_1, hx5_1, H⟩ := bindE H
   obtain ⟨x5_3, hx5_3, H⟩ := bindE H
   rcases condE H with ⟨hc3, H⟩ | ⟨hc3, H⟩
   ·rcases condE H with ⟨hc4, H⟩ | ⟨hc4, H⟩
    ·obtain ⟨x5_10, hx5_10, H⟩ := bindE H
     refine J.region (by kernel_rfl) ?_
     refine O.pure 1 [] [8, 9, 10, 36] [] (fr' := [(8, .int .i64 x3_5.2), (9, .slice p4_4.1 x4_4.1.length p4_4.2), (10, .int .i64 x4_4.2), (36, .slice p3_5.1 x3_5.1.length p3_5.2)]) (bx' := [⟨p0_0, [.slice h0.1 a0.f0.length h0.2], 24⟩]) (by kernel_rfl) ?_
     refine O.e (some 37) (Ev.mono (fun w hS => hS.rowsel [1, 0] rfl (by decide)) (Ev.mono (fun w hS => hS.freezeH (h := p3_5) (xs := x3_5.1)) (Ev.call0 (xs := [.tmp 36]) [0] (by kernel_rfl) (by kernel_rfl) (fun w hS => haywainlaw14_as.con K x3_5.1 p3_5  _ _ w hS hx5_1)))) (by kernel_rfl) (fun p5_1 => ?_)
     refine O.pure 1 [] [8, 10, 37, 38] [] (fr' := [(8, .int .i64 x3_5.2), (10, .int .i64 x4_4.2), (37, .slice p5_1.1 x5_1.length p5_1.2), (38, .slice p4_4.1 x4_4.1.length p4_4.2)]) (bx' := [⟨p0_0, [.slice h0.1 a0.f0.length h0.2], 24⟩]) (by kernel_rfl) ?_
     refine O.e (some 39) (Ev.callLb (xs1 := [.tmp 37, .tmp 38]) [1, 0] (fun w hS => ((hS.rowsel [0, 1] rfl (by decide)).freezeL (hh := p5_1) (m := x5_1.length) (xs := x5_1) rfl).freezeL (hh := p4_4) (m := x4_4.1.length) (xs := x4_4.1) rfl) (by kernel_rfl) (by kernel_rfl) (fun _ q hq => by cases hq) (fun w hS => haywainref14_SameChanges.con K x5_1 x4_4.1 p5_1 p4_4  _ _ w hS hx5_3)) (by kernel_rfl) (fun _ => ?_)
     refine O.q (v := .bool true) (some 40) (Qu.eqv (u := .bool x5_3) (v := .bool true) (0, 0) [] (by kernel_rfl) (congrArg Value.bool hc3)) (by kernel_rfl) ?_
     refine O.pure 2 [] [40, 41, 42] [] (fr' := [(40, .bool true), (41, .int .i64 x3_5.2), (42, .int .i64 x4_4.2)]) (bx' := [⟨p0_0, [.slice h0.1 a0.f0.length h0.2], 24⟩]) (by kernel_rfl) ?_
     refine O.q (v := .bool true) (some 43) (Qu.eqv (u := .bool (x3_5.2 == x4_4.2)) (v := .bool true) (0, 0) [] (by kernel_rfl) (congrArg Value.bool hc4)) (by kernel_rfl) ?_
     refine O.pure 2 [] [45] [] (fr' := [(45, .bool true)]) (bx' := [⟨p0_0, [.slice h0.1 a0.f0.length h0.2], 24⟩]) (by kernel_rfl) ?_
     refine O.e (some 46) (Ev.call0 (xs := []) [] (by kernel_rfl) (by kernel_rfl) (fun w hS => haywainlaw14_knows.con K  _ _ w hS hx5_10 ((Option.some.inj H).trans hr))) (by kernel_rfl) (fun _ => ?_)
     refine O.pure 2 [] [6] [] (fr' := [(6, .bool x5_10)]) (bx' := [⟨p0_0, [.slice h0.1 a0.f0.length h0.2], 24⟩]) (by kernel_rfl) ?_
     refine O.nil (by kernel_rfl) ?_
     obtain rfl := Option.some.inj H
     exact J.doneS [] [] [] [] [] () (vs := [.bool x5_10]) (by kernel_rfl) (by kernel_rfl) (by kernel_rfl) (by kernel_rfl) (by kernel_rfl) (by decide)
    ·obtain rfl := Option.some.inj H
     cases hr
   ·obtain rfl := Option.some.inj H
    cases hr
def haywainlaw14_CkptSaves.Pure : Prop := ∀ (a0 : S24) (a1 : Int) (a2 : List Int), (wf24 a0) → ((Lit.int .i64 a1).wf = true) → (a2.length * 1 ≤ 140737488351232 ∧ ∀ x_ ∈ a2, (Lit.int .u8 x_).wf = true) → ∃ K, haywainlaw14_CkptSaves.f K a0 a1 a2 = some true
end Go.Proofs.Ytkcpbehgjbionaa.G
