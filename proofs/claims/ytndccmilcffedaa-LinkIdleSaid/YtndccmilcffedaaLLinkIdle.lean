/- The law LinkIdle as plain Lean, with its contract; printed by a program of this session. -/
import Derived.Test.YtndccmilcffedaaG1
set_option linter.unusedVariables false
set_option linter.unusedSimpArgs false
namespace Go.Proofs.Ytndccmilcffedaa.G
open Go Go.RowKit Go.Hw
/-! ### haywain/haywainlaw16.LinkIdle: function 8 -/
def haywainlaw16_LinkIdle.l12 (K : Nat) (a1 : Int) : Nat → (Int × Int × Int × Int × (List S71) × Bool) → Option ((Int × Int × Int × (List S71) × Bool) ⊕ Bool)
  | 0, _ => none
  | k + 1, s12 => (remO a1 10).bind fun z7_2 => cond (decide (s12.1 < (IntKind.wrap .i64 (a1.tmod 10)))) ((link_Tick.f K (⟨s12.2.1, s12.2.2.1, s12.2.2.2.1, s12.2.2.2.2.1, s12.2.2.2.2.2⟩ : S24)).bind fun x9_1 => cond ((x9_1.2.length : Int) != 0) (some (.inr (false))) (haywainlaw16_LinkIdle.l12 K a1 k ((IntKind.wrap .i64 (s12.1 + 1)), x9_1.1.f0, x9_1.1.f1, x9_1.1.f2, x9_1.1.f3, x9_1.1.f4))) (some (.inl (s12.2.1, s12.2.2.1, s12.2.2.2.1, s12.2.2.2.2.1, s12.2.2.2.2.2)))
def haywainlaw16_LinkIdle.f (K : Nat) (a0 : S24) (a1 : Int) : Option Bool := cond (decide ((a0.f3.length : Int) > 300)) ((haywainlaw16_knows.f K).bind fun x2_0 => some (x2_0)) ((haywainlaw16_as.f K a0).bind fun x1_6 => (haywainref16_Right.f K x1_6).bind fun x1_7 => cond (!x1_7) ((haywainlaw16_knows.f K).bind fun x2_0 => some (x2_0)) ((haywainlaw16_as.f K (⟨a0.f0, a0.f1, a0.f2, ([] : List S71), false⟩ : S24)).bind fun x5_1 => (haywainlaw16_LinkIdle.l12 K a1 K (0, a0.f0, a0.f1, a0.f2, ([] : List S71), false) : Option ((Int × Int × Int × (List S71) × Bool) ⊕ Bool)).bind (Sum.elim (fun o3 : Int × Int × Int × (List S71) × Bool => (haywainlaw16_as.f K (⟨o3.1, o3.2.1, o3.2.2.1, o3.2.2.2.1, o3.2.2.2.2⟩ : S24)).bind fun x14_1 => (haywainref16_Same.f K x14_1 (⟨x5_1.f0, x5_1.f1, o3.2.2.1, x5_1.f3, x5_1.f4⟩ : S29)).bind fun x14_3 => cond x14_3 ((haywainlaw16_knows.f K).bind fun x14_5 => some (x14_5)) (some (false))) some)))
set_option maxRecDepth 100000 in
set_option maxHeartbeats 1000000 in
theorem haywainlaw16_LinkIdle.con (K : Nat) (a0 : S24) (a1 : Int) (h0 : Hd) (r : Bool) (X : Nat → Nat → Prop) (w : World) (hS : St X w [] [] [] [] [Rd kd71 h0.1 h0.2 a0.f3] w) (H : haywainlaw16_LinkIdle.f K a0 a1 = some r) :
    Cn Try.prog 8 [.agg #[.int .i64 a0.f0, .int .i64 a0.f1, .int .i64 a0.f2, .slice h0.1 a0.f3.length h0.2, .bool a0.f4], .int .u8 a1] X w [] (fun i : Unit => .bool r) (fun i => []) (fun i => []) (fun i => []) := by
  refine Cn.of Try.func8 (by kernel_rfl) hS ?_
  unfold haywainlaw16_LinkIdle.f at H
  refine J.seq (by kernel_rfl) ?_
  refine J.region (by kernel_rfl) ?_
  refine O.e (some 2) (Ev.box (t := 24) (x := .tmp 0) (v := .agg #[.int .i64 a0.f0, .int .i64 a0.f1, .int .i64 a0.f2, .slice h0.1 a0.f3.length h0.2, .bool a0.f4]) (by kernel_rfl) (by kernel_rfl)) (by kernel_rfl) (fun p0_0 => ?_)
  refine O.pure 1 [] [1, 2] [] (fr' := [(1, .int .u8 a1), (2, .pointer (some ⟨p0_0, 0, none⟩))]) (bx' := [⟨p0_0, [.int .i64 a0.f0, .int .i64 a0.f1, .int .i64 a0.f2, .slice h0.1 a0.f3.length h0.2, .bool a0.f4], 24⟩]) (by kernel_rfl) ?_
  refine O.nil (by kernel_rfl) ?_
  refine J.seq (by kernel_rfl) ?_
  refine J.seq (by kernel_rfl) ?_
  rcases condE H with ⟨hc1, H⟩ | ⟨hc1, H⟩
  · refine J.region (by kernel_rfl) ?_
    refine O.pure 3 [(0, 3)] [1, 2, 11] [p0_0, 3] (fr' := [(1, .int .u8 a1), (2, .pointer (some ⟨p0_0, 0, none⟩)), (11, .int .i64 (a0.f3.length : Int))]) (bx' := [⟨p0_0, [.int .i64 a0.f0, .int .i64 a0.f1, .int .i64 a0.f2, .slice h0.1 a0.f3.length h0.2, .bool a0.f4], 24⟩]) (by kernel_rfl) ?_
    refine O.q (v := .bool true) (some 12) (Qu.eqv (u := .bool (decide ((a0.f3.length : Int) > 300))) (v := .bool true) (0, 0) [] (by kernel_rfl) (congrArg Value.bool hc1)) (by kernel_rfl) ?_
    refine O.pure 6 [] [1, 2, 18] [] (fr' := [(1, .int .u8 a1), (2, .pointer (some ⟨p0_0, 0, none⟩)), (18, .bool true)]) (bx' := [⟨p0_0, [.int .i64 a0.f0, .int .i64 a0.f1, .int .i64 a0.f2, .slice h0.1 a0.f3.length h0.2, .bool a0.f4], 24⟩]) (by kernel_rfl) ?_
    refine O.nil (by kernel_rfl) ?_
    refine J.cond (o := .tmp 18) true (by kernel_rfl) (by kernel_rfl) ?_
    refine J.seq (by kernel_rfl) ?_
    obtain ⟨x2_0, hx2_0, H⟩ := bindE H
    refine J.region (by kernel_rfl) ?_
    refine O.e (some 19) (Ev.call0 (xs := []) [] (by kernel_rfl) (by kernel_rfl) (fun w hS => haywainlaw16_knows.con K  _ _ w hS hx2_0)) (by kernel_rfl) (fun _ => ?_)
    refine O.pure 1 [] [4] [] (fr' := [(4, .bool x2_0)]) (bx' := [⟨p0_0, [.int .i64 a0.f0, .int .i64 a0.f1, .int .i64 a0.f2, .slice h0.1 a0.f3.length h0.2, .bool a0.f4], 24⟩]) (by kernel_rfl) ?_
    refine O.nil (by kernel_rfl) ?_
    obtain rfl := Option.some.inj H
    exact J.doneS [] [] [] [] [] () (vs := [.bool x2_0]) (by kernel_rfl) (by kernel_rfl) (by kernel_rfl) (by kernel_rfl) (by kernel_rfl) (by decide)
  · obtain ⟨x1_6, hx1_6, H⟩ := bindE H
    obtain ⟨x1_7, hx1_7, H⟩ := bindE H
    refine J.region (by kernel_rfl) ?_
    refine O.pure 3 [(0, 3)] [1, 2, 11] [p0_0, 3] (fr' := [(1, .int .u8 a1), (2, .pointer (some ⟨p0_0, 0, none⟩)), (11, .int .i64 (a0.f3.length : Int))]) (bx' := [⟨p0_0, [.int .i64 a0.f0, .int .i64 a0.f1, .int .i64 a0.f2, .slice h0.1 a0.f3.length h0.2, .bool a0.f4], 24⟩]) (by kernel_rfl) ?_
    refine O.q (v := .bool false) (some 12) (Qu.eqv (u := .bool (decide ((a0.f3.length : Int) > 300))) (v := .bool false) (0, 0) [] (by kernel_rfl) (congrArg Value.bool hc1)) (by kernel_rfl) ?_
    refine O.pure 2 [(0, 0)] [1, 2, 13, 14] [p0_0, 0] (fr' := [(1, .int .u8 a1), (2, .pointer (some ⟨p0_0, 0, none⟩)), (13, .bool false), (14, .agg #[.int .i64 a0.f0, .int .i64 a0.f1, .int .i64 a0.f2, .slice h0.1 a0.f3.length h0.2, .bool a0.f4])]) (bx' := [⟨p0_0, [.int .i64 a0.f0, .int .i64 a0.f1, .int .i64 a0.f2, .slice h0.1 a0.f3.length h0.2, .bool a0.f4], 24⟩]) (by kernel_rfl) ?_
    refine O.e (some 15) (Ev.call0 (xs := [.tmp 14]) [0] (by kernel_rfl) (by kernel_rfl) (fun w hS => haywainlaw16_as.con K a0 h0  _ _ w hS hx1_6)) (by kernel_rfl) (fun p1_6 => ?_)
    refine O.e (some 16) (Ev.mono (fun w hS => hS.freezeH) (Ev.call0 (xs := [.tmp 15]) [0] (by kernel_rfl) (by kernel_rfl) (fun w hS => haywainref16_Right.con K x1_6 p1_6  _ _ w hS hx1_7))) (by kernel_rfl) (fun _ => ?_)
    refine O.pure 2 [] [1, 2, 18] [] (fr' := [(1, .int .u8 a1), (2, .pointer (some ⟨p0_0, 0, none⟩)), (18, .bool (!x1_7))]) (bx' := [⟨p0_0, [.int .i64 a0.f0, .int .i64 a0.f1, .int .i64 a0.f2, .slice h0.1 a0.f3.length h0.2, .bool a0.f4], 24⟩]) (by kernel_rfl) ?_
    refine O.nil (by kernel_rfl) ?_
    rcases condE H with ⟨hc2, H⟩ | ⟨hc2, H⟩
    · refine J.condT (x := .tmp 18) (t := (!x1_7)) (by kernel_rfl) (by kernel_rfl) hc2 ?_
      refine J.seq (by kernel_rfl) ?_
      obtain ⟨x2_0, hx2_0, H⟩ := bindE H
      refine J.region (by kernel_rfl) ?_
      refine O.e (some 19) (Ev.call0 (xs := []) [] (by kernel_rfl) (by kernel_rfl) (fun w hS => haywainlaw16_knows.con K  _ _ w hS hx2_0)) (by kernel_rfl) (fun _ => ?_)
      refine O.pure 1 [] [4] [] (fr' := [(4, .bool x2_0)]) (bx' := [⟨p0_0, [.int .i64 a0.f0, .int .i64 a0.f1, .int .i64 a0.f2, .slice h0.1 a0.f3.length h0.2, .bool a0.f4], 24⟩]) (by kernel_rfl) ?_
      refine O.nil (by kernel_rfl) ?_
      obtain rfl := Option.some.inj H
      exact J.doneS [] [] [] [] [] () (vs := [.bool x2_0]) (by kernel_rfl) (by kernel_rfl) (by kernel_rfl) (by kernel_rfl) (by kernel_rfl) (by decide)
    · refine J.condF (x := .tmp 18) (t := (!x1_7)) (by kernel_rfl) (by kernel_rfl) hc2 ?_
      refine J.skip (by kernel_rfl) ?_
      refine J.seq (by kernel_rfl) ?_
      refine J.region (by kernel_rfl) ?_
      refine O.pure 2 [(0, 3)] [1, 2] [p0_0, 3] (fr' := [(1, .int .u8 a1), (2, .pointer (some ⟨p0_0, 0, none⟩))]) (bx' := [⟨p0_0, [.int .i64 a0.f0, .int .i64 a0.f1, .int .i64 a0.f2, .slice none 0 0, .bool a0.f4], 24⟩]) (by kernel_rfl) ?_
      refine O.nil (by kernel_rfl) ?_
      refine J.seq (by kernel_rfl) ?_
      refine J.region (by kernel_rfl) ?_
      refine O.pure 2 [(0, 4)] [1, 2] [p0_0, 4] (fr' := [(1, .int .u8 a1), (2, .pointer (some ⟨p0_0, 0, none⟩))]) (bx' := [⟨p0_0, [.int .i64 a0.f0, .int .i64 a0.f1, .int .i64 a0.f2, .slice none 0 0, .bool false], 24⟩]) (by kernel_rfl) ?_
      refine O.nil (by kernel_rfl) ?_
      refine J.seq (by kernel_rfl) ?_
      obtain ⟨x5_1, hx5_1, H⟩ := bindE H
      refine J.region (by kernel_rfl) ?_
      refine O.pure 1 [(0, 0)] [1, 2, 22] [p0_0, 0] (fr' := [(1, .int .u8 a1), (2, .pointer (some ⟨p0_0, 0, none⟩)), (22, .agg #[.int .i64 a0.f0, .int .i64 a0.f1, .int .i64 a0.f2, .slice none 0 0, .bool false])]) (bx' := [⟨p0_0, [.int .i64 a0.f0, .int .i64 a0.f1, .int .i64 a0.f2, .slice none 0 0, .bool false], 24⟩]) (by kernel_rfl) ?_
      refine O.e (some 23) (Ev.mono (fun w hS => hS.add (fun w' _ => Rd.nil kd71 w')) (Ev.call0 (xs := [.tmp 22]) [0] (by kernel_rfl) (by kernel_rfl) (fun w hS => haywainlaw16_as.con K (⟨a0.f0, a0.f1, a0.f2, ([] : List S71), false⟩ : S24) (none, 0)  _ _ w hS hx5_1))) (by kernel_rfl) (fun p5_1 => ?_)
      refine O.e (some 5) (Ev.alloc (t := 29) (z := .agg #[.int .i64 0, .int .i64 0, .int .i64 0, .slice none 0 0, .bool false]) (by kernel_rfl) (by kernel_rfl)) (by kernel_rfl) (fun p5_2 => ?_)
      refine O.pure 1 [(0, 0)] [1, 2, 5] [p5_2, 0] (fr' := [(1, .int .u8 a1), (2, .pointer (some ⟨p0_0, 0, none⟩)), (5, .pointer (some ⟨p5_2, 0, none⟩))]) (bx' := [⟨p5_2, [.int .i64 x5_1.f0, .int .i64 x5_1.f1, .int .i64 x5_1.f2, .slice p5_1.1 x5_1.f3.length p5_1.2, .bool x5_1.f4], 29⟩, ⟨p0_0, [.int .i64 a0.f0, .int .i64 a0.f1, .int .i64 a0.f2, .slice none 0 0, .bool false], 24⟩]) (by kernel_rfl) ?_
      refine O.nil (by kernel_rfl) ?_
      refine J.seq (by kernel_rfl) ?_
      refine J.seq (by kernel_rfl) ?_
      refine J.region (by kernel_rfl) ?_
      refine O.pure 1 [] [1, 2, 5, 6] [] (fr' := [(1, .int .u8 a1), (2, .pointer (some ⟨p0_0, 0, none⟩)), (5, .pointer (some ⟨p5_2, 0, none⟩)), (6, .int .i64 0)]) (bx' := [⟨p5_2, [.int .i64 x5_1.f0, .int .i64 x5_1.f1, .int .i64 x5_1.f2, .slice p5_1.1 x5_1.f3.length p5_1.2, .bool x5_1.f4], 29⟩, ⟨p0_0, [.int .i64 a0.f0, .int .i64 a0.f1, .int .i64 a0.f2, .slice none 0 0, .bool false], 24⟩]) (by kernel_rfl) ?_
      refine O.nil (by kernel_rfl) ?_
      refine J.joinS (α := Int × Int × Int × (List S71) × Bool) (γ := Hd) (fun o3 q3 => [(2, .pointer (some ⟨p0_0, 0, none⟩)), (5, .pointer (some ⟨p5_2, 0, none⟩))]) (fun o3 q3 => St X w [] [⟨p5_2, [.int .i64 x5_1.f0, .int .i64 x5_1.f1, .int .i64 x5_1.f2, .slice p5_1.1 x5_1.f3.length p5_1.2, .bool x5_1.f4], 29⟩, ⟨p0_0, [.int .i64 o3.1, .int .i64 o3.2.1, .int .i64 o3.2.2.1, .slice q3.1 o3.2.2.2.1.length q3.2, .bool o3.2.2.2.2], 24⟩] [mkRow kd74 74 (.slice p5_1.1 x5_1.f3.length p5_1.2) x5_1.f3] [] [Rd kd71 q3.1 q3.2 o3.2.2.2.1, Rd kd71 h0.1 h0.2 a0.f3]) H (fun o3 q3 H => ?_) (fun o3 H hj3 => ?_)
      · refine J.seq (by kernel_rfl) ?_
        refine J.region (by kernel_rfl) ?_
        refine O.pure 4 [(1, 2), (0, 2)] [2, 5] [p0_0, 2, p5_2, 2] (fr' := [(2, .pointer (some ⟨p0_0, 0, none⟩)), (5, .pointer (some ⟨p5_2, 0, none⟩))]) (bx' := [⟨p5_2, [.int .i64 x5_1.f0, .int .i64 x5_1.f1, .int .i64 o3.2.2.1, .slice p5_1.1 x5_1.f3.length p5_1.2, .bool x5_1.f4], 29⟩, ⟨p0_0, [.int .i64 o3.1, .int .i64 o3.2.1, .int .i64 o3.2.2.1, .slice q3.1 o3.2.2.2.1.length q3.2, .bool o3.2.2.2.2], 24⟩]) (by kernel_rfl) ?_
        refine O.nil (by kernel_rfl) ?_
        refine J.seq (by kernel_rfl) ?_
        obtain ⟨x14_1, hx14_1, H⟩ := bindE H
        obtain ⟨x14_3, hx14_3, H⟩ := bindE H
        rcases condE H with ⟨hc11, H⟩ | ⟨hc11, H⟩
        · obtain ⟨x14_5, hx14_5, H⟩ := bindE H
          refine J.drawS (by kernel_rfl) [(0, some 43, .agg #[.int .i64 o3.1, .int .i64 o3.2.1, .int .i64 o3.2.2.1, .slice q3.1 o3.2.2.2.1.length q3.2, .bool o3.2.2.2.2]), (2, some 45, .agg #[.int .i64 x5_1.f0, .int .i64 x5_1.f1, .int .i64 o3.2.2.1, .slice p5_1.1 x5_1.f3.length p5_1.2, .bool x5_1.f4])] ([0, 2] ++ []) (by kernel_rfl) ?_
          refine D.mid (cs := [1]) [0, 2] [] [(1, 0), (0, 0)] [p0_0, 0, p5_2, 0] (by kernel_rfl) (by kernel_rfl) trivial (by kernel_rfl) ⟨?_, trivial⟩
          refine EvStep.mk (some 44) (new := fun p14_1 => []) ([2] ++ []) (by kernel_rfl) (Ev.call0 (xs := [.tmp 43]) [0] (by kernel_rfl) (by kernel_rfl) (fun w hS => haywainlaw16_as.con K (⟨o3.1, o3.2.1, o3.2.2.1, o3.2.2.2.1, o3.2.2.2.2⟩ : S24) q3  _ _ w hS hx14_1)) (fun p14_1 => by kernel_rfl) (fun p14_1 => ?_)
          refine D.mid (cs := [3]) [2] [] [(0, 0)] [p5_2, 0] (by kernel_rfl) (by kernel_rfl) trivial (by kernel_rfl) ⟨?_, trivial⟩
          refine EvStep.mk (some 46) (new := fun _ => [(4, some 47, .bool true)]) ([] ++ [4]) (by kernel_rfl) (Ev.mono (fun w hS => hS.freezeH) (Ev.mono (fun w hS => hS.freezeH) (Ev.call0 (xs := [.tmp 44, .tmp 45]) [1, 0] (by kernel_rfl) (by kernel_rfl) (fun w hS => haywainref16_Same.con K x14_1 (⟨x5_1.f0, x5_1.f1, o3.2.2.1, x5_1.f3, x5_1.f4⟩ : S29) p14_1 p5_1  _ _ w hS hx14_3)))) (fun _ => by kernel_rfl) (fun _ => ?_)
          refine D.mid (cs := [5]) [] [4] [] [] (by kernel_rfl) (by kernel_rfl) (⟨QuAt.mk (v := .bool true) (some 47) (by kernel_rfl) (by kernel_rfl) (Qu.eqv (u := .bool x14_3) (v := .bool true) (0, 0) [] (by kernel_rfl) (congrArg Value.bool hc11)), trivial⟩) (by kernel_rfl) ⟨?_, trivial⟩
          refine EvStep.mk (some 48) (new := fun _ => [(6, some 49, .bool x14_5), (7, some 4, .bool x14_5)]) ([6, 7] ++ []) (by kernel_rfl) (Ev.call0 (xs := []) [] (by kernel_rfl) (by kernel_rfl) (fun w hS => haywainlaw16_knows.con K  _ _ w hS hx14_5)) (fun _ => by kernel_rfl) (fun _ => ?_)
          refine D.fin (fr' := [(4, .bool x14_5)]) [6, 7] [] [] [] [4] (by kernel_rfl) (by kernel_rfl) trivial (by kernel_rfl) ?_
          obtain rfl := Option.some.inj H
          exact J.doneS [] [] [] [] [] () (vs := [.bool x14_5]) (by kernel_rfl) (by kernel_rfl) (by kernel_rfl) (by kernel_rfl) (by kernel_rfl) (by decide)
        · refine J.drawS (by kernel_rfl) [(0, some 43, .agg #[.int .i64 o3.1, .int .i64 o3.2.1, .int .i64 o3.2.2.1, .slice q3.1 o3.2.2.2.1.length q3.2, .bool o3.2.2.2.2]), (2, some 45, .agg #[.int .i64 x5_1.f0, .int .i64 x5_1.f1, .int .i64 o3.2.2.1, .slice p5_1.1 x5_1.f3.length p5_1.2, .bool x5_1.f4])] ([0, 2] ++ []) (by kernel_rfl) ?_
          refine D.mid (cs := [1]) [0, 2] [] [(1, 0), (0, 0)] [p0_0, 0, p5_2, 0] (by kernel_rfl) (by kernel_rfl) trivial (by kernel_rfl) ⟨?_, trivial⟩
          refine EvStep.mk (some 44) (new := fun p14_1 => []) ([2] ++ []) (by kernel_rfl) (Ev.call0 (xs := [.tmp 43]) [0] (by kernel_rfl) (by kernel_rfl) (fun w hS => haywainlaw16_as.con K (⟨o3.1, o3.2.1, o3.2.2.1, o3.2.2.2.1, o3.2.2.2.2⟩ : S24) q3  _ _ w hS hx14_1)) (fun p14_1 => by kernel_rfl) (fun p14_1 => ?_)
          refine D.mid (cs := [3]) [2] [] [(0, 0)] [p5_2, 0] (by kernel_rfl) (by kernel_rfl) trivial (by kernel_rfl) ⟨?_, trivial⟩
          refine EvStep.mk (some 46) (new := fun _ => [(4, some 47, .bool false), (5, some 48, undef), (6, some 49, .bool false), (7, some 4, .bool false)]) ([5, 6, 7] ++ [4]) (by kernel_rfl) (Ev.mono (fun w hS => hS.freezeH) (Ev.mono (fun w hS => hS.freezeH) (Ev.call0 (xs := [.tmp 44, .tmp 45]) [1, 0] (by kernel_rfl) (by kernel_rfl) (fun w hS => haywainref16_Same.con K x14_1 (⟨x5_1.f0, x5_1.f1, o3.2.2.1, x5_1.f3, x5_1.f4⟩ : S29) p14_1 p5_1  _ _ w hS hx14_3)))) (fun _ => by kernel_rfl) (fun _ => ?_)
          refine D.fin (fr' := [(4, .bool false)]) [5, 6, 7] [4] [] [] [4] (by kernel_rfl) (by kernel_rfl) (⟨QuAt.mk (v := .bool false) (some 47) (by kernel_rfl) (by kernel_rfl) (Qu.eqv (u := .bool x14_3) (v := .bool false) (0, 0) [] (by kernel_rfl) (congrArg Value.bool hc11)), trivial⟩) (by kernel_rfl) ?_
          obtain rfl := Option.some.inj H
          exact J.doneS [] [] [] [] [] () (vs := [.bool false]) (by kernel_rfl) (by kernel_rfl) (by kernel_rfl) (by kernel_rfl) (by kernel_rfl) (by decide)
      · refine J.block (id := 0) (by kernel_rfl) ?_
        refine J.loopI (σ := Int × Int × Int × Int × (List S71) × Bool) (γ := Hd) (f := fun m_ s_ => haywainlaw16_LinkIdle.l12 K a1 m_ s_) (fun s12 g12 => [(1, .int .u8 a1), (2, .pointer (some ⟨p0_0, 0, none⟩)), (5, .pointer (some ⟨p5_2, 0, none⟩)), (6, .int .i64 s12.1)]) (fun s12 g12 => St X w [] [⟨p5_2, [.int .i64 x5_1.f0, .int .i64 x5_1.f1, .int .i64 x5_1.f2, .slice p5_1.1 x5_1.f3.length p5_1.2, .bool x5_1.f4], 29⟩, ⟨p0_0, [.int .i64 s12.2.1, .int .i64 s12.2.2.1, .int .i64 s12.2.2.2.1, .slice g12.1 s12.2.2.2.2.1.length g12.2, .bool s12.2.2.2.2.2], 24⟩] [mkRow kd74 74 (.slice p5_1.1 x5_1.f3.length p5_1.2) x5_1.f3] [] [Rd kd71 g12.1 g12.2 s12.2.2.2.2.1, Rd kd71 h0.1 h0.2 a0.f3]) K (0, a0.f0, a0.f1, a0.f2, ([] : List S71), false) (none, 0) (by kernel_rfl) H (fun _ => rfl) (fun m_ s12 H ih12 g12 => ?_) (fun h_ => ?_)
        · unfold haywainlaw16_LinkIdle.l12 at H
          refine J.seq (by kernel_rfl) ?_
          refine J.seq (by kernel_rfl) ?_
          obtain ⟨z7_2, hz7_2, H⟩ := bindE H
          obtain ⟨hz7_2a, rfl⟩ := remE hz7_2
          refine J.region (by kernel_rfl) ?_
          refine O.pure 2 [] [1, 2, 5, 6, 24, 25] [] (fr' := [(1, .int .u8 a1), (2, .pointer (some ⟨p0_0, 0, none⟩)), (5, .pointer (some ⟨p5_2, 0, none⟩)), (6, .int .i64 s12.1), (24, .int .i64 s12.1), (25, .int .u8 a1)]) (bx' := [⟨p5_2, [.int .i64 x5_1.f0, .int .i64 x5_1.f1, .int .i64 x5_1.f2, .slice p5_1.1 x5_1.f3.length p5_1.2, .bool x5_1.f4], 29⟩, ⟨p0_0, [.int .i64 s12.2.1, .int .i64 s12.2.2.1, .int .i64 s12.2.2.2.1, .slice g12.1 s12.2.2.2.2.1.length g12.2, .bool s12.2.2.2.2.2], 24⟩]) (by kernel_rfl) ?_
          refine O.q (v := .int .u8 (a1.tmod 10)) (some 26) (Qu.rem (t := 5) (t' := 5) (x := .tmp 25) (y := .const (.int .u8 10)) (a := a1) (b := 10) (by kernel_rfl) (by kernel_rfl) (by kernel_rfl) hz7_2a) (by kernel_rfl) ?_
          refine O.pure 2 [] [1, 2, 5, 6, 28] [] (fr' := [(1, .int .u8 a1), (2, .pointer (some ⟨p0_0, 0, none⟩)), (5, .pointer (some ⟨p5_2, 0, none⟩)), (6, .int .i64 s12.1), (28, .bool (decide (s12.1 < (IntKind.wrap .i64 (a1.tmod 10)))))]) (bx' := [⟨p5_2, [.int .i64 x5_1.f0, .int .i64 x5_1.f1, .int .i64 x5_1.f2, .slice p5_1.1 x5_1.f3.length p5_1.2, .bool x5_1.f4], 29⟩, ⟨p0_0, [.int .i64 s12.2.1, .int .i64 s12.2.2.1, .int .i64 s12.2.2.2.1, .slice g12.1 s12.2.2.2.2.1.length g12.2, .bool s12.2.2.2.2.2], 24⟩]) (by kernel_rfl) ?_
          refine O.nil (by kernel_rfl) ?_
          rcases condE H with ⟨hc17, H⟩ | ⟨hc17, H⟩
          · refine J.condT (x := .tmp 28) (t := (decide (s12.1 < (IntKind.wrap .i64 (a1.tmod 10))))) (by kernel_rfl) (by kernel_rfl) hc17 ?_
            refine J.skip (by kernel_rfl) ?_
            refine J.seq (by kernel_rfl) ?_
            refine J.block (id := 1) (by kernel_rfl) ?_
            refine J.seq (by kernel_rfl) ?_
            obtain ⟨x9_1, hx9_1, H⟩ := bindE H
            refine J.region (by kernel_rfl) ?_
            refine O.pure 1 [(1, 0)] [1, 2, 5, 6, 32] [p0_0, 0] (fr' := [(1, .int .u8 a1), (2, .pointer (some ⟨p0_0, 0, none⟩)), (5, .pointer (some ⟨p5_2, 0, none⟩)), (6, .int .i64 s12.1), (32, .agg #[.int .i64 s12.2.1, .int .i64 s12.2.2.1, .int .i64 s12.2.2.2.1, .slice g12.1 s12.2.2.2.2.1.length g12.2, .bool s12.2.2.2.2.2])]) (bx' := [⟨p5_2, [.int .i64 x5_1.f0, .int .i64 x5_1.f1, .int .i64 x5_1.f2, .slice p5_1.1 x5_1.f3.length p5_1.2, .bool x5_1.f4], 29⟩, ⟨p0_0, [.int .i64 s12.2.1, .int .i64 s12.2.2.1, .int .i64 s12.2.2.2.1, .slice g12.1 s12.2.2.2.2.1.length g12.2, .bool s12.2.2.2.2.2], 24⟩]) (by kernel_rfl) ?_
            refine O.e (some 33) (Ev.call0 (xs := [.tmp 32]) [0] (by kernel_rfl) (by kernel_rfl) (fun w hS => link_Tick.con K (⟨s12.2.1, s12.2.2.1, s12.2.2.2.1, s12.2.2.2.2.1, s12.2.2.2.2.2⟩ : S24) g12  _ _ w hS hx9_1)) (by kernel_rfl) (fun p9_1 => ?_)
            refine O.pure 3 [] [1, 2, 5, 6, 34, 35] [] (fr' := [(1, .int .u8 a1), (2, .pointer (some ⟨p0_0, 0, none⟩)), (5, .pointer (some ⟨p5_2, 0, none⟩)), (6, .int .i64 s12.1), (34, .agg #[.int .i64 x9_1.1.f0, .int .i64 x9_1.1.f1, .int .i64 x9_1.1.f2, .slice p9_1.1.1 x9_1.1.f3.length p9_1.1.2, .bool x9_1.1.f4]), (35, .slice p9_1.2.1 x9_1.2.length p9_1.2.2)]) (bx' := [⟨p5_2, [.int .i64 x5_1.f0, .int .i64 x5_1.f1, .int .i64 x5_1.f2, .slice p5_1.1 x5_1.f3.length p5_1.2, .bool x5_1.f4], 29⟩, ⟨p0_0, [.int .i64 s12.2.1, .int .i64 s12.2.2.1, .int .i64 s12.2.2.2.1, .slice g12.1 s12.2.2.2.2.1.length g12.2, .bool s12.2.2.2.2.2], 24⟩]) (by kernel_rfl) ?_
            refine O.e (some 7) (Ev.alloc (t := 24) (z := .agg #[.int .i64 0, .int .i64 0, .int .i64 0, .slice none 0 0, .bool false]) (by kernel_rfl) (by kernel_rfl)) (by kernel_rfl) (fun p9_5 => ?_)
            refine O.pure 2 [(0, 0)] [1, 2, 5, 6, 7, 8] [p9_5, 0] (fr' := [(1, .int .u8 a1), (2, .pointer (some ⟨p0_0, 0, none⟩)), (5, .pointer (some ⟨p5_2, 0, none⟩)), (6, .int .i64 s12.1), (7, .pointer (some ⟨p9_5, 0, none⟩)), (8, .slice p9_1.2.1 x9_1.2.length p9_1.2.2)]) (bx' := [⟨p9_5, [.int .i64 x9_1.1.f0, .int .i64 x9_1.1.f1, .int .i64 x9_1.1.f2, .slice p9_1.1.1 x9_1.1.f3.length p9_1.1.2, .bool x9_1.1.f4], 24⟩, ⟨p5_2, [.int .i64 x5_1.f0, .int .i64 x5_1.f1, .int .i64 x5_1.f2, .slice p5_1.1 x5_1.f3.length p5_1.2, .bool x5_1.f4], 29⟩, ⟨p0_0, [.int .i64 s12.2.1, .int .i64 s12.2.2.1, .int .i64 s12.2.2.2.1, .slice g12.1 s12.2.2.2.2.1.length g12.2, .bool s12.2.2.2.2.2], 24⟩]) (by kernel_rfl) ?_
            refine O.nil (by kernel_rfl) ?_
            refine J.seq (by kernel_rfl) ?_
            refine J.seq (by kernel_rfl) ?_
            refine J.region (by kernel_rfl) ?_
            refine O.pure 3 [] [1, 2, 5, 6, 7, 38] [] (fr' := [(1, .int .u8 a1), (2, .pointer (some ⟨p0_0, 0, none⟩)), (5, .pointer (some ⟨p5_2, 0, none⟩)), (6, .int .i64 s12.1), (7, .pointer (some ⟨p9_5, 0, none⟩)), (38, .bool ((x9_1.2.length : Int) != 0))]) (bx' := [⟨p9_5, [.int .i64 x9_1.1.f0, .int .i64 x9_1.1.f1, .int .i64 x9_1.1.f2, .slice p9_1.1.1 x9_1.1.f3.length p9_1.1.2, .bool x9_1.1.f4], 24⟩, ⟨p5_2, [.int .i64 x5_1.f0, .int .i64 x5_1.f1, .int .i64 x5_1.f2, .slice p5_1.1 x5_1.f3.length p5_1.2, .bool x5_1.f4], 29⟩, ⟨p0_0, [.int .i64 s12.2.1, .int .i64 s12.2.2.1, .int .i64 s12.2.2.2.1, .slice g12.1 s12.2.2.2.2.1.length g12.2, .bool s12.2.2.2.2.2], 24⟩]) (by kernel_rfl) ?_
            refine O.nil (by kernel_rfl) ?_
            rcases condE H with ⟨hc18, H⟩ | ⟨hc18, H⟩
            · refine J.condT (x := .tmp 38) (t := ((x9_1.2.length : Int) != 0)) (by kernel_rfl) (by kernel_rfl) hc18 ?_
              refine J.seq (by kernel_rfl) ?_
              refine J.region (by kernel_rfl) ?_
              refine O.pure 1 [] [4] [] (fr' := [(4, .bool false)]) (bx' := [⟨p9_5, [.int .i64 x9_1.1.f0, .int .i64 x9_1.1.f1, .int .i64 x9_1.1.f2, .slice p9_1.1.1 x9_1.1.f3.length p9_1.1.2, .bool x9_1.1.f4], 24⟩, ⟨p5_2, [.int .i64 x5_1.f0, .int .i64 x5_1.f1, .int .i64 x5_1.f2, .slice p5_1.1 x5_1.f3.length p5_1.2, .bool x5_1.f4], 29⟩, ⟨p0_0, [.int .i64 s12.2.1, .int .i64 s12.2.2.1, .int .i64 s12.2.2.2.1, .slice g12.1 s12.2.2.2.2.1.length g12.2, .bool s12.2.2.2.2.2], 24⟩]) (by kernel_rfl) ?_
              refine O.nil (by kernel_rfl) ?_
              obtain rfl := Option.some.inj H
              obtain rfl := hj3.2 _ rfl
              exact J.doneS [] [] [] [] [] () (vs := [.bool false]) (by kernel_rfl) (by kernel_rfl) (by kernel_rfl) (by kernel_rfl) (by kernel_rfl) (by decide)
            · refine J.condF (x := .tmp 38) (t := ((x9_1.2.length : Int) != 0)) (by kernel_rfl) (by kernel_rfl) hc18 ?_
              refine J.skip (by kernel_rfl) ?_
              refine J.region (by kernel_rfl) ?_
              refine O.pure 2 [(0, 0), (2, 0)] [1, 2, 5, 6] [p9_5, 0, p0_0, 0] (fr' := [(1, .int .u8 a1), (2, .pointer (some ⟨p0_0, 0, none⟩)), (5, .pointer (some ⟨p5_2, 0, none⟩)), (6, .int .i64 s12.1)]) (bx' := [⟨p9_5, [.int .i64 x9_1.1.f0, .int .i64 x9_1.1.f1, .int .i64 x9_1.1.f2, .slice p9_1.1.1 x9_1.1.f3.length p9_1.1.2, .bool x9_1.1.f4], 24⟩, ⟨p5_2, [.int .i64 x5_1.f0, .int .i64 x5_1.f1, .int .i64 x5_1.f2, .slice p5_1.1 x5_1.f3.length p5_1.2, .bool x5_1.f4], 29⟩, ⟨p0_0, [.int .i64 x9_1.1.f0, .int .i64 x9_1.1.f1, .int .i64 x9_1.1.f2, .slice p9_1.1.1 x9_1.1.f3.length p9_1.1.2, .bool x9_1.1.f4], 24⟩]) (by kernel_rfl) ?_
              refine O.nil (by kernel_rfl) ?_
              refine J.out ?_
              refine J.region (by kernel_rfl) ?_
              refine O.pure 3 [] [1, 2, 5, 6] [] (fr' := [(1, .int .u8 a1), (2, .pointer (some ⟨p0_0, 0, none⟩)), (5, .pointer (some ⟨p5_2, 0, none⟩)), (6, .int .i64 (IntKind.wrap .i64 (s12.1 + 1)))]) (bx' := [⟨p9_5, [.int .i64 x9_1.1.f0, .int .i64 x9_1.1.f1, .int .i64 x9_1.1.f2, .slice p9_1.1.1 x9_1.1.f3.length p9_1.1.2, .bool x9_1.1.f4], 24⟩, ⟨p5_2, [.int .i64 x5_1.f0, .int .i64 x5_1.f1, .int .i64 x5_1.f2, .slice p5_1.1 x5_1.f3.length p5_1.2, .bool x5_1.f4], 29⟩, ⟨p0_0, [.int .i64 x9_1.1.f0, .int .i64 x9_1.1.f1, .int .i64 x9_1.1.f2, .slice p9_1.1.1 x9_1.1.f3.length p9_1.1.2, .bool x9_1.1.f4], 24⟩]) (by kernel_rfl) ?_
              refine O.nil (by kernel_rfl) ?_
              exact J.conv2 [1, 2, 5, 6] [0, 2] [1, 2] [1] (by kernel_rfl) (by kernel_rfl) (by kernel_rfl) (by kernel_rfl) (by decide) (ih12 ((IntKind.wrap .i64 (s12.1 + 1)), x9_1.1.f0, x9_1.1.f1, x9_1.1.f2, x9_1.1.f3, x9_1.1.f4) p9_1.1 H)
          · refine J.condF (x := .tmp 28) (t := (decide (s12.1 < (IntKind.wrap .i64 (a1.tmod 10))))) (by kernel_rfl) (by kernel_rfl) hc17 ?_
            refine J.exit (id := 0) (by kernel_rfl) rfl ?_
            obtain rfl := Option.some.inj H
            exact J.conv2 [2, 5] [0, 1] [0, 1] [0] (by kernel_rfl) (by kernel_rfl) (by kernel_rfl) (by kernel_rfl) (by decide) (hj3.1 _ rfl g12)
        · exact J.conv2 [1, 2, 5, 6] [0, 2] [0, 1] [0] (by kernel_rfl) (by kernel_rfl) (by kernel_rfl) (by kernel_rfl) (by decide) h_
def haywainlaw16_LinkIdle.Pure : Prop := ∀ (a0 : S24) (a1 : Int), (wf24 a0) → ((Lit.int .u8 a1).wf = true) → ∃ K, haywainlaw16_LinkIdle.f K a0 a1 = some true
end Go.Proofs.Ytndccmilcffedaa.G
