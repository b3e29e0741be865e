/- The law BoxTurns as plain Lean, with its contract; printed by a program of this session. -/
import Derived.Test.YtdbeannfjjbegaaG1
set_option linter.unusedVariables false
set_option linter.unusedSimpArgs false
namespace Go.Proofs.Ytdbeannfjjbegaa.G
open Go Go.RowKit Go.Hw
/-! ### haywain/haywainlaw05.BoxTurns: function 9 -/
def haywainlaw05_BoxTurns.l10 (K : Nat) : Nat → ((List S40) × Int) → Option (List S40)
  | 0, _ => none
  | k + 1, s10 => (divO .i64 (s10.1.length : Int) 2).bind fun z6_3 => cond (decide (s10.2 < (IntKind.wrap .i64 ((s10.1.length : Int).tdiv 2)))) ((idxO s10.1 s10.2).bind fun x8_2 => (idxO s10.1 (IntKind.wrap .i64 ((IntKind.wrap .i64 ((s10.1.length : Int) - 1)) - s10.2))).bind fun x9_8 => (idxO s10.1 s10.2).bind fun x9_10 => (idxO (s10.1.set s10.2.toNat x9_8) (IntKind.wrap .i64 ((IntKind.wrap .i64 (((s10.1.set s10.2.toNat x9_8).length : Int) - 1)) - s10.2))).bind fun x10_7 => haywainlaw05_BoxTurns.l10 K k (((s10.1.set s10.2.toNat x9_8).set ((IntKind.wrap .i64 ((IntKind.wrap .i64 (((s10.1.set s10.2.toNat x9_8).length : Int) - 1)) - s10.2)).toNat) x8_2), (IntKind.wrap .i64 (s10.2 + 1)))) (some (s10.1))
def haywainlaw05_BoxTurns.f (K : Nat) (a0 : Int) (a1 : List S40) (a2 : Int) : Option Bool := (haywainlaw05_great.f K a1).bind fun x1_1 => cond x1_1 ((haywainlaw05_knows.f K).bind fun x2_0 => some (x2_0)) (cond ((a1.length : Int) == 0) ((haywainlaw05_knows.f K).bind fun x2_0 => some (x2_0)) ((remO (IntKind.wrap .u64 a2) (IntKind.wrap .u64 (a1.length : Int))).bind fun z3_5 => (cutO a1 (IntKind.wrap .i64 ((IntKind.wrap .u64 a2).tmod (IntKind.wrap .u64 (a1.length : Int)))) (a1.length : Int)).bind fun y4_2 => (haywainlaw05_own.f K (cutL a1 (((IntKind.wrap .i64 ((IntKind.wrap .u64 a2).tmod (IntKind.wrap .u64 (a1.length : Int)))) : Int).toNat) (((a1.length : Int) : Int).toNat))).bind fun x4_3 => (cutO a1 0 (IntKind.wrap .i64 ((IntKind.wrap .u64 a2).tmod (IntKind.wrap .u64 (a1.length : Int))))).bind fun y4_6 => (appO 16 x4_3 (cutL a1 ((0 : Int).toNat) (((IntKind.wrap .i64 ((IntKind.wrap .u64 a2).tmod (IntKind.wrap .u64 (a1.length : Int)))) : Int).toNat))).bind fun y4_7 => (haywainlaw05_BoxTurns.l10 K K ((x4_3 ++ (cutL a1 ((0 : Int).toNat) (((IntKind.wrap .i64 ((IntKind.wrap .u64 a2).tmod (IntKind.wrap .u64 (a1.length : Int)))) : Int).toNat))), 0) : Option (List S40)).bind fun o3 : (List S40) => (haywainlaw05_own.f K a1).bind fun x11_2 => (box_Fold.f K a0 x11_2).bind fun x11_3 => (box_Fold.f K a0 o3).bind fun x12_2 => (haywainref04_SameMsgs.f K x11_3.1 x12_2.1).bind fun x13_2 => cond x13_2 (cond (x11_3.2 == x12_2.2) ((haywainlaw05_knows.f K).bind fun x13_9 => some (x13_9)) (some (false))) (some (false))))
set_option maxRecDepth 100000 in
set_option maxHeartbeats 1000000 in
theorem haywainlaw05_BoxTurns.con (K : Nat) (a0 : Int) (a1 : List S40) (a2 : Int) (h0 : Hd) (r : Bool) (X : Nat → Nat → Prop) (w : World) (hS : St X w [] [] [] [] [Rd kd40 h0.1 h0.2 a1] w) (H : haywainlaw05_BoxTurns.f K a0 a1 a2 = some r) :
    Cn Try.prog 9 [.int .i64 a0, .slice h0.1 a1.length h0.2, .int .i64 a2] X w [] (fun i : Unit => .bool r) (fun i => []) (fun i => []) (fun i => []) := by
  refine Cn.of Try.func9 (by kernel_rfl) hS ?_
  unfold haywainlaw05_BoxTurns.f at H
  refine J.seq (by kernel_rfl) ?_
  refine J.region (by kernel_rfl) ?_
  refine O.pure 1 [] [0, 1, 2] [] (fr' := [(0, .int .i64 a0), (1, .slice h0.1 a1.length h0.2), (2, .int .i64 a2)]) (bx' := []) (by kernel_rfl) ?_
  refine O.nil (by kernel_rfl) ?_
  refine J.seq (by kernel_rfl) ?_
  refine J.seq (by kernel_rfl) ?_
  obtain ⟨x1_1, hx1_1, H⟩ := bindE H
  rcases condE H with ⟨hc1, H⟩ | ⟨hc1, H⟩
  · refine J.region (by kernel_rfl) ?_
    refine O.pure 1 [] [0, 1, 2, 15] [] (fr' := [(0, .int .i64 a0), (1, .slice h0.1 a1.length h0.2), (2, .int .i64 a2), (15, .slice h0.1 a1.length h0.2)]) (bx' := []) (by kernel_rfl) ?_
    refine O.e (some 16) (Ev.call0 (xs := [.tmp 15]) [0] (by kernel_rfl) (by kernel_rfl) (fun w hS => haywainlaw05_great.con K a1 h0  _ _ w hS hx1_1)) (by kernel_rfl) (fun _ => ?_)
    refine O.q (v := .bool true) (some 17) (Qu.eqv (u := .bool x1_1) (v := .bool true) (0, 0) [] (by kernel_rfl) (congrArg Value.bool hc1)) (by kernel_rfl) ?_
    refine O.pure 4 [] [0, 1, 2, 21] [] (fr' := [(0, .int .i64 a0), (1, .slice h0.1 a1.length h0.2), (2, .int .i64 a2), (21, .bool true)]) (bx' := []) (by kernel_rfl) ?_
    refine O.nil (by kernel_rfl) ?_
    refine J.cond (o := .tmp 21) true (by kernel_rfl) (by kernel_rfl) ?_
    refine J.seq (by kernel_rfl) ?_
    obtain ⟨x2_0, hx2_0, H⟩ := bindE H
    refine J.region (by kernel_rfl) ?_
    refine O.e (some 22) (Ev.call0 (xs := []) [] (by kernel_rfl) (by kernel_rfl) (fun w hS => haywainlaw05_knows.con K  _ _ w hS hx2_0)) (by kernel_rfl) (fun _ => ?_)
    refine O.pure 1 [] [6] [] (fr' := [(6, .bool x2_0)]) (bx' := []) (by kernel_rfl) ?_
    refine O.nil (by kernel_rfl) ?_
    obtain rfl := Option.some.inj H
    exact J.doneS [] [] [] [] [] () (vs := [.bool x2_0]) (by kernel_rfl) (by kernel_rfl) (by kernel_rfl) (by kernel_rfl) (by kernel_rfl) (by decide)
  · refine J.region (by kernel_rfl) ?_
    refine O.pure 1 [] [0, 1, 2, 15] [] (fr' := [(0, .int .i64 a0), (1, .slice h0.1 a1.length h0.2), (2, .int .i64 a2), (15, .slice h0.1 a1.length h0.2)]) (bx' := []) (by kernel_rfl) ?_
    refine O.e (some 16) (Ev.call0 (xs := [.tmp 15]) [0] (by kernel_rfl) (by kernel_rfl) (fun w hS => haywainlaw05_great.con K a1 h0  _ _ w hS hx1_1)) (by kernel_rfl) (fun _ => ?_)
    refine O.q (v := .bool false) (some 17) (Qu.eqv (u := .bool x1_1) (v := .bool false) (0, 0) [] (by kernel_rfl) (congrArg Value.bool hc1)) (by kernel_rfl) ?_
    refine O.pure 4 [] [0, 1, 2, 21] [] (fr' := [(0, .int .i64 a0), (1, .slice h0.1 a1.length h0.2), (2, .int .i64 a2), (21, .bool ((a1.length : Int) == 0))]) (bx' := []) (by kernel_rfl) ?_
    refine O.nil (by kernel_rfl) ?_
    rcases condE H with ⟨hc2, H⟩ | ⟨hc2, H⟩
    · refine J.condT (x := .tmp 21) (t := ((a1.length : Int) == 0)) (by kernel_rfl) (by kernel_rfl) hc2 ?_
      refine J.seq (by kernel_rfl) ?_
      obtain ⟨x2_0, hx2_0, H⟩ := bindE H
      refine J.region (by kernel_rfl) ?_
      refine O.e (some 22) (Ev.call0 (xs := []) [] (by kernel_rfl) (by kernel_rfl) (fun w hS => haywainlaw05_knows.con K  _ _ w hS hx2_0)) (by kernel_rfl) (fun _ => ?_)
      refine O.pure 1 [] [6] [] (fr' := [(6, .bool x2_0)]) (bx' := []) (by kernel_rfl) ?_
      refine O.nil (by kernel_rfl) ?_
      obtain rfl := Option.some.inj H
      exact J.doneS [] [] [] [] [] () (vs := [.bool x2_0]) (by kernel_rfl) (by kernel_rfl) (by kernel_rfl) (by kernel_rfl) (by kernel_rfl) (by decide)
    · refine J.condF (x := .tmp 21) (t := ((a1.length : Int) == 0)) (by kernel_rfl) (by kernel_rfl) hc2 ?_
      refine J.skip (by kernel_rfl) ?_
      refine J.seq (by kernel_rfl) ?_
      obtain ⟨z3_5, hz3_5, H⟩ := bindE H
      have hz3_5a := (remE hz3_5).1
      refine J.region (by kernel_rfl) ?_
      refine O.pure 5 [] [0, 1, 24, 27] [] (fr' := [(0, .int .i64 a0), (1, .slice h0.1 a1.length h0.2), (24, .int .u64 (IntKind.wrap .u64 a2)), (27, .int .u64 (IntKind.wrap .u64 (a1.length : Int)))]) (bx' := []) (by kernel_rfl) ?_
      refine O.q (v := .int .u64 ((IntKind.wrap .u64 a2).tmod (IntKind.wrap .u64 (a1.length : Int)))) (some 28) (Qu.rem (t := 42) (t' := 42) (x := .tmp 24) (y := .tmp 27) (a := (IntKind.wrap .u64 a2)) (b := (IntKind.wrap .u64 (a1.length : Int))) (by kernel_rfl) (by kernel_rfl) (by kernel_rfl) hz3_5a) (by kernel_rfl) ?_
      refine O.pure 2 [] [0, 1, 7] [] (fr' := [(0, .int .i64 a0), (1, .slice h0.1 a1.length h0.2), (7, .int .i64 (IntKind.wrap .i64 ((IntKind.wrap .u64 a2).tmod (IntKind.wrap .u64 (a1.length : Int)))))]) (bx' := []) (by kernel_rfl) ?_
      refine O.nil (by kernel_rfl) ?_
      refine J.seq (by kernel_rfl) ?_
      obtain ⟨y4_2, hy4_2, H⟩ := bindE H
      obtain ⟨hy4_2a, hy4_2b, hy4_2c, -⟩ := cutE hy4_2
      obtain ⟨x4_3, hx4_3, H⟩ := bindE H
      obtain ⟨y4_6, hy4_6, H⟩ := bindE H
      obtain ⟨hy4_6a, hy4_6b, hy4_6c, -⟩ := cutE hy4_6
      obtain ⟨y4_7, hy4_7, H⟩ := bindE H
      have hy4_7a := (appE hy4_7).1
      refine J.cutAt (γ := Hd × Hd × Hd × Hd) (fun q_ => [(0, .int .i64 a0), (1, .slice h0.1 a1.length h0.2), (8, .slice q_.2.2.2.1 (x4_3 ++ (cutL a1 ((0 : Int).toNat) (((IntKind.wrap .i64 ((IntKind.wrap .u64 a2).tmod (IntKind.wrap .u64 (a1.length : Int)))) : Int).toNat))).length q_.2.2.2.2)]) (fun q_ => St X w [] [] [mkRow kd40 40 (.slice q_.2.2.2.1 (x4_3 ++ (cutL a1 ((0 : Int).toNat) (((IntKind.wrap .i64 ((IntKind.wrap .u64 a2).tmod (IntKind.wrap .u64 (a1.length : Int)))) : Int).toNat))).length q_.2.2.2.2) (x4_3 ++ (cutL a1 ((0 : Int).toNat) (((IntKind.wrap .i64 ((IntKind.wrap .u64 a2).tmod (IntKind.wrap .u64 (a1.length : Int)))) : Int).toNat)))] [] [Rd kd40 q_.2.2.1.1 q_.2.2.1.2 (cutL a1 ((0 : Int).toNat) (((IntKind.wrap .i64 ((IntKind.wrap .u64 a2).tmod (IntKind.wrap .u64 (a1.length : Int)))) : Int).toNat)), Rd kd40 q_.1.1 q_.1.2 (cutL a1 (((IntKind.wrap .i64 ((IntKind.wrap .u64 a2).tmod (IntKind.wrap .u64 (a1.length : Int)))) : Int).toNat) (((a1.length : Int) : Int).toNat)), Rd kd40 h0.1 h0.2 a1]) (fun q_ => ?_) (fun hk_ => ?_)
      · obtain ⟨p4_2, p4_3, p4_6, p4_7⟩ := q_
        refine J.seq (by kernel_rfl) ?_
        refine J.seq (by kernel_rfl) ?_
        refine J.region (by kernel_rfl) ?_
        refine O.pure 1 [] [0, 1, 8, 9] [] (fr' := [(0, .int .i64 a0), (1, .slice h0.1 a1.length h0.2), (8, .slice p4_7.1 (x4_3 ++ (cutL a1 ((0 : Int).toNat) (((IntKind.wrap .i64 ((IntKind.wrap .u64 a2).tmod (IntKind.wrap .u64 (a1.length : Int)))) : Int).toNat))).length p4_7.2), (9, .int .i64 0)]) (bx' := []) (by kernel_rfl) ?_
        refine O.nil (by kernel_rfl) ?_
        refine J.join (α := (List S40)) (γ := Hd) (fun o3 q3 => [(0, .int .i64 a0), (1, .slice h0.1 a1.length h0.2), (8, .slice q3.1 o3.length q3.2)]) (fun o3 q3 => St X w [] [] [mkRow kd40 40 (.slice q3.1 o3.length q3.2) o3] [] [Rd kd40 h0.1 h0.2 a1]) H (fun o3 q3 H => ?_) (fun o3 H hj3 => ?_)
        · refine J.seq (by kernel_rfl) ?_
          obtain ⟨x11_2, hx11_2, H⟩ := bindE H
          obtain ⟨x11_3, hx11_3, H⟩ := bindE H
          refine J.region (by kernel_rfl) ?_
          refine O.pure 2 [] [0, 8, 69, 70] [] (fr' := [(0, .int .i64 a0), (8, .slice q3.1 o3.length q3.2), (69, .int .i64 a0), (70, .slice h0.1 a1.length h0.2)]) (bx' := []) (by kernel_rfl) ?_
          refine O.e (some 71) (Ev.call0 (xs := [.tmp 70]) [0] (by kernel_rfl) (by kernel_rfl) (fun w hS => haywainlaw05_own.con K a1 h0  _ _ w hS hx11_2)) (by kernel_rfl) (fun p11_2 => ?_)
          refine O.e (some 72) (Ev.callL (hh := p11_2) (xs := x11_2) (m := x11_2.length) (xs1 := [.tmp 69, .tmp 71]) [0] rfl (by kernel_rfl) (by kernel_rfl) (fun _ q hq _ _ _ h => by obtain rfl := List.mem_singleton.1 hq; exact h) (fun w hS => box_Fold.con K a0 x11_2 p11_2  _ _ w hS hx11_3)) (by kernel_rfl) (fun p11_3 => ?_)
          refine O.pure 5 [] [0, 8, 11, 12] [] (fr' := [(0, .int .i64 a0), (8, .slice q3.1 o3.length q3.2), (11, .slice p11_3.1 x11_3.1.length p11_3.2), (12, .int .i64 x11_3.2)]) (bx' := []) (by kernel_rfl) ?_
          refine O.nil (by kernel_rfl) ?_
          refine J.seq (by kernel_rfl) ?_
          obtain ⟨x12_2, hx12_2, H⟩ := bindE H
          refine J.region (by kernel_rfl) ?_
          refine O.pure 2 [] [11, 12, 76, 77] [] (fr' := [(11, .slice p11_3.1 x11_3.1.length p11_3.2), (12, .int .i64 x11_3.2), (76, .int .i64 a0), (77, .slice q3.1 o3.length q3.2)]) (bx' := []) (by kernel_rfl) ?_
          refine O.e (some 78) (Ev.mono (fun w hS => hS.rowsel [2, 0, 1] rfl (by decide)) (Ev.callL (hh := q3) (xs := o3) (m := o3.length) (xs1 := [.tmp 76, .tmp 77]) [0] rfl (by kernel_rfl) (by kernel_rfl) (fun _ q hq _ _ _ h => by obtain rfl := List.mem_singleton.1 hq; exact h) (fun w hS => box_Fold.con K a0 o3 q3  _ _ w hS hx12_2))) (by kernel_rfl) (fun p12_2 => ?_)
          refine O.pure 5 [] [11, 12, 13, 14] [] (fr' := [(11, .slice p11_3.1 x11_3.1.length p11_3.2), (12, .int .i64 x11_3.2), (13, .slice p12_2.1 x12_2.1.length p12_2.2), (14, .int .i64 x12_2.2)]) (bx' := []) (by kernel_rfl) ?_
          refine O.nil (by kernel_rfl) ?_
          refine J.seq (by kernel_rfl) ?_
          obtain ⟨x13_2, hx13_2, H⟩ := bindE H
          rcases condE H with ⟨hc8, H⟩ | ⟨hc8, H⟩
          · rcases condE H with ⟨hc9, H⟩ | ⟨hc9, H⟩
            · obtain ⟨x13_9, hx13_9, H⟩ := bindE H
              refine J.region (by kernel_rfl) ?_
              refine O.pure 2 [] [12, 14, 81, 82] [] (fr' := [(12, .int .i64 x11_3.2), (14, .int .i64 x12_2.2), (81, .slice p11_3.1 x11_3.1.length p11_3.2), (82, .slice p12_2.1 x12_2.1.length p12_2.2)]) (bx' := []) (by kernel_rfl) ?_
              refine O.e (some 83) (Ev.mono (fun w hS => hS.rowsel [2, 0, 1, 3] rfl (by decide)) (Ev.mono (fun w hS => hS.freezeH (h := p11_3) (xs := x11_3.1)) (Ev.mono (fun w hS => hS.freezeH (h := p12_2) (xs := x12_2.1)) (Ev.call0 (xs := [.tmp 81, .tmp 82]) [1, 0] (by kernel_rfl) (by kernel_rfl) (fun w hS => haywainref04_SameMsgs.con K x11_3.1 x12_2.1 p11_3 p12_2  _ _ w hS hx13_2))))) (by kernel_rfl) (fun _ => ?_)
              refine O.q (v := .bool true) (some 84) (Qu.eqv (u := .bool x13_2) (v := .bool true) (0, 0) [] (by kernel_rfl) (congrArg Value.bool hc8)) (by kernel_rfl) ?_
              refine O.pure 2 [] [84, 85, 86] [] (fr' := [(84, .bool true), (85, .int .i64 x11_3.2), (86, .int .i64 x12_2.2)]) (bx' := []) (by kernel_rfl) ?_
              refine O.q (v := .bool true) (some 87) (Qu.eqv (u := .bool (x11_3.2 == x12_2.2)) (v := .bool true) (0, 0) [] (by kernel_rfl) (congrArg Value.bool hc9)) (by kernel_rfl) ?_
              refine O.pure 2 [] [89] [] (fr' := [(89, .bool true)]) (bx' := []) (by kernel_rfl) ?_
              refine O.e (some 90) (Ev.call0 (xs := []) [] (by kernel_rfl) (by kernel_rfl) (fun w hS => haywainlaw05_knows.con K  _ _ w hS hx13_9)) (by kernel_rfl) (fun _ => ?_)
              refine O.pure 2 [] [6] [] (fr' := [(6, .bool x13_9)]) (bx' := []) (by kernel_rfl) ?_
              refine O.nil (by kernel_rfl) ?_
              obtain rfl := Option.some.inj H
              exact J.doneS [] [] [] [] [] () (vs := [.bool x13_9]) (by kernel_rfl) (by kernel_rfl) (by kernel_rfl) (by kernel_rfl) (by kernel_rfl) (by decide)
            · refine J.region (by kernel_rfl) ?_
              refine O.pure 2 [] [12, 14, 81, 82] [] (fr' := [(12, .int .i64 x11_3.2), (14, .int .i64 x12_2.2), (81, .slice p11_3.1 x11_3.1.length p11_3.2), (82, .slice p12_2.1 x12_2.1.length p12_2.2)]) (bx' := []) (by kernel_rfl) ?_
              refine O.e (some 83) (Ev.mono (fun w hS => hS.rowsel [2, 0, 1, 3] rfl (by decide)) (Ev.mono (fun w hS => hS.freezeH (h := p11_3) (xs := x11_3.1)) (Ev.mono (fun w hS => hS.freezeH (h := p12_2) (xs := x12_2.1)) (Ev.call0 (xs := [.tmp 81, .tmp 82]) [1, 0] (by kernel_rfl) (by kernel_rfl) (fun w hS => haywainref04_SameMsgs.con K x11_3.1 x12_2.1 p11_3 p12_2  _ _ w hS hx13_2))))) (by kernel_rfl) (fun _ => ?_)
              refine O.q (v := .bool true) (some 84) (Qu.eqv (u := .bool x13_2) (v := .bool true) (0, 0) [] (by kernel_rfl) (congrArg Value.bool hc8)) (by kernel_rfl) ?_
              refine O.pure 2 [] [84, 85, 86] [] (fr' := [(84, .bool true), (85, .int .i64 x11_3.2), (86, .int .i64 x12_2.2)]) (bx' := []) (by kernel_rfl) ?_
              refine O.q (v := .bool false) (some 87) (Qu.eqv (u := .bool (x11_3.2 == x12_2.2)) (v := .bool false) (0, 0) [] (by kernel_rfl) (congrArg Value.bool hc9)) (by kernel_rfl) ?_
              refine O.pure 5 [] [6] [] (fr' := [(6, .bool false)]) (bx' := []) (by kernel_rfl) ?_
              refine O.nil (by kernel_rfl) ?_
              obtain rfl := Option.some.inj H
              exact J.doneS [] [] [] [] [] () (vs := [.bool false]) (by kernel_rfl) (by kernel_rfl) (by kernel_rfl) (by kernel_rfl) (by kernel_rfl) (by decide)
          · refine J.region (by kernel_rfl) ?_
            refine O.pure 2 [] [12, 14, 81, 82] [] (fr' := [(12, .int .i64 x11_3.2), (14, .int .i64 x12_2.2), (81, .slice p11_3.1 x11_3.1.length p11_3.2), (82, .slice p12_2.1 x12_2.1.length p12_2.2)]) (bx' := []) (by kernel_rfl) ?_
            refine O.e (some 83) (Ev.mono (fun w hS => hS.rowsel [2, 0, 1, 3] rfl (by decide)) (Ev.mono (fun w hS => hS.freezeH (h := p11_3) (xs := x11_3.1)) (Ev.mono (fun w hS => hS.freezeH (h := p12_2) (xs := x12_2.1)) (Ev.call0 (xs := [.tmp 81, .tmp 82]) [1, 0] (by kernel_rfl) (by kernel_rfl) (fun w hS => haywainref04_SameMsgs.con K x11_3.1 x12_2.1 p11_3 p12_2  _ _ w hS hx13_2))))) (by kernel_rfl) (fun _ => ?_)
            refine O.q (v := .bool false) (some 84) (Qu.eqv (u := .bool x13_2) (v := .bool false) (0, 0) [] (by kernel_rfl) (congrArg Value.bool hc8)) (by kernel_rfl) ?_
            refine O.pure 8 [] [6] [] (fr' := [(6, .bool false)]) (bx' := []) (by kernel_rfl) ?_
            refine O.nil (by kernel_rfl) ?_
            obtain rfl := Option.some.inj H
            exact J.doneS [] [] [] [] [] () (vs := [.bool false]) (by kernel_rfl) (by kernel_rfl) (by kernel_rfl) (by kernel_rfl) (by kernel_rfl) (by decide)
        · refine J.block (id := 0) (by kernel_rfl) ?_
          refine J.loopI (σ := (List S40) × Int) (γ := Hd) (f := fun m_ s_ => haywainlaw05_BoxTurns.l10 K m_ s_) (fun s10 g10 => [(0, .int .i64 a0), (1, .slice h0.1 a1.length h0.2), (8, .slice g10.1 s10.1.length g10.2), (9, .int .i64 s10.2)]) (fun s10 g10 => St X w [] [] [mkRow kd40 40 (.slice g10.1 s10.1.length g10.2) s10.1] [] [Rd kd40 h0.1 h0.2 a1]) K ((x4_3 ++ (cutL a1 ((0 : Int).toNat) (((IntKind.wrap .i64 ((IntKind.wrap .u64 a2).tmod (IntKind.wrap .u64 (a1.length : Int)))) : Int).toNat))), 0) p4_7 (by kernel_rfl) H (fun _ => rfl) (fun m_ s10 H ih10 g10 => ?_) (fun h_ => ?_)
          · unfold haywainlaw05_BoxTurns.l10 at H
            refine J.seq (by kernel_rfl) ?_
            refine J.seq (by kernel_rfl) ?_
            obtain ⟨z6_3, hz6_3, H⟩ := bindE H
            have hz6_3a := (divE hz6_3).1
            refine J.region (by kernel_rfl) ?_
            refine O.pure 3 [] [0, 1, 8, 9, 38, 40] [] (fr' := [(0, .int .i64 a0), (1, .slice h0.1 a1.length h0.2), (8, .slice g10.1 s10.1.length g10.2), (9, .int .i64 s10.2), (38, .int .i64 s10.2), (40, .int .i64 (s10.1.length : Int))]) (bx' := []) (by kernel_rfl) ?_
            refine O.q (v := .int .i64 (IntKind.wrap .i64 ((s10.1.length : Int).tdiv 2))) (some 41) (Qu.div (t := 3) (t' := 3) (x := .tmp 40) (y := .const (.int .i64 2)) (a := (s10.1.length : Int)) (b := 2) (by kernel_rfl) (by kernel_rfl) (by kernel_rfl) hz6_3a) (by kernel_rfl) ?_
            refine O.pure 1 [] [0, 1, 8, 9, 42] [] (fr' := [(0, .int .i64 a0), (1, .slice h0.1 a1.length h0.2), (8, .slice g10.1 s10.1.length g10.2), (9, .int .i64 s10.2), (42, .bool (decide (s10.2 < (IntKind.wrap .i64 ((s10.1.length : Int).tdiv 2)))))]) (bx' := []) (by kernel_rfl) ?_
            refine O.nil (by kernel_rfl) ?_
            rcases condE H with ⟨hc13, H⟩ | ⟨hc13, H⟩
            · refine J.condT (x := .tmp 42) (t := (decide (s10.2 < (IntKind.wrap .i64 ((s10.1.length : Int).tdiv 2))))) (by kernel_rfl) (by kernel_rfl) hc13 ?_
              refine J.skip (by kernel_rfl) ?_
              refine J.seq (by kernel_rfl) ?_
              refine J.block (id := 1) (by kernel_rfl) ?_
              refine J.seq (by kernel_rfl) ?_
              obtain ⟨x8_2, hx8_2, H⟩ := bindE H
              obtain ⟨hx8_2a, hx8_2⟩ := idxE hx8_2
              refine J.region (by kernel_rfl) ?_
              refine O.pure 2 [] [0, 1, 8, 9, 45, 46] [] (fr' := [(0, .int .i64 a0), (1, .slice h0.1 a1.length h0.2), (8, .slice g10.1 s10.1.length g10.2), (9, .int .i64 s10.2), (45, .slice g10.1 s10.1.length g10.2), (46, .int .i64 s10.2)]) (bx' := []) (by kernel_rfl) ?_
              refine O.mono (fun w hS => hS.pk) ?_
              refine O.peek (d := kd40) (hh := g10) (m := s10.1.length) (i := s10.2) (by simpa only [List.length_set] using hx8_2) (op40 _) (fun p8_2 hp8_2A => ?_)
              refine O.q (v := .pointer (some ⟨p8_2.1, 0 + s10.2.toNat * 2, none⟩)) (some 47) (Qu.idx (t := 22) (x := .tmp 45) (y := .tmp 46) (len := s10.1.length) (c := g10.2) (kk := .i64) (sz := 2) (by kernel_rfl) (by kernel_rfl) (by kernel_rfl) (by kernel_rfl) hx8_2a (by have := idx_lt hx8_2; simpa only [List.length_set, List.length_replicate] using this) hp8_2A) (by kernel_rfl) ?_
              refine O.q (v := .agg #[.int .i64 x8_2.f0, .int .i64 x8_2.f1]) (some 48) (Qu.loadR (t := 40) (x := .tmp 47) (hh := g10) (m := s10.1.length) (i := s10.2.toNat) (u := .pointer (some ⟨p8_2.1, 0 + s10.2.toNat * 2, none⟩)) (r := .agg #[.int .i64 x8_2.f0, .int .i64 x8_2.f1]) (cs := [.int .i64 x8_2.f0, .int .i64 x8_2.f1]) 0 0 [p8_2.1, 0 + s10.2.toNat * 2] (by kernel_rfl) (by kernel_rfl) hp8_2A rfl (by kernel_rfl)) (by kernel_rfl) ?_
              refine O.e (some 10) (Ev.alloc (t := 40) (z := .agg #[.int .i64 0, .int .i64 0]) (by kernel_rfl) (by kernel_rfl)) (by kernel_rfl) (fun p8_4 => ?_)
              refine O.pure 1 [(0, 0)] [0, 1, 8, 9, 10] [p8_4, 0] (fr' := [(0, .int .i64 a0), (1, .slice h0.1 a1.length h0.2), (8, .slice g10.1 s10.1.length g10.2), (9, .int .i64 s10.2), (10, .pointer (some ⟨p8_4, 0, none⟩))]) (bx' := [⟨p8_4, [.int .i64 x8_2.f0, .int .i64 x8_2.f1], 40⟩]) (by kernel_rfl) ?_
              refine O.nil (by kernel_rfl) ?_
              refine J.mono (fun w hS => hS.unpk) ?_
              refine J.seq (by kernel_rfl) ?_
              obtain ⟨x9_8, hx9_8, H⟩ := bindE H
              obtain ⟨hx9_8a, hx9_8⟩ := idxE hx9_8
              obtain ⟨x9_10, hx9_10, H⟩ := bindE H
              obtain ⟨hx9_10a, hx9_10⟩ := idxE hx9_10
              refine J.region (by kernel_rfl) ?_
              refine O.pure 8 [] [0, 1, 8, 9, 10, 49, 50, 51, 56] [] (fr' := [(0, .int .i64 a0), (1, .slice h0.1 a1.length h0.2), (8, .slice g10.1 s10.1.length g10.2), (9, .int .i64 s10.2), (10, .pointer (some ⟨p8_4, 0, none⟩)), (49, .slice g10.1 s10.1.length g10.2), (50, .int .i64 s10.2), (51, .slice g10.1 s10.1.length g10.2), (56, .int .i64 (IntKind.wrap .i64 ((IntKind.wrap .i64 ((s10.1.length : Int) - 1)) - s10.2)))]) (bx' := [⟨p8_4, [.int .i64 x8_2.f0, .int .i64 x8_2.f1], 40⟩]) (by kernel_rfl) ?_
              refine O.mono (fun w hS => hS.pk) ?_
              refine O.peek (d := kd40) (hh := g10) (m := s10.1.length) (i := (IntKind.wrap .i64 ((IntKind.wrap .i64 ((s10.1.length : Int) - 1)) - s10.2))) (by simpa only [List.length_set] using hx9_8) (op40 _) (fun p9_8 hp9_8A => ?_)
              refine O.q (v := .pointer (some ⟨p9_8.1, 0 + (IntKind.wrap .i64 ((IntKind.wrap .i64 ((s10.1.length : Int) - 1)) - s10.2)).toNat * 2, none⟩)) (some 57) (Qu.idx (t := 22) (x := .tmp 51) (y := .tmp 56) (len := s10.1.length) (c := g10.2) (kk := .i64) (sz := 2) (by kernel_rfl) (by kernel_rfl) (by kernel_rfl) (by kernel_rfl) hx9_8a (by have := idx_lt hx9_8; simpa only [List.length_set, List.length_replicate] using this) hp9_8A) (by kernel_rfl) ?_
              refine O.q (v := .agg #[.int .i64 x9_8.f0, .int .i64 x9_8.f1]) (some 58) (Qu.loadR (t := 40) (x := .tmp 57) (hh := g10) (m := s10.1.length) (i := (IntKind.wrap .i64 ((IntKind.wrap .i64 ((s10.1.length : Int) - 1)) - s10.2)).toNat) (u := .pointer (some ⟨p9_8.1, 0 + (IntKind.wrap .i64 ((IntKind.wrap .i64 ((s10.1.length : Int) - 1)) - s10.2)).toNat * 2, none⟩)) (r := .agg #[.int .i64 x9_8.f0, .int .i64 x9_8.f1]) (cs := [.int .i64 x9_8.f0, .int .i64 x9_8.f1]) 0 0 [p9_8.1, 0 + (IntKind.wrap .i64 ((IntKind.wrap .i64 ((s10.1.length : Int) - 1)) - s10.2)).toNat * 2] (by kernel_rfl) (by kernel_rfl) hp9_8A rfl (by kernel_rfl)) (by kernel_rfl) ?_
              refine O.peek (d := kd40) (hh := g10) (m := s10.1.length) (i := s10.2) (by simpa only [List.length_set] using hx9_10) (op40 _) (fun p9_10 hp9_10A => ?_)
              refine O.q (v := .pointer (some ⟨p9_10.1, 0 + s10.2.toNat * 2, none⟩)) (some 59) (Qu.idx (t := 22) (x := .tmp 49) (y := .tmp 50) (len := s10.1.length) (c := g10.2) (kk := .i64) (sz := 2) (by kernel_rfl) (by kernel_rfl) (by kernel_rfl) (by kernel_rfl) hx9_10a (by have := idx_lt hx9_10; simpa only [List.length_set, List.length_replicate] using this) hp9_10A) (by kernel_rfl) ?_
              refine O.e none (Ev.storeR (t := 40) (x := .tmp 59) (y := .tmp 58) (hh := g10) (m := s10.1.length) (g := p9_10.1) (i := s10.2.toNat) (f := 0) (s := 2) (u := .pointer (some ⟨p9_10.1, 0 + s10.2.toNat * 2, none⟩)) (z := .agg #[.int .i64 x9_8.f0, .int .i64 x9_8.f1]) (cs := []) (ncs := [.int .i64 x9_8.f0, .int .i64 x9_8.f1]) x9_8 none (by kernel_rfl) (by kernel_rfl) rfl (by kernel_rfl) hp9_10A (by have := idx_lt hx9_10; simpa only [List.length_set] using this) ⟨by kernel_rfl, by kernel_rfl, by kernel_rfl, by kernel_rfl⟩ ⟨rfl, rfl, rfl⟩ (by kernel_rfl) (fun w' hφ => rfl)) (by kernel_rfl) (fun _ => ?_)
              refine O.nil (by kernel_rfl) ?_
              refine J.mono (fun w hS => hS.unpk) ?_
              refine J.renS [0, 1, 8, 9, 10] (fr1 := [(0, .int .i64 a0), (1, .slice h0.1 a1.length h0.2), (8, .slice g10.1 s10.1.length g10.2), (9, .int .i64 s10.2), (10, .pointer (some ⟨p8_4, 0, none⟩))]) (bx1 := [⟨p8_4, [.int .i64 x8_2.f0, .int .i64 x8_2.f1], 40⟩]) (rw1 := [mkRow kd40 40 (.slice g10.1 s10.1.length g10.2) (s10.1.set s10.2.toNat x9_8)]) (fr' := [(0, .int .i64 a0), (1, .slice h0.1 a1.length h0.2), (8, .slice g10.1 (s10.1.set s10.2.toNat x9_8).length g10.2), (9, .int .i64 s10.2), (10, .pointer (some ⟨p8_4, 0, none⟩))]) (bx' := [⟨p8_4, [.int .i64 x8_2.f0, .int .i64 x8_2.f1], 40⟩]) (rw' := [mkRow kd40 40 (.slice g10.1 (s10.1.set s10.2.toNat x9_8).length g10.2) (s10.1.set s10.2.toNat x9_8)]) (by kernel_rfl) (by kernel_rfl) (by simp only [List.length_set, List.length_replicate]) ?_
              obtain ⟨x10_7, hx10_7, H⟩ := bindE H
              obtain ⟨hx10_7a, hx10_7⟩ := idxE hx10_7
              refine J.region (by kernel_rfl) ?_
              refine O.pure 7 [(0, 0)] [0, 1, 8, 9, 60, 65, 66] [p8_4, 0] (fr' := [(0, .int .i64 a0), (1, .slice h0.1 a1.length h0.2), (8, .slice g10.1 (s10.1.set s10.2.toNat x9_8).length g10.2), (9, .int .i64 s10.2), (60, .slice g10.1 (s10.1.set s10.2.toNat x9_8).length g10.2), (65, .int .i64 (IntKind.wrap .i64 ((IntKind.wrap .i64 (((s10.1.set s10.2.toNat x9_8).length : Int) - 1)) - s10.2))), (66, .agg #[.int .i64 x8_2.f0, .int .i64 x8_2.f1])]) (bx' := [⟨p8_4, [.int .i64 x8_2.f0, .int .i64 x8_2.f1], 40⟩]) (by kernel_rfl) ?_
              refine O.mono (fun w hS => hS.pk) ?_
              refine O.peek (d := kd40) (hh := g10) (m := (s10.1.set s10.2.toNat x9_8).length) (i := (IntKind.wrap .i64 ((IntKind.wrap .i64 (((s10.1.set s10.2.toNat x9_8).length : Int) - 1)) - s10.2))) (by simpa only [List.length_set] using hx10_7) (op40 _) (fun p10_7 hp10_7A => ?_)
              refine O.q (v := .pointer (some ⟨p10_7.1, 0 + (IntKind.wrap .i64 ((IntKind.wrap .i64 (((s10.1.set s10.2.toNat x9_8).length : Int) - 1)) - s10.2)).toNat * 2, none⟩)) (some 67) (Qu.idx (t := 22) (x := .tmp 60) (y := .tmp 65) (len := (s10.1.set s10.2.toNat x9_8).length) (c := g10.2) (kk := .i64) (sz := 2) (by kernel_rfl) (by kernel_rfl) (by kernel_rfl) (by kernel_rfl) hx10_7a (by have := idx_lt hx10_7; simpa only [List.length_set, List.length_replicate] using this) hp10_7A) (by kernel_rfl) ?_
              refine O.e none (Ev.storeR (t := 40) (x := .tmp 67) (y := .tmp 66) (hh := g10) (m := (s10.1.set s10.2.toNat x9_8).length) (g := p10_7.1) (i := (IntKind.wrap .i64 ((IntKind.wrap .i64 (((s10.1.set s10.2.toNat x9_8).length : Int) - 1)) - s10.2)).toNat) (f := 0) (s := 2) (u := .pointer (some ⟨p10_7.1, 0 + (IntKind.wrap .i64 ((IntKind.wrap .i64 (((s10.1.set s10.2.toNat x9_8).length : Int) - 1)) - s10.2)).toNat * 2, none⟩)) (z := .agg #[.int .i64 x8_2.f0, .int .i64 x8_2.f1]) (cs := []) (ncs := [.int .i64 x8_2.f0, .int .i64 x8_2.f1]) x8_2 none (by kernel_rfl) (by kernel_rfl) rfl (by kernel_rfl) hp10_7A (by have := idx_lt hx10_7; simpa only [List.length_set] using this) ⟨by kernel_rfl, by kernel_rfl, by kernel_rfl, by kernel_rfl⟩ ⟨rfl, rfl, rfl⟩ (by kernel_rfl) (fun w' hφ => rfl)) (by kernel_rfl) (fun _ => ?_)
              refine O.nil (by kernel_rfl) ?_
              refine J.mono (fun w hS => hS.unpk) ?_
              refine J.renS [0, 1, 8, 9] (fr1 := [(0, .int .i64 a0), (1, .slice h0.1 a1.length h0.2), (8, .slice g10.1 (s10.1.set s10.2.toNat x9_8).length g10.2), (9, .int .i64 s10.2)]) (bx1 := [⟨p8_4, [.int .i64 x8_2.f0, .int .i64 x8_2.f1], 40⟩]) (rw1 := [mkRow kd40 40 (.slice g10.1 ((s10.1.set s10.2.toNat x9_8).length) g10.2) ((s10.1.set s10.2.toNat x9_8).set ((IntKind.wrap .i64 ((IntKind.wrap .i64 (((s10.1.set s10.2.toNat x9_8).length : Int) - 1)) - s10.2)).toNat) x8_2)]) (fr' := [(0, .int .i64 a0), (1, .slice h0.1 a1.length h0.2), (8, .slice g10.1 ((s10.1.set s10.2.toNat x9_8).set ((IntKind.wrap .i64 ((IntKind.wrap .i64 (((s10.1.set s10.2.toNat x9_8).length : Int) - 1)) - s10.2)).toNat) x8_2).length g10.2), (9, .int .i64 s10.2)]) (bx' := [⟨p8_4, [.int .i64 x8_2.f0, .int .i64 x8_2.f1], 40⟩]) (rw' := [mkRow kd40 40 (.slice g10.1 ((s10.1.set s10.2.toNat x9_8).set ((IntKind.wrap .i64 ((IntKind.wrap .i64 (((s10.1.set s10.2.toNat x9_8).length : Int) - 1)) - s10.2)).toNat) x8_2).length g10.2) ((s10.1.set s10.2.toNat x9_8).set ((IntKind.wrap .i64 ((IntKind.wrap .i64 (((s10.1.set s10.2.toNat x9_8).length : Int) - 1)) - s10.2)).toNat) x8_2)]) (by kernel_rfl) (by kernel_rfl) (by simp only [List.length_set, List.length_replicate]) ?_
              refine J.out ?_
              refine J.region (by kernel_rfl) ?_
              refine O.pure 3 [] [0, 1, 8, 9] [] (fr' := [(0, .int .i64 a0), (1, .slice h0.1 a1.length h0.2), (8, .slice g10.1 ((s10.1.set s10.2.toNat x9_8).set ((IntKind.wrap .i64 ((IntKind.wrap .i64 (((s10.1.set s10.2.toNat x9_8).length : Int) - 1)) - s10.2)).toNat) x8_2).length g10.2), (9, .int .i64 (IntKind.wrap .i64 (s10.2 + 1)))]) (bx' := [⟨p8_4, [.int .i64 x8_2.f0, .int .i64 x8_2.f1], 40⟩]) (by kernel_rfl) ?_
              refine O.nil (by kernel_rfl) ?_
              exact J.conv2 [0, 1, 8, 9] [0] [] [0] (by kernel_rfl) (by kernel_rfl) (by kernel_rfl) (by kernel_rfl) (by decide) (ih10 (((s10.1.set s10.2.toNat x9_8).set ((IntKind.wrap .i64 ((IntKind.wrap .i64 (((s10.1.set s10.2.toNat x9_8).length : Int) - 1)) - s10.2)).toNat) x8_2), (IntKind.wrap .i64 (s10.2 + 1))) g10 H)
            · refine J.condF (x := .tmp 42) (t := (decide (s10.2 < (IntKind.wrap .i64 ((s10.1.length : Int).tdiv 2))))) (by kernel_rfl) (by kernel_rfl) hc13 ?_
              refine J.exit (id := 0) (by kernel_rfl) rfl ?_
              obtain rfl := Option.some.inj H
              exact J.conv2 [0, 1, 8] [0] [] [0] (by kernel_rfl) (by kernel_rfl) (by kernel_rfl) (by kernel_rfl) (by decide) (hj3 g10)
          · exact J.conv2 [0, 1, 8, 9] [2] [] [0] (by kernel_rfl) (by kernel_rfl) (by kernel_rfl) (by kernel_rfl) (by decide) h_
      · refine J.drawS (by kernel_rfl) [(0, some 30, .slice h0.1 a1.length h0.2), (1, some 31, .int .i64 (IntKind.wrap .i64 ((IntKind.wrap .u64 a2).tmod (IntKind.wrap .u64 (a1.length : Int))))), (4, some 34, .slice h0.1 a1.length h0.2), (5, some 35, .int .i64 (IntKind.wrap .i64 ((IntKind.wrap .u64 a2).tmod (IntKind.wrap .u64 (a1.length : Int)))))] ([0, 1, 4, 5] ++ []) (by kernel_rfl) ?_
        refine D.mid (cs := [2, 6]) [0, 1, 4, 5] [] [] [] (by kernel_rfl) (by kernel_rfl) trivial (by kernel_rfl) ⟨?_, ?_, trivial⟩
        · refine EvStep.mk (some 32) (new := fun p4_2 => []) ([4, 5] ++ []) (by kernel_rfl) (Ev.cut (d := kd40) (xs := a1) (t := 22) (x := .tmp 30) (lo := (some (.tmp 31))) (hi := none) (vlo := (some (.int .i64 (IntKind.wrap .i64 ((IntKind.wrap .u64 a2).tmod (IntKind.wrap .u64 (a1.length : Int))))))) (vhi := none) (A := h0.1) (c := h0.2) (l := ((IntKind.wrap .i64 ((IntKind.wrap .u64 a2).tmod (IntKind.wrap .u64 (a1.length : Int)))) : Int).toNat) (h := ((a1.length : Int) : Int).toNat) 0 (by kernel_rfl) (by kernel_rfl) (by kernel_rfl) (by kernel_rfl) (by kernel_rfl) (Bd.val _ _ _ (by omega)) (Bd.dflt _) (by omega) (by omega) rfl) (fun p4_2 => by kernel_rfl) (fun p4_2 => ?_)
          refine D.mid (cs := [3, 6]) [4, 5] [] [] [] (by kernel_rfl) (by kernel_rfl) trivial (by kernel_rfl) ⟨?_, ?_, trivial⟩
          · refine EvStep.mk (some 33) (new := fun p4_3 => []) ([4, 5] ++ []) (by kernel_rfl) (Ev.call0 (xs := [.tmp 32]) [0] (by kernel_rfl) (by kernel_rfl) (fun w hS => haywainlaw05_own.con K (cutL a1 (((IntKind.wrap .i64 ((IntKind.wrap .u64 a2).tmod (IntKind.wrap .u64 (a1.length : Int)))) : Int).toNat) (((a1.length : Int) : Int).toNat)) p4_2  _ _ w hS hx4_3)) (fun p4_3 => by kernel_rfl) (fun p4_3 => ?_)
            refine D.mid (cs := [6]) [4, 5] [] [] [] (by kernel_rfl) (by kernel_rfl) trivial (by kernel_rfl) ⟨?_, trivial⟩
            refine EvStep.mk (some 36) (new := fun p4_6 => []) ([] ++ []) (by kernel_rfl) (Ev.cut (d := kd40) (xs := a1) (t := 22) (x := .tmp 34) (lo := none) (hi := (some (.tmp 35))) (vlo := none) (vhi := (some (.int .i64 (IntKind.wrap .i64 ((IntKind.wrap .u64 a2).tmod (IntKind.wrap .u64 (a1.length : Int))))))) (A := h0.1) (c := h0.2) (l := (0 : Int).toNat) (h := ((IntKind.wrap .i64 ((IntKind.wrap .u64 a2).tmod (IntKind.wrap .u64 (a1.length : Int)))) : Int).toNat) 1 (by kernel_rfl) (by kernel_rfl) (by kernel_rfl) (by kernel_rfl) (by kernel_rfl) (Bd.dflt _) (Bd.val _ _ _ (by omega)) (by omega) (by omega) rfl) (fun p4_6 => by kernel_rfl) (fun p4_6 => ?_)
            refine D.mid (cs := [7]) [] [] [] [] (by kernel_rfl) (by kernel_rfl) trivial (by kernel_rfl) ⟨?_, trivial⟩
            refine EvStep.mk (some 37) (new := fun p4_7 => [(8, some 8, .slice p4_7.1 (x4_3 ++ (cutL a1 ((0 : Int).toNat) (((IntKind.wrap .i64 ((IntKind.wrap .u64 a2).tmod (IntKind.wrap .u64 (a1.length : Int)))) : Int).toNat))).length p4_7.2)]) ([8] ++ []) (by kernel_rfl) (Ev.appSl (d := kd40) (ys := (cutL a1 ((0 : Int).toNat) (((IntKind.wrap .i64 ((IntKind.wrap .u64 a2).tmod (IntKind.wrap .u64 (a1.length : Int)))) : Int).toNat))) (A := p4_6.1) (c := p4_6.2) (x := .tmp 33) (y := .tmp 36) (t := 22) (bytes := 16) 0 (by kernel_rfl) (by kernel_rfl) (by kernel_rfl) rfl (by kernel_rfl) (by decide) hy4_7a) (fun p4_7 => by kernel_rfl) (fun p4_7 => ?_)
            refine D.fin (fr' := [(0, .int .i64 a0), (1, .slice h0.1 a1.length h0.2), (8, .slice p4_7.1 (x4_3 ++ (cutL a1 ((0 : Int).toNat) (((IntKind.wrap .i64 ((IntKind.wrap .u64 a2).tmod (IntKind.wrap .u64 (a1.length : Int)))) : Int).toNat))).length p4_7.2)]) [8] [] [] [] [0, 1, 8] (by kernel_rfl) (by kernel_rfl) trivial (by kernel_rfl) ?_
            exact J.conv2 [0, 1, 8] [0, 1, 2] [] [0] (by kernel_rfl) (by kernel_rfl) (by kernel_rfl) (by kernel_rfl) (by decide) (hk_ (p4_2, p4_3, p4_6, p4_7))
          · refine EvStep.mk (some 36) (new := fun p4_6 => []) ([] ++ []) (by kernel_rfl) (Ev.cut (d := kd40) (xs := a1) (t := 22) (x := .tmp 34) (lo := none) (hi := (some (.tmp 35))) (vlo := none) (vhi := (some (.int .i64 (IntKind.wrap .i64 ((IntKind.wrap .u64 a2).tmod (IntKind.wrap .u64 (a1.length : Int))))))) (A := h0.1) (c := h0.2) (l := (0 : Int).toNat) (h := ((IntKind.wrap .i64 ((IntKind.wrap .u64 a2).tmod (IntKind.wrap .u64 (a1.length : Int)))) : Int).toNat) 1 (by kernel_rfl) (by kernel_rfl) (by kernel_rfl) (by kernel_rfl) (by kernel_rfl) (Bd.dflt _) (Bd.val _ _ _ (by omega)) (by omega) (by omega) rfl) (fun p4_6 => by kernel_rfl) (fun p4_6 => ?_)
            refine D.mid (cs := [3]) [] [] [] [] (by kernel_rfl) (by kernel_rfl) trivial (by kernel_rfl) ⟨?_, trivial⟩
            refine EvStep.mk (some 33) (new := fun p4_3 => []) ([] ++ []) (by kernel_rfl) (Ev.call0 (xs := [.tmp 32]) [1] (by kernel_rfl) (by kernel_rfl) (fun w hS => haywainlaw05_own.con K (cutL a1 (((IntKind.wrap .i64 ((IntKind.wrap .u64 a2).tmod (IntKind.wrap .u64 (a1.length : Int)))) : Int).toNat) (((a1.length : Int) : Int).toNat)) p4_2  _ _ w hS hx4_3)) (fun p4_3 => by kernel_rfl) (fun p4_3 => ?_)
            refine D.mid (cs := [7]) [] [] [] [] (by kernel_rfl) (by kernel_rfl) trivial (by kernel_rfl) ⟨?_, trivial⟩
            refine EvStep.mk (some 37) (new := fun p4_7 => [(8, some 8, .slice p4_7.1 (x4_3 ++ (cutL a1 ((0 : Int).toNat) (((IntKind.wrap .i64 ((IntKind.wrap .u64 a2).tmod (IntKind.wrap .u64 (a1.length : Int)))) : Int).toNat))).length p4_7.2)]) ([8] ++ []) (by kernel_rfl) (Ev.appSl (d := kd40) (ys := (cutL a1 ((0 : Int).toNat) (((IntKind.wrap .i64 ((IntKind.wrap .u64 a2).tmod (IntKind.wrap .u64 (a1.length : Int)))) : Int).toNat))) (A := p4_6.1) (c := p4_6.2) (x := .tmp 33) (y := .tmp 36) (t := 22) (bytes := 16) 0 (by kernel_rfl) (by kernel_rfl) (by kernel_rfl) rfl (by kernel_rfl) (by decide) hy4_7a) (fun p4_7 => by kernel_rfl) (fun p4_7 => ?_)
            refine D.fin (fr' := [(0, .int .i64 a0), (1, .slice h0.1 a1.length h0.2), (8, .slice p4_7.1 (x4_3 ++ (cutL a1 ((0 : Int).toNat) (((IntKind.wrap .i64 ((IntKind.wrap .u64 a2).tmod (IntKind.wrap .u64 (a1.length : Int)))) : Int).toNat))).length p4_7.2)]) [8] [] [] [] [0, 1, 8] (by kernel_rfl) (by kernel_rfl) trivial (by kernel_rfl) ?_
            exact J.conv2 [0, 1, 8] [0, 1, 2] [] [0] (by kernel_rfl) (by kernel_rfl) (by kernel_rfl) (by kernel_rfl) (by decide) (hk_ (p4_2, p4_3, p4_6, p4_7))
        · refine EvStep.mk (some 36) (new := fun p4_6 => []) ([0, 1] ++ []) (by kernel_rfl) (Ev.cut (d := kd40) (xs := a1) (t := 22) (x := .tmp 34) (lo := none) (hi := (some (.tmp 35))) (vlo := none) (vhi := (some (.int .i64 (IntKind.wrap .i64 ((IntKind.wrap .u64 a2).tmod (IntKind.wrap .u64 (a1.length : Int))))))) (A := h0.1) (c := h0.2) (l := (0 : Int).toNat) (h := ((IntKind.wrap .i64 ((IntKind.wrap .u64 a2).tmod (IntKind.wrap .u64 (a1.length : Int)))) : Int).toNat) 0 (by kernel_rfl) (by kernel_rfl) (by kernel_rfl) (by kernel_rfl) (by kernel_rfl) (Bd.dflt _) (Bd.val _ _ _ (by omega)) (by omega) (by omega) rfl) (fun p4_6 => by kernel_rfl) (fun p4_6 => ?_)
          refine D.mid (cs := [2]) [0, 1] [] [] [] (by kernel_rfl) (by kernel_rfl) trivial (by kernel_rfl) ⟨?_, trivial⟩
          refine EvStep.mk (some 32) (new := fun p4_2 => []) ([] ++ []) (by kernel_rfl) (Ev.cut (d := kd40) (xs := a1) (t := 22) (x := .tmp 30) (lo := (some (.tmp 31))) (hi := none) (vlo := (some (.int .i64 (IntKind.wrap .i64 ((IntKind.wrap .u64 a2).tmod (IntKind.wrap .u64 (a1.length : Int))))))) (vhi := none) (A := h0.1) (c := h0.2) (l := ((IntKind.wrap .i64 ((IntKind.wrap .u64 a2).tmod (IntKind.wrap .u64 (a1.length : Int)))) : Int).toNat) (h := ((a1.length : Int) : Int).toNat) 1 (by kernel_rfl) (by kernel_rfl) (by kernel_rfl) (by kernel_rfl) (by kernel_rfl) (Bd.val _ _ _ (by omega)) (Bd.dflt _) (by omega) (by omega) rfl) (fun p4_2 => by kernel_rfl) (fun p4_2 => ?_)
          refine D.mid (cs := [3]) [] [] [] [] (by kernel_rfl) (by kernel_rfl) trivial (by kernel_rfl) ⟨?_, trivial⟩
          refine EvStep.mk (some 33) (new := fun p4_3 => []) ([] ++ []) (by kernel_rfl) (Ev.call0 (xs := [.tmp 32]) [0] (by kernel_rfl) (by kernel_rfl) (fun w hS => haywainlaw05_own.con K (cutL a1 (((IntKind.wrap .i64 ((IntKind.wrap .u64 a2).tmod (IntKind.wrap .u64 (a1.length : Int)))) : Int).toNat) (((a1.length : Int) : Int).toNat)) p4_2  _ _ w hS hx4_3)) (fun p4_3 => by kernel_rfl) (fun p4_3 => ?_)
          refine D.mid (cs := [7]) [] [] [] [] (by kernel_rfl) (by kernel_rfl) trivial (by kernel_rfl) ⟨?_, trivial⟩
          refine EvStep.mk (some 37) (new := fun p4_7 => [(8, some 8, .slice p4_7.1 (x4_3 ++ (cutL a1 ((0 : Int).toNat) (((IntKind.wrap .i64 ((IntKind.wrap .u64 a2).tmod (IntKind.wrap .u64 (a1.length : Int)))) : Int).toNat))).length p4_7.2)]) ([8] ++ []) (by kernel_rfl) (Ev.appSl (d := kd40) (ys := (cutL a1 ((0 : Int).toNat) (((IntKind.wrap .i64 ((IntKind.wrap .u64 a2).tmod (IntKind.wrap .u64 (a1.length : Int)))) : Int).toNat))) (A := p4_6.1) (c := p4_6.2) (x := .tmp 33) (y := .tmp 36) (t := 22) (bytes := 16) 1 (by kernel_rfl) (by kernel_rfl) (by kernel_rfl) rfl (by kernel_rfl) (by decide) hy4_7a) (fun p4_7 => by kernel_rfl) (fun p4_7 => ?_)
          refine D.fin (fr' := [(0, .int .i64 a0), (1, .slice h0.1 a1.length h0.2), (8, .slice p4_7.1 (x4_3 ++ (cutL a1 ((0 : Int).toNat) (((IntKind.wrap .i64 ((IntKind.wrap .u64 a2).tmod (IntKind.wrap .u64 (a1.length : Int)))) : Int).toNat))).length p4_7.2)]) [8] [] [] [] [0, 1, 8] (by kernel_rfl) (by kernel_rfl) trivial (by kernel_rfl) ?_
          exact J.conv2 [0, 1, 8] [1, 0, 2] [] [0] (by kernel_rfl) (by kernel_rfl) (by kernel_rfl) (by kernel_rfl) (by decide) (hk_ (p4_2, p4_3, p4_6, p4_7))
def haywainlaw05_BoxTurns.Pure : Prop := ∀ (a0 : Int) (a1 : List S40) (a2 : Int), ((Lit.int .i64 a0).wf = true) → (a1.length * 16 ≤ 140737488351232 ∧ ∀ x_ ∈ a1, wf40 x_) → ((Lit.int .i64 a2).wf = true) → ∃ K, haywainlaw05_BoxTurns.f K a0 a1 a2 = some true
end Go.Proofs.Ytdbeannfjjbegaa.G
