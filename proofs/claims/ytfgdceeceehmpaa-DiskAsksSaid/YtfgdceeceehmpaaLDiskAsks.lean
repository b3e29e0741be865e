/- The law DiskAsks as plain Lean, with its contract; printed by a program of this session. -/
import Derived.Test.YtfgdceeceehmpaaG2
set_option linter.unusedVariables false
set_option linter.unusedSimpArgs false
namespace Go.Proofs.Ytfgdceeceehmpaa.G
open Go Go.RowKit Go.Hw
/-! ### haywain/haywainlaw13.DiskAsks: function 3 -/
def haywainlaw13_DiskAsks.l8 (K : Nat) (x3_2 : List S39) (x7_1 : List ByteArray) : Nat → Int → Option Bool
  | 0, _ => none
  | k + 1, s8 => cond (decide (s8 < (x7_1.length : Int))) ((idxO x7_1 s8).bind fun x13_2 => (idxO x3_2 s8).bind fun x13_6 => cond (!(x13_2.toList == x13_6.f0.toList)) (some (false)) (haywainlaw13_DiskAsks.l8 K x3_2 x7_1 k (IntKind.wrap .i64 (s8 + 1)))) ((haywainlaw13_knows.f K).bind fun x15_0 => some (x15_0))
def haywainlaw13_DiskAsks.l17 (K : Nat) (x3_2 : List S39) (x7_1 : List ByteArray) : Nat → Int → Option Bool
  | 0, _ => none
  | k + 1, s17 => cond (decide (s17 < (x7_1.length : Int))) ((idxO x7_1 s17).bind fun x13_2 => (idxO x3_2 s17).bind fun x13_6 => cond (!(x13_2.toList == x13_6.f0.toList)) (some (false)) (haywainlaw13_DiskAsks.l17 K x3_2 x7_1 k (IntKind.wrap .i64 (s17 + 1)))) ((haywainlaw13_knows.f K).bind fun x15_0 => some (x15_0))
def haywainlaw13_DiskAsks.f (K : Nat) (a0 : S24) (a1 : ByteArray) : Option Bool := (haywainlaw13_great.f K a0).bind fun x1_1 => cond x1_1 ((haywainlaw13_knows.f K).bind fun x2_0 => some (x2_0)) (cond (decide ((a1.size : Int) > 100)) ((haywainlaw13_knows.f K).bind fun x2_0 => some (x2_0)) ((haywainlaw13_As.f K a0).bind fun x3_1 => (haywainref13_Good.f K x3_1).bind fun x3_2 => (disk_Get.f K a0 a1).bind fun x4_2 => (haywainref13_Has.f K x3_2 a1).bind fun x5_2 => cond (!(x5_2 == (x4_2.2 == 0))) (some (false)) (cond (x4_2.2 != 0) (cond (x4_2.2 != 4) (some (false)) ((haywainref13_Get.f K x3_2 a1).bind fun x5_19 => cond (!((strOfNums x4_2.1).toList == (strOfNums x5_19).toList)) (some (false)) ((disk_Names.f K a0).bind fun x7_1 => cond ((x7_1.length : Int) != (x3_2.length : Int)) (some (false)) (haywainlaw13_DiskAsks.l8 K x3_2 x7_1 K 0)))) ((haywainref13_Get.f K x3_2 a1).bind fun x5_19 => cond (!((strOfNums x4_2.1).toList == (strOfNums x5_19).toList)) (some (false)) ((disk_Names.f K a0).bind fun x7_1 => cond ((x7_1.length : Int) != (x3_2.length : Int)) (some (false)) (haywainlaw13_DiskAsks.l17 K x3_2 x7_1 K 0))))))
set_option maxRecDepth 100000 in
set_option maxHeartbeats 1000000 in
theorem haywainlaw13_DiskAsks.con (K : Nat) (a0 : S24) (a1 : ByteArray) (h0 : Hd) (r : Bool) (X : Nat → Nat → Prop) (w : World) (hS : St X w [] [] [] [] [Rd kd43 h0.1 h0.2 a0.f0] w) (H : haywainlaw13_DiskAsks.f K a0 a1 = some r) :
    Cn Try.prog 3 [.agg #[.slice h0.1 a0.f0.length h0.2], .string a1] X w [] (fun i : Unit => .bool r) (fun i => []) (fun i => []) (fun i => []) := by
  refine Cn.of Try.func3 (by kernel_rfl) hS ?_
  unfold haywainlaw13_DiskAsks.f at H
  refine J.seq (by kernel_rfl) ?_
  refine J.region (by kernel_rfl) ?_
  refine O.e (some 2) (Ev.box (t := 24) (x := .tmp 0) (v := .agg #[.slice h0.1 a0.f0.length h0.2]) (by kernel_rfl) (by kernel_rfl)) (by kernel_rfl) (fun p0_0 => ?_)
  refine O.pure 1 [] [1, 2] [] (fr' := [(1, .string a1), (2, .pointer (some ⟨p0_0, 0, none⟩))]) (bx' := [⟨p0_0, [.slice h0.1 a0.f0.length h0.2], 24⟩]) (by kernel_rfl) ?_
  refine O.nil (by kernel_rfl) ?_
  refine J.seq (by kernel_rfl) ?_
  refine J.seq (by kernel_rfl) ?_
  obtain ⟨x1_1, hx1_1, H⟩ := bindE H
  rcases condE H with ⟨hc1, H⟩ | ⟨hc1, H⟩
  · refine J.region (by kernel_rfl) ?_
    refine O.pure 1 [(0, 0)] [1, 2, 10] [p0_0, 0] (fr' := [(1, .string a1), (2, .pointer (some ⟨p0_0, 0, none⟩)), (10, .agg #[.slice h0.1 a0.f0.length h0.2])]) (bx' := [⟨p0_0, [.slice h0.1 a0.f0.length h0.2], 24⟩]) (by kernel_rfl) ?_
    refine O.e (some 11) (Ev.call0 (xs := [.tmp 10]) [0] (by kernel_rfl) (by kernel_rfl) (fun w hS => haywainlaw13_great.con K a0 h0  _ _ w hS hx1_1)) (by kernel_rfl) (fun _ => ?_)
    refine O.q (v := .bool true) (some 12) (Qu.eqv (u := .bool x1_1) (v := .bool true) (0, 0) [] (by kernel_rfl) (congrArg Value.bool hc1)) (by kernel_rfl) ?_
    refine O.pure 4 [] [1, 2, 16] [] (fr' := [(1, .string a1), (2, .pointer (some ⟨p0_0, 0, none⟩)), (16, .bool true)]) (bx' := [⟨p0_0, [.slice h0.1 a0.f0.length h0.2], 24⟩]) (by kernel_rfl) ?_
    refine O.nil (by kernel_rfl) ?_
    refine J.cond (o := .tmp 16) true (by kernel_rfl) (by kernel_rfl) ?_
    refine J.seq (by kernel_rfl) ?_
    obtain ⟨x2_0, hx2_0, H⟩ := bindE H
    refine J.region (by kernel_rfl) ?_
    refine O.e (some 17) (Ev.call0 (xs := []) [] (by kernel_rfl) (by kernel_rfl) (fun w hS => haywainlaw13_knows.con K  _ _ w hS hx2_0)) (by kernel_rfl) (fun _ => ?_)
    refine O.pure 1 [] [4] [] (fr' := [(4, .bool x2_0)]) (bx' := [⟨p0_0, [.slice h0.1 a0.f0.length h0.2], 24⟩]) (by kernel_rfl) ?_
    refine O.nil (by kernel_rfl) ?_
    obtain rfl := Option.some.inj H
    exact J.doneS [] [] [] [] [] () (vs := [.bool x2_0]) (by kernel_rfl) (by kernel_rfl) (by kernel_rfl) (by kernel_rfl) (by kernel_rfl) (by decide)
  · refine J.region (by kernel_rfl) ?_
    refine O.pure 1 [(0, 0)] [1, 2, 10] [p0_0, 0] (fr' := [(1, .string a1), (2, .pointer (some ⟨p0_0, 0, none⟩)), (10, .agg #[.slice h0.1 a0.f0.length h0.2])]) (bx' := [⟨p0_0, [.slice h0.1 a0.f0.length h0.2], 24⟩]) (by kernel_rfl) ?_
    refine O.e (some 11) (Ev.call0 (xs := [.tmp 10]) [0] (by kernel_rfl) (by kernel_rfl) (fun w hS => haywainlaw13_great.con K a0 h0  _ _ w hS hx1_1)) (by kernel_rfl) (fun _ => ?_)
    refine O.q (v := .bool false) (some 12) (Qu.eqv (u := .bool x1_1) (v := .bool false) (0, 0) [] (by kernel_rfl) (congrArg Value.bool hc1)) (by kernel_rfl) ?_
    refine O.pure 4 [] [1, 2, 16] [] (fr' := [(1, .string a1), (2, .pointer (some ⟨p0_0, 0, none⟩)), (16, .bool (decide ((a1.size : Int) > 100)))]) (bx' := [⟨p0_0, [.slice h0.1 a0.f0.length h0.2], 24⟩]) (by kernel_rfl) ?_
    refine O.nil (by kernel_rfl) ?_
    rcases condE H with ⟨hc2, H⟩ | ⟨hc2, H⟩
    · refine J.condT (x := .tmp 16) (t := (decide ((a1.size : Int) > 100))) (by kernel_rfl) (by kernel_rfl) hc2 ?_
      refine J.seq (by kernel_rfl) ?_
      obtain ⟨x2_0, hx2_0, H⟩ := bindE H
      refine J.region (by kernel_rfl) ?_
      refine O.e (some 17) (Ev.call0 (xs := []) [] (by kernel_rfl) (by kernel_rfl) (fun w hS => haywainlaw13_knows.con K  _ _ w hS hx2_0)) (by kernel_rfl) (fun _ => ?_)
      refine O.pure 1 [] [4] [] (fr' := [(4, .bool x2_0)]) (bx' := [⟨p0_0, [.slice h0.1 a0.f0.length h0.2], 24⟩]) (by kernel_rfl) ?_
      refine O.nil (by kernel_rfl) ?_
      obtain rfl := Option.some.inj H
      exact J.doneS [] [] [] [] [] () (vs := [.bool x2_0]) (by kernel_rfl) (by kernel_rfl) (by kernel_rfl) (by kernel_rfl) (by kernel_rfl) (by decide)
    · refine J.condF (x := .tmp 16) (t := (decide ((a1.size : Int) > 100))) (by kernel_rfl) (by kernel_rfl) hc2 ?_
      refine J.skip (by kernel_rfl) ?_
      refine J.seq (by kernel_rfl) ?_
      obtain ⟨x3_1, hx3_1, H⟩ := bindE H
      obtain ⟨x3_2, hx3_2, H⟩ := bindE H
      refine J.region (by kernel_rfl) ?_
      refine O.pure 1 [(0, 0)] [1, 2, 18] [p0_0, 0] (fr' := [(1, .string a1), (2, .pointer (some ⟨p0_0, 0, none⟩)), (18, .agg #[.slice h0.1 a0.f0.length h0.2])]) (bx' := [⟨p0_0, [.slice h0.1 a0.f0.length h0.2], 24⟩]) (by kernel_rfl) ?_
      refine O.e (some 19) (Ev.call0 (xs := [.tmp 18]) [0] (by kernel_rfl) (by kernel_rfl) (fun w hS => haywainlaw13_As.con K a0 h0  _ _ w hS hx3_1)) (by kernel_rfl) (fun p3_1 => ?_)
      refine O.e (some 20) (Ev.mono (fun w hS => hS.freezeH (h := p3_1) (xs := x3_1)) (Ev.call0 (xs := [.tmp 19]) [0] (by kernel_rfl) (by kernel_rfl) (fun w hS => haywainref13_Good.con K x3_1 p3_1  _ _ w hS hx3_2))) (by kernel_rfl) (fun p3_2 => ?_)
      refine O.pure 1 [] [1, 2, 5] [] (fr' := [(1, .string a1), (2, .pointer (some ⟨p0_0, 0, none⟩)), (5, .slice p3_2.1 x3_2.length p3_2.2)]) (bx' := [⟨p0_0, [.slice h0.1 a0.f0.length h0.2], 24⟩]) (by kernel_rfl) ?_
      refine O.nil (by kernel_rfl) ?_
      refine J.seq (by kernel_rfl) ?_
      obtain ⟨x4_2, hx4_2, H⟩ := bindE H
      refine J.region (by kernel_rfl) ?_
      refine O.pure 2 [(0, 0)] [1, 2, 5, 22, 23] [p0_0, 0] (fr' := [(1, .string a1), (2, .pointer (some ⟨p0_0, 0, none⟩)), (5, .slice p3_2.1 x3_2.length p3_2.2), (22, .agg #[.slice h0.1 a0.f0.length h0.2]), (23, .string a1)]) (bx' := [⟨p0_0, [.slice h0.1 a0.f0.length h0.2], 24⟩]) (by kernel_rfl) ?_
      refine O.e (some 24) (Ev.call0 (xs := [.tmp 22, .tmp 23]) [2] (by kernel_rfl) (by kernel_rfl) (fun w hS => disk_Get.con K a0 a1 h0  _ _ w hS hx4_2)) (by kernel_rfl) (fun p4_2 => ?_)
      refine O.pure 5 [] [1, 2, 5, 6, 7] [] (fr' := [(1, .string a1), (2, .pointer (some ⟨p0_0, 0, none⟩)), (5, .slice p3_2.1 x3_2.length p3_2.2), (6, .slice p4_2.1 x4_2.1.length p4_2.2), (7, .int .i64 x4_2.2)]) (bx' := [⟨p0_0, [.slice h0.1 a0.f0.length h0.2], 24⟩]) (by kernel_rfl) ?_
      refine O.nil (by kernel_rfl) ?_
      refine J.seq (by kernel_rfl) ?_
      refine J.seq (by kernel_rfl) ?_
      obtain ⟨x5_2, hx5_2, H⟩ := bindE H
      rcases condE H with ⟨hc3, H⟩ | ⟨hc3, H⟩
      · refine J.drawS (by kernel_rfl) [(0, some 27, .slice p3_2.1 x3_2.length p3_2.2), (1, some 28, .string a1), (3, some 30, .int .i64 x4_2.2), (4, some 31, .bool (x4_2.2 == 0))] ([0, 1, 3, 4] ++ []) (by kernel_rfl) ?_
        refine D.mid (cs := [2]) [0, 1, 3, 4] [] [] [] (by kernel_rfl) (by kernel_rfl) trivial (by kernel_rfl) ⟨?_, trivial⟩
        refine EvStep.mk (some 29) (new := fun _ => [(5, some 32, .bool true), (6, some 33, .bool true), (7, some 34, undef), (8, some 35, undef), (9, some 36, undef), (10, some 37, undef), (11, some 38, undef), (12, some 39, undef), (13, some 40, .bool true), (14, some 41, .bool true), (15, some 42, undef), (16, some 43, undef), (17, some 44, undef), (18, some 45, undef), (19, some 46, undef), (20, some 47, undef), (21, some 48, undef), (22, some 49, .bool true)]) ([3, 4, 6, 7, 8, 9, 10, 11, 12, 13, 14, 15, 16, 17, 18, 19, 20, 21, 22] ++ [5]) (by kernel_rfl) (Ev.call0 (xs := [.tmp 27, .tmp 28]) [1] (by kernel_rfl) (by kernel_rfl) (fun w hS => haywainref13_Has.con K x3_2 a1 p3_2  _ _ w hS hx5_2)) (fun _ => by kernel_rfl) (fun _ => ?_)
        refine D.fin (fr' := [(2, .pointer (some ⟨p0_0, 0, none⟩)), (5, .slice p3_2.1 x3_2.length p3_2.2), (49, .bool true)]) [3, 4, 6, 7, 8, 9, 10, 11, 12, 13, 14, 15, 16, 17, 18, 19, 20, 21, 22] [5] [] [] [2, 5, 49] (by kernel_rfl) (by kernel_rfl) (⟨QuAt.mk (v := .bool true) (some 32) (by kernel_rfl) (by kernel_rfl) (Qu.as (congrArg Value.bool hc3) (Qu.binT (op := .neq) (t := 4) (t' := 4) (x := .tmp 29) (y := .tmp 31) (u := .bool x5_2) (v := .bool (x4_2.2 == 0)) (by kernel_rfl) (by kernel_rfl) (by kernel_rfl) (by kernel_rfl))), trivial⟩) (by kernel_rfl) ?_
        refine J.cond (o := .tmp 49) true (by kernel_rfl) (by kernel_rfl) ?_
        refine J.seq (by kernel_rfl) ?_
        refine J.region (by kernel_rfl) ?_
        refine O.pure 1 [] [4] [] (fr' := [(4, .bool false)]) (bx' := [⟨p0_0, [.slice h0.1 a0.f0.length h0.2], 24⟩]) (by kernel_rfl) ?_
        refine O.nil (by kernel_rfl) ?_
        obtain rfl := Option.some.inj H
        exact J.doneS [] [] [] [] [] () (vs := [.bool false]) (by kernel_rfl) (by kernel_rfl) (by kernel_rfl) (by kernel_rfl) (by kernel_rfl) (by decide)
      · rcases condE H with ⟨hc4, H⟩ | ⟨hc4, H⟩
        · rcases condE H with ⟨hc5, H⟩ | ⟨hc5, H⟩
          · refine J.drawS (by kernel_rfl) [(0, some 27, .slice p3_2.1 x3_2.length p3_2.2), (1, some 28, .string a1), (3, some 30, .int .i64 x4_2.2), (4, some 31, .bool (x4_2.2 == 0))] ([0, 1, 3, 4] ++ []) (by kernel_rfl) ?_
            refine D.mid (cs := [2]) [0, 1, 3, 4] [] [] [] (by kernel_rfl) (by kernel_rfl) trivial (by kernel_rfl) ⟨?_, trivial⟩
            refine EvStep.mk (some 29) (new := fun _ => [(5, some 32, .bool false), (6, some 33, .bool false), (7, some 34, .int .i64 x4_2.2), (8, some 35, .bool true), (9, some 36, .bool true), (10, some 37, .int .i64 x4_2.2), (11, some 38, .bool true), (12, some 39, .bool true), (13, some 40, .bool true), (14, some 41, .bool true), (15, some 42, undef), (16, some 43, undef), (17, some 44, undef), (18, some 45, undef), (19, some 46, undef), (20, some 47, undef), (21, some 48, undef), (22, some 49, .bool true)]) ([3, 4, 6, 7, 9, 10, 12, 13, 14, 15, 16, 17, 18, 19, 20, 21, 22] ++ [5, 8, 11]) (by kernel_rfl) (Ev.call0 (xs := [.tmp 27, .tmp 28]) [1] (by kernel_rfl) (by kernel_rfl) (fun w hS => haywainref13_Has.con K x3_2 a1 p3_2  _ _ w hS hx5_2)) (fun _ => by kernel_rfl) (fun _ => ?_)
            refine D.fin (fr' := [(2, .pointer (some ⟨p0_0, 0, none⟩)), (5, .slice p3_2.1 x3_2.length p3_2.2), (49, .bool true)]) [3, 4, 6, 7, 9, 10, 12, 13, 14, 15, 16, 17, 18, 19, 20, 21, 22] [5, 8, 11] [] [] [2, 5, 49] (by kernel_rfl) (by kernel_rfl) (⟨QuAt.mk (v := .bool false) (some 32) (by kernel_rfl) (by kernel_rfl) (Qu.as (congrArg Value.bool hc3) (Qu.binT (op := .neq) (t := 4) (t' := 4) (x := .tmp 29) (y := .tmp 31) (u := .bool x5_2) (v := .bool (x4_2.2 == 0)) (by kernel_rfl) (by kernel_rfl) (by kernel_rfl) (by kernel_rfl))), QuAt.mk (v := .bool true) (some 35) (by kernel_rfl) (by kernel_rfl) (Qu.eqv (u := .bool (x4_2.2 != 0)) (v := .bool true) (0, 0) [] (by kernel_rfl) (congrArg Value.bool hc4)), QuAt.mk (v := .bool true) (some 38) (by kernel_rfl) (by kernel_rfl) (Qu.eqv (u := .bool (x4_2.2 != 4)) (v := .bool true) (0, 0) [] (by kernel_rfl) (congrArg Value.bool hc5)), trivial⟩) (by kernel_rfl) ?_
            refine J.cond (o := .tmp 49) true (by kernel_rfl) (by kernel_rfl) ?_
            refine J.seq (by kernel_rfl) ?_
            refine J.region (by kernel_rfl) ?_
            refine O.pure 1 [] [4] [] (fr' := [(4, .bool false)]) (bx' := [⟨p0_0, [.slice h0.1 a0.f0.length h0.2], 24⟩]) (by kernel_rfl) ?_
            refine O.nil (by kernel_rfl) ?_
            obtain rfl := Option.some.inj H
            exact J.doneS [] [] [] [] [] () (vs := [.bool false]) (by kernel_rfl) (by kernel_rfl) (by kernel_rfl) (by kernel_rfl) (by kernel_rfl) (by decide)
          · obtain ⟨x5_19, hx5_19, H⟩ := bindE H
            refine J.drawS (by kernel_rfl) [(0, some 27, .slice p3_2.1 x3_2.length p3_2.2), (1, some 28, .string a1), (3, some 30, .int .i64 x4_2.2), (4, some 31, .bool (x4_2.2 == 0))] ([0, 1, 3, 4] ++ []) (by kernel_rfl) ?_
            refine D.mid (cs := [2]) [0, 1, 3, 4] [] [] [] (by kernel_rfl) (by kernel_rfl) trivial (by kernel_rfl) ⟨?_, trivial⟩
            refine EvStep.mk (some 29) (new := fun _ => [(5, some 32, .bool false), (6, some 33, .bool false), (7, some 34, .int .i64 x4_2.2), (8, some 35, .bool true), (9, some 36, .bool true), (10, some 37, .int .i64 x4_2.2), (11, some 38, .bool false), (12, some 39, .bool false), (13, some 40, .bool false), (14, some 41, .bool false), (15, some 42, .slice p4_2.1 x4_2.1.length p4_2.2), (16, some 43, .string (strOfNums x4_2.1)), (17, some 44, .slice p3_2.1 x3_2.length p3_2.2), (18, some 45, .string a1)]) ([3, 4, 6, 7, 9, 10, 12, 13, 14, 15, 17, 18] ++ [5, 8, 11, 16]) (by kernel_rfl) (Ev.call0 (xs := [.tmp 27, .tmp 28]) [1] (by kernel_rfl) (by kernel_rfl) (fun w hS => haywainref13_Has.con K x3_2 a1 p3_2  _ _ w hS hx5_2)) (fun _ => by kernel_rfl) (fun _ => ?_)
            refine D.mid (cs := [19]) [3, 4, 6, 7, 9, 10, 12, 13, 14, 15, 17, 18] [5, 8, 11, 16] [] [] (by kernel_rfl) (by kernel_rfl) (⟨QuAt.mk (v := .bool false) (some 32) (by kernel_rfl) (by kernel_rfl) (Qu.as (congrArg Value.bool hc3) (Qu.binT (op := .neq) (t := 4) (t' := 4) (x := .tmp 29) (y := .tmp 31) (u := .bool x5_2) (v := .bool (x4_2.2 == 0)) (by kernel_rfl) (by kernel_rfl) (by kernel_rfl) (by kernel_rfl))), QuAt.mk (v := .bool true) (some 35) (by kernel_rfl) (by kernel_rfl) (Qu.eqv (u := .bool (x4_2.2 != 0)) (v := .bool true) (0, 0) [] (by kernel_rfl) (congrArg Value.bool hc4)), QuAt.mk (v := .bool false) (some 38) (by kernel_rfl) (by kernel_rfl) (Qu.eqv (u := .bool (x4_2.2 != 4)) (v := .bool false) (0, 0) [] (by kernel_rfl) (congrArg Value.bool hc5)), QuAt.mk (v := .string (strOfNums x4_2.1)) (some 43) (by kernel_rfl) (by kernel_rfl) (Qu.str (t := 30) (u := 9) (x := .tmp 42) (h := p4_2) (xs := x4_2.1) 0 (by kernel_rfl) (by kernel_rfl) (by kernel_rfl) (by kernel_rfl) rfl), trivial⟩) (by kernel_rfl) ⟨?_, trivial⟩
            refine EvStep.mk (some 46) (new := fun p5_19 => [(20, some 47, .string (strOfNums x5_19)), (21, some 48, .bool (!((strOfNums x4_2.1).toList == (strOfNums x5_19).toList))), (22, some 49, .bool (!((strOfNums x4_2.1).toList == (strOfNums x5_19).toList)))]) ([3, 4, 6, 7, 9, 10, 12, 13, 15, 21, 22] ++ [5, 8, 11, 16, 20]) (by kernel_rfl) (Ev.call0 (xs := [.tmp 44, .tmp 45]) [1] (by kernel_rfl) (by kernel_rfl) (fun w hS => haywainref13_Get.con K x3_2 a1 p3_2  _ _ w hS hx5_19)) (fun p5_19 => by kernel_rfl) (fun p5_19 => ?_)
            refine D.fin (fr' := [(2, .pointer (some ⟨p0_0, 0, none⟩)), (5, .slice p3_2.1 x3_2.length p3_2.2), (49, .bool (!((strOfNums x4_2.1).toList == (strOfNums x5_19).toList)))]) [3, 4, 6, 7, 9, 10, 12, 13, 15, 21, 22] [5, 8, 11, 16, 20] [] [] [2, 5, 49] (by kernel_rfl) (by kernel_rfl) (⟨QuAt.mk (v := .bool false) (some 32) (by kernel_rfl) (by kernel_rfl) (Qu.as (congrArg Value.bool hc3) (Qu.binT (op := .neq) (t := 4) (t' := 4) (x := .tmp 29) (y := .tmp 31) (u := .bool x5_2) (v := .bool (x4_2.2 == 0)) (by kernel_rfl) (by kernel_rfl) (by kernel_rfl) (by kernel_rfl))), QuAt.mk (v := .bool true) (some 35) (by kernel_rfl) (by kernel_rfl) (Qu.eqv (u := .bool (x4_2.2 != 0)) (v := .bool true) (0, 0) [] (by kernel_rfl) (congrArg Value.bool hc4)), QuAt.mk (v := .bool false) (some 38) (by kernel_rfl) (by kernel_rfl) (Qu.eqv (u := .bool (x4_2.2 != 4)) (v := .bool false) (0, 0) [] (by kernel_rfl) (congrArg Value.bool hc5)), QuAt.mk (v := .string (strOfNums x4_2.1)) (some 43) (by kernel_rfl) (by kernel_rfl) (Qu.str (t := 30) (u := 9) (x := .tmp 42) (h := p4_2) (xs := x4_2.1) 1 (by kernel_rfl) (by kernel_rfl) (by kernel_rfl) (by kernel_rfl) rfl), QuAt.mk (v := .string (strOfNums x5_19)) (some 47) (by kernel_rfl) (by kernel_rfl) (Qu.str (t := 30) (u := 9) (x := .tmp 46) (h := p5_19) (xs := x5_19) 0 (by kernel_rfl) (by kernel_rfl) (by kernel_rfl) (by kernel_rfl) rfl), trivial⟩) (by kernel_rfl) ?_
            rcases condE H with ⟨hc6, H⟩ | ⟨hc6, H⟩
            · refine J.condT (x := .tmp 49) (t := (!((strOfNums x4_2.1).toList == (strOfNums x5_19).toList))) (by kernel_rfl) (by kernel_rfl) hc6 ?_
              refine J.seq (by kernel_rfl) ?_
              refine J.region (by kernel_rfl) ?_
              refine O.pure 1 [] [4] [] (fr' := [(4, .bool false)]) (bx' := [⟨p0_0, [.slice h0.1 a0.f0.length h0.2], 24⟩]) (by kernel_rfl) ?_
              refine O.nil (by kernel_rfl) ?_
              obtain rfl := Option.some.inj H
              exact J.doneS [] [] [] [] [] () (vs := [.bool false]) (by kernel_rfl) (by kernel_rfl) (by kernel_rfl) (by kernel_rfl) (by kernel_rfl) (by decide)
            · refine J.condF (x := .tmp 49) (t := (!((strOfNums x4_2.1).toList == (strOfNums x5_19).toList))) (by kernel_rfl) (by kernel_rfl) hc6 ?_
              refine J.skip (by kernel_rfl) ?_
              refine J.seq (by kernel_rfl) ?_
              obtain ⟨x7_1, hx7_1, H⟩ := bindE H
              refine J.region (by kernel_rfl) ?_
              refine O.pure 1 [(0, 0)] [5, 50] [p0_0, 0] (fr' := [(5, .slice p3_2.1 x3_2.length p3_2.2), (50, .agg #[.slice h0.1 a0.f0.length h0.2])]) (bx' := [⟨p0_0, [.slice h0.1 a0.f0.length h0.2], 24⟩]) (by kernel_rfl) ?_
              refine O.e (some 51) (Ev.call0 (xs := [.tmp 50]) [4] (by kernel_rfl) (by kernel_rfl) (fun w hS => disk_Names.con K a0 h0  _ _ w hS hx7_1)) (by kernel_rfl) (fun p7_1 => ?_)
              refine O.pure 1 [] [5, 8] [] (fr' := [(5, .slice p3_2.1 x3_2.length p3_2.2), (8, .slice p7_1.1 x7_1.length p7_1.2)]) (bx' := [⟨p0_0, [.slice h0.1 a0.f0.length h0.2], 24⟩]) (by kernel_rfl) ?_
              refine O.nil (by kernel_rfl) ?_
              refine J.seq (by kernel_rfl) ?_
              refine J.seq (by kernel_rfl) ?_
              refine J.region (by kernel_rfl) ?_
              refine O.pure 5 [] [5, 8, 56] [] (fr' := [(5, .slice p3_2.1 x3_2.length p3_2.2), (8, .slice p7_1.1 x7_1.length p7_1.2), (56, .bool ((x7_1.length : Int) != (x3_2.length : Int)))]) (bx' := [⟨p0_0, [.slice h0.1 a0.f0.length h0.2], 24⟩]) (by kernel_rfl) ?_
              refine O.nil (by kernel_rfl) ?_
              rcases condE H with ⟨hc7, H⟩ | ⟨hc7, H⟩
              · refine J.condT (x := .tmp 56) (t := ((x7_1.length : Int) != (x3_2.length : Int))) (by kernel_rfl) (by kernel_rfl) hc7 ?_
                refine J.seq (by kernel_rfl) ?_
                refine J.region (by kernel_rfl) ?_
                refine O.pure 1 [] [4] [] (fr' := [(4, .bool false)]) (bx' := [⟨p0_0, [.slice h0.1 a0.f0.length h0.2], 24⟩]) (by kernel_rfl) ?_
                refine O.nil (by kernel_rfl) ?_
                obtain rfl := Option.some.inj H
                exact J.doneS [] [] [] [] [] () (vs := [.bool false]) (by kernel_rfl) (by kernel_rfl) (by kernel_rfl) (by kernel_rfl) (by kernel_rfl) (by decide)
              · refine J.condF (x := .tmp 56) (t := ((x7_1.length : Int) != (x3_2.length : Int))) (by kernel_rfl) (by kernel_rfl) hc7 ?_
                refine J.skip (by kernel_rfl) ?_
                refine J.seq (by kernel_rfl) ?_
                refine J.seq (by kernel_rfl) ?_
                refine J.region (by kernel_rfl) ?_
                refine O.pure 1 [] [5, 8, 9] [] (fr' := [(5, .slice p3_2.1 x3_2.length p3_2.2), (8, .slice p7_1.1 x7_1.length p7_1.2), (9, .int .i64 0)]) (bx' := [⟨p0_0, [.slice h0.1 a0.f0.length h0.2], 24⟩]) (by kernel_rfl) ?_
                refine O.nil (by kernel_rfl) ?_
                refine J.block (id := 0) (by kernel_rfl) ?_
                refine J.loopI (σ := Int) (γ := Unit) (f := fun m_ s_ => haywainlaw13_DiskAsks.l8 K x3_2 x7_1 m_ s_) (fun s8 g8 => [(5, .slice p3_2.1 x3_2.length p3_2.2), (8, .slice p7_1.1 x7_1.length p7_1.2), (9, .int .i64 s8)]) (fun s8 g8 => St X w [] [] [] [] [Rd kd39 p3_2.1 p3_2.2 x3_2, Rd kd43 h0.1 h0.2 a0.f0, Rd Kd.string p7_1.1 p7_1.2 x7_1]) K 0 () (by kernel_rfl) H (fun _ => rfl) (fun m_ s8 H ih8 g8 => ?_) (fun h_ => ?_)
                · unfold haywainlaw13_DiskAsks.l8 at H
                  refine J.seq (by kernel_rfl) ?_
                  refine J.seq (by kernel_rfl) ?_
                  refine J.region (by kernel_rfl) ?_
                  refine O.pure 4 [] [5, 8, 9, 60] [] (fr' := [(5, .slice p3_2.1 x3_2.length p3_2.2), (8, .slice p7_1.1 x7_1.length p7_1.2), (9, .int .i64 s8), (60, .bool (decide (s8 < (x7_1.length : Int))))]) (bx' := []) (by kernel_rfl) ?_
                  refine O.nil (by kernel_rfl) ?_
                  rcases condE H with ⟨hc13, H⟩ | ⟨hc13, H⟩
                  · refine J.condT (x := .tmp 60) (t := (decide (s8 < (x7_1.length : Int)))) (by kernel_rfl) (by kernel_rfl) hc13 ?_
                    refine J.skip (by kernel_rfl) ?_
                    refine J.seq (by kernel_rfl) ?_
                    refine J.block (id := 1) (by kernel_rfl) ?_
                    refine J.seq (by kernel_rfl) ?_
                    obtain ⟨x13_2, hx13_2, H⟩ := bindE H
                    obtain ⟨hx13_2a, hx13_2⟩ := idxE hx13_2
                    obtain ⟨x13_6, hx13_6, H⟩ := bindE H
                    obtain ⟨hx13_6a, hx13_6⟩ := idxE hx13_6
                    refine J.open (d := Kd.string) (h := p7_1) (i := s8) 2 rfl hx13_2 (Lay.string _) (fun p13_2 hp13_2A => ?_)
                    refine J.open (d := kd39) (h := p3_2) (i := s8) 0 rfl hx13_6 (op39 _) (fun p13_6 hp13_6A => ?_)
                    refine J.drawS (by kernel_rfl) [(0, some 63, .slice p7_1.1 x7_1.length p7_1.2), (1, some 64, .int .i64 s8), (3, some 66, .string x13_2), (4, some 67, .slice p3_2.1 x3_2.length p3_2.2), (5, some 68, .int .i64 s8), (7, some 70, .pointer (some ⟨p13_6.1, p13_6.2.1 + s8.toNat * 3, none⟩)), (8, some 71, .string x13_6.f0), (9, some 72, .bool (!(x13_2.toList == x13_6.f0.toList))), (2, some 65, .pointer (some ⟨p13_2.1, p13_2.2.1 + s8.toNat * 1, none⟩)), (6, some 69, .pointer (some ⟨p13_6.1, p13_6.2.1 + s8.toNat * 3, none⟩))] ([0, 1, 3, 4, 5, 7, 8, 9] ++ [2, 6]) (by kernel_rfl) ?_
                    refine D.fin (fr' := [(5, .slice p3_2.1 x3_2.length p3_2.2), (8, .slice p7_1.1 x7_1.length p7_1.2), (9, .int .i64 s8), (72, .bool (!(x13_2.toList == x13_6.f0.toList)))]) [0, 1, 3, 4, 5, 7, 8, 9] [2, 6] [(1, 0), (0, 0)] [p13_2.1, p13_2.2.1 + s8.toNat * 1, p13_6.1, p13_6.2.1 + s8.toNat * 3] [5, 8, 9, 72] (by kernel_rfl) (by kernel_rfl) (⟨QuAt.mk (v := .pointer (some ⟨p13_2.1, p13_2.2.1 + s8.toNat * 1, none⟩)) (some 65) (by kernel_rfl) (by kernel_rfl) (Qu.idx (t := 36) (x := .tmp 63) (y := .tmp 64) (c := p7_1.2) (kk := .i64) (sz := 1) (by kernel_rfl) (by kernel_rfl) (by kernel_rfl) (by kernel_rfl) hx13_2a (idx_lt hx13_2) hp13_2A), QuAt.mk (v := .pointer (some ⟨p13_6.1, p13_6.2.1 + s8.toNat * 3, none⟩)) (some 69) (by kernel_rfl) (by kernel_rfl) (Qu.idx (t := 27) (x := .tmp 67) (y := .tmp 68) (c := p3_2.2) (kk := .i64) (sz := 3) (by kernel_rfl) (by kernel_rfl) (by kernel_rfl) (by kernel_rfl) hx13_6a (idx_lt hx13_6) hp13_6A), trivial⟩) (by kernel_rfl) ?_
                    rcases condE H with ⟨hc14, H⟩ | ⟨hc14, H⟩
                    · refine J.condT (x := .tmp 72) (t := (!(x13_2.toList == x13_6.f0.toList))) (by kernel_rfl) (by kernel_rfl) hc14 ?_
                      refine J.seq (by kernel_rfl) ?_
                      refine J.region (by kernel_rfl) ?_
                      refine O.pure 1 [] [4] [] (fr' := [(4, .bool false)]) (bx' := []) (by kernel_rfl) ?_
                      refine O.nil (by kernel_rfl) ?_
                      obtain rfl := Option.some.inj H
                      exact J.doneS [] [] [] [] [] () (vs := [.bool false]) (by kernel_rfl) (by kernel_rfl) (by kernel_rfl) (by kernel_rfl) (by kernel_rfl) (by decide)
                    · refine J.condF (x := .tmp 72) (t := (!(x13_2.toList == x13_6.f0.toList))) (by kernel_rfl) (by kernel_rfl) hc14 ?_
                      refine J.skip (by kernel_rfl) ?_
                      refine J.out ?_
                      refine J.region (by kernel_rfl) ?_
                      refine O.pure 3 [] [5, 8, 9] [] (fr' := [(5, .slice p3_2.1 x3_2.length p3_2.2), (8, .slice p7_1.1 x7_1.length p7_1.2), (9, .int .i64 (IntKind.wrap .i64 (s8 + 1)))]) (bx' := []) (by kernel_rfl) ?_
                      refine O.nil (by kernel_rfl) ?_
                      exact J.conv2 [5, 8, 9] [1, 2, 3] [] [] (by kernel_rfl) (by kernel_rfl) (by kernel_rfl) (by kernel_rfl) (by decide) (ih8 (IntKind.wrap .i64 (s8 + 1)) () H)
                  · refine J.condF (x := .tmp 60) (t := (decide (s8 < (x7_1.length : Int)))) (by kernel_rfl) (by kernel_rfl) hc13 ?_
                    refine J.exit (id := 0) (by kernel_rfl) rfl ?_
                    refine J.seq (by kernel_rfl) ?_
                    obtain ⟨x15_0, hx15_0, H⟩ := bindE H
                    refine J.region (by kernel_rfl) ?_
                    refine O.e (some 73) (Ev.call0 (xs := []) [] (by kernel_rfl) (by kernel_rfl) (fun w hS => haywainlaw13_knows.con K  _ _ w hS hx15_0)) (by kernel_rfl) (fun _ => ?_)
                    refine O.pure 1 [] [4] [] (fr' := [(4, .bool x15_0)]) (bx' := []) (by kernel_rfl) ?_
                    refine O.nil (by kernel_rfl) ?_
                    obtain rfl := Option.some.inj H
                    exact J.doneS [] [] [] [] [] () (vs := [.bool x15_0]) (by kernel_rfl) (by kernel_rfl) (by kernel_rfl) (by kernel_rfl) (by kernel_rfl) (by decide)
                · refine J.mono (fun w hS => hS.freezeH (h := p7_1) (xs := x7_1)) ?_
                  exact J.conv2 [5, 8, 9] [3, 5, 0] [] [] (by kernel_rfl) (by kernel_rfl) (by kernel_rfl) (by kernel_rfl) (by decide) h_
        · obtain ⟨x5_19, hx5_19, H⟩ := bindE H
          refine J.drawS (by kernel_rfl) [(0, some 27, .slice p3_2.1 x3_2.length p3_2.2), (1, some 28, .string a1), (3, some 30, .int .i64 x4_2.2), (4, some 31, .bool (x4_2.2 == 0))] ([0, 1, 3, 4] ++ []) (by kernel_rfl) ?_
          refine D.mid (cs := [2]) [0, 1, 3, 4] [] [] [] (by kernel_rfl) (by kernel_rfl) trivial (by kernel_rfl) ⟨?_, trivial⟩
          refine EvStep.mk (some 29) (new := fun _ => [(5, some 32, .bool false), (6, some 33, .bool false), (7, some 34, .int .i64 x4_2.2), (8, some 35, .bool false), (9, some 36, .bool false), (10, some 37, undef), (11, some 38, undef), (12, some 39, .bool false), (13, some 40, .bool false), (14, some 41, .bool false), (15, some 42, .slice p4_2.1 x4_2.1.length p4_2.2), (16, some 43, .string (strOfNums x4_2.1)), (17, some 44, .slice p3_2.1 x3_2.length p3_2.2), (18, some 45, .string a1)]) ([3, 4, 6, 7, 9, 10, 11, 12, 13, 14, 15, 17, 18] ++ [5, 8, 16]) (by kernel_rfl) (Ev.call0 (xs := [.tmp 27, .tmp 28]) [1] (by kernel_rfl) (by kernel_rfl) (fun w hS => haywainref13_Has.con K x3_2 a1 p3_2  _ _ w hS hx5_2)) (fun _ => by kernel_rfl) (fun _ => ?_)
          refine D.mid (cs := [19]) [3, 4, 6, 7, 9, 10, 11, 12, 13, 14, 15, 17, 18] [5, 8, 16] [] [] (by kernel_rfl) (by kernel_rfl) (⟨QuAt.mk (v := .bool false) (some 32) (by kernel_rfl) (by kernel_rfl) (Qu.as (congrArg Value.bool hc3) (Qu.binT (op := .neq) (t := 4) (t' := 4) (x := .tmp 29) (y := .tmp 31) (u := .bool x5_2) (v := .bool (x4_2.2 == 0)) (by kernel_rfl) (by kernel_rfl) (by kernel_rfl) (by kernel_rfl))), QuAt.mk (v := .bool false) (some 35) (by kernel_rfl) (by kernel_rfl) (Qu.eqv (u := .bool (x4_2.2 != 0)) (v := .bool false) (0, 0) [] (by kernel_rfl) (congrArg Value.bool hc4)), QuAt.mk (v := .string (strOfNums x4_2.1)) (some 43) (by kernel_rfl) (by kernel_rfl) (Qu.str (t := 30) (u := 9) (x := .tmp 42) (h := p4_2) (xs := x4_2.1) 0 (by kernel_rfl) (by kernel_rfl) (by kernel_rfl) (by kernel_rfl) rfl), trivial⟩) (by kernel_rfl) ⟨?_, trivial⟩
          refine EvStep.mk (some 46) (new := fun p5_19 => [(20, some 47, .string (strOfNums x5_19)), (21, some 48, .bool (!((strOfNums x4_2.1).toList == (strOfNums x5_19).toList))), (22, some 49, .bool (!((strOfNums x4_2.1).toList == (strOfNums x5_19).toList)))]) ([3, 4, 6, 7, 9, 10, 11, 12, 13, 15, 21, 22] ++ [5, 8, 16, 20]) (by kernel_rfl) (Ev.call0 (xs := [.tmp 44, .tmp 45]) [1] (by kernel_rfl) (by kernel_rfl) (fun w hS => haywainref13_Get.con K x3_2 a1 p3_2  _ _ w hS hx5_19)) (fun p5_19 => by kernel_rfl) (fun p5_19 => ?_)
          refine D.fin (fr' := [(2, .pointer (some ⟨p0_0, 0, none⟩)), (5, .slice p3_2.1 x3_2.length p3_2.2), (49, .bool (!((strOfNums x4_2.1).toList == (strOfNums x5_19).toList)))]) [3, 4, 6, 7, 9, 10, 11, 12, 13, 15, 21, 22] [5, 8, 16, 20] [] [] [2, 5, 49] (by kernel_rfl) (by kernel_rfl) (⟨QuAt.mk (v := .bool false) (some 32) (by kernel_rfl) (by kernel_rfl) (Qu.as (congrArg Value.bool hc3) (Qu.binT (op := .neq) (t := 4) (t' := 4) (x := .tmp 29) (y := .tmp 31) (u := .bool x5_2) (v := .bool (x4_2.2 == 0)) (by kernel_rfl) (by kernel_rfl) (by kernel_rfl) (by kernel_rfl))), QuAt.mk (v := .bool false) (some 35) (by kernel_rfl) (by kernel_rfl) (Qu.eqv (u := .bool (x4_2.2 != 0)) (v := .bool false) (0, 0) [] (by kernel_rfl) (congrArg Value.bool hc4)), QuAt.mk (v := .string (strOfNums x4_2.1)) (some 43) (by kernel_rfl) (by kernel_rfl) (Qu.str (t := 30) (u := 9) (x := .tmp 42) (h := p4_2) (xs := x4_2.1) 1 (by kernel_rfl) (by kernel_rfl) (by kernel_rfl) (by kernel_rfl) rfl), QuAt.mk (v := .string (strOfNums x5_19)) (some 47) (by kernel_rfl) (by kernel_rfl) (Qu.str (t := 30) (u := 9) (x := .tmp 46) (h := p5_19) (xs := x5_19) 0 (by kernel_rfl) (by kernel_rfl) (by kernel_rfl) (by kernel_rfl) rfl), trivial⟩) (by kernel_rfl) ?_
          rcases condE H with ⟨hc15, H⟩ | ⟨hc15, H⟩
          · refine J.condT (x := .tmp 49) (t := (!((strOfNums x4_2.1).toList == (strOfNums x5_19).toList))) (by kernel_rfl) (by kernel_rfl) hc15 ?_
            refine J.seq (by kernel_rfl) ?_
            refine J.region (by kernel_rfl) ?_
            refine O.pure 1 [] [4] [] (fr' := [(4, .bool false)]) (bx' := [⟨p0_0, [.slice h0.1 a0.f0.length h0.2], 24⟩]) (by kernel_rfl) ?_
            refine O.nil (by kernel_rfl) ?_
            obtain rfl := Option.some.inj H
            exact J.doneS [] [] [] [] [] () (vs := [.bool false]) (by kernel_rfl) (by kernel_rfl) (by kernel_rfl) (by kernel_rfl) (by kernel_rfl) (by decide)
          · refine J.condF (x := .tmp 49) (t := (!((strOfNums x4_2.1).toList == (strOfNums x5_19).toList))) (by kernel_rfl) (by kernel_rfl) hc15 ?_
            refine J.skip (by kernel_rfl) ?_
            refine J.seq (by kernel_rfl) ?_
            obtain ⟨x7_1, hx7_1, H⟩ := bindE H
            refine J.region (by kernel_rfl) ?_
            refine O.pure 1 [(0, 0)] [5, 50] [p0_0, 0] (fr' := [(5, .slice p3_2.1 x3_2.length p3_2.2), (50, .agg #[.slice h0.1 a0.f0.length h0.2])]) (bx' := [⟨p0_0, [.slice h0.1 a0.f0.length h0.2], 24⟩]) (by kernel_rfl) ?_
            refine O.e (some 51) (Ev.call0 (xs := [.tmp 50]) [4] (by kernel_rfl) (by kernel_rfl) (fun w hS => disk_Names.con K a0 h0  _ _ w hS hx7_1)) (by kernel_rfl) (fun p7_1 => ?_)
            refine O.pure 1 [] [5, 8] [] (fr' := [(5, .slice p3_2.1 x3_2.length p3_2.2), (8, .slice p7_1.1 x7_1.length p7_1.2)]) (bx' := [⟨p0_0, [.slice h0.1 a0.f0.length h0.2], 24⟩]) (by kernel_rfl) ?_
            refine O.nil (by kernel_rfl) ?_
            refine J.seq (by kernel_rfl) ?_
            refine J.seq (by kernel_rfl) ?_
            refine J.region (by kernel_rfl) ?_
            refine O.pure 5 [] [5, 8, 56] [] (fr' := [(5, .slice p3_2.1 x3_2.length p3_2.2), (8, .slice p7_1.1 x7_1.length p7_1.2), (56, .bool ((x7_1.length : Int) != (x3_2.length : Int)))]) (bx' := [⟨p0_0, [.slice h0.1 a0.f0.length h0.2], 24⟩]) (by kernel_rfl) ?_
            refine O.nil (by kernel_rfl) ?_
            rcases condE H with ⟨hc16, H⟩ | ⟨hc16, H⟩
            · refine J.condT (x := .tmp 56) (t := ((x7_1.length : Int) != (x3_2.length : Int))) (by kernel_rfl) (by kernel_rfl) hc16 ?_
              refine J.seq (by kernel_rfl) ?_
              refine J.region (by kernel_rfl) ?_
              refine O.pure 1 [] [4] [] (fr' := [(4, .bool false)]) (bx' := [⟨p0_0, [.slice h0.1 a0.f0.length h0.2], 24⟩]) (by kernel_rfl) ?_
              refine O.nil (by kernel_rfl) ?_
              obtain rfl := Option.some.inj H
              exact J.doneS [] [] [] [] [] () (vs := [.bool false]) (by kernel_rfl) (by kernel_rfl) (by kernel_rfl) (by kernel_rfl) (by kernel_rfl) (by decide)
            · refine J.condF (x := .tmp 56) (t := ((x7_1.length : Int) != (x3_2.length : Int))) (by kernel_rfl) (by kernel_rfl) hc16 ?_
              refine J.skip (by kernel_rfl) ?_
              refine J.seq (by kernel_rfl) ?_
              refine J.seq (by kernel_rfl) ?_
              refine J.region (by kernel_rfl) ?_
              refine O.pure 1 [] [5, 8, 9] [] (fr' := [(5, .slice p3_2.1 x3_2.length p3_2.2), (8, .slice p7_1.1 x7_1.length p7_1.2), (9, .int .i64 0)]) (bx' := [⟨p0_0, [.slice h0.1 a0.f0.length h0.2], 24⟩]) (by kernel_rfl) ?_
              refine O.nil (by kernel_rfl) ?_
              refine J.block (id := 0) (by kernel_rfl) ?_
              refine J.loopI (σ := Int) (γ := Unit) (f := fun m_ s_ => haywainlaw13_DiskAsks.l17 K x3_2 x7_1 m_ s_) (fun s17 g17 => [(5, .slice p3_2.1 x3_2.length p3_2.2), (8, .slice p7_1.1 x7_1.length p7_1.2), (9, .int .i64 s17)]) (fun s17 g17 => St X w [] [] [] [] [Rd kd39 p3_2.1 p3_2.2 x3_2, Rd kd43 h0.1 h0.2 a0.f0, Rd Kd.string p7_1.1 p7_1.2 x7_1]) K 0 () (by kernel_rfl) H (fun _ => rfl) (fun m_ s17 H ih17 g17 => ?_) (fun h_ => ?_)
              · unfold haywainlaw13_DiskAsks.l17 at H
                refine J.seq (by kernel_rfl) ?_
                refine J.seq (by kernel_rfl) ?_
                refine J.region (by kernel_rfl) ?_
                refine O.pure 4 [] [5, 8, 9, 60] [] (fr' := [(5, .slice p3_2.1 x3_2.length p3_2.2), (8, .slice p7_1.1 x7_1.length p7_1.2), (9, .int .i64 s17), (60, .bool (decide (s17 < (x7_1.length : Int))))]) (bx' := []) (by kernel_rfl) ?_
                refine O.nil (by kernel_rfl) ?_
                rcases condE H with ⟨hc22, H⟩ | ⟨hc22, H⟩
                · refine J.condT (x := .tmp 60) (t := (decide (s17 < (x7_1.length : Int)))) (by kernel_rfl) (by kernel_rfl) hc22 ?_
                  refine J.skip (by kernel_rfl) ?_
                  refine J.seq (by kernel_rfl) ?_
                  refine J.block (id := 1) (by kernel_rfl) ?_
                  refine J.seq (by kernel_rfl) ?_
                  obtain ⟨x13_2, hx13_2, H⟩ := bindE H
                  obtain ⟨hx13_2a, hx13_2⟩ := idxE hx13_2
                  obtain ⟨x13_6, hx13_6, H⟩ := bindE H
                  obtain ⟨hx13_6a, hx13_6⟩ := idxE hx13_6
                  refine J.open (d := Kd.string) (h := p7_1) (i := s17) 2 rfl hx13_2 (Lay.string _) (fun p13_2 hp13_2A => ?_)
                  refine J.open (d := kd39) (h := p3_2) (i := s17) 0 rfl hx13_6 (op39 _) (fun p13_6 hp13_6A => ?_)
                  refine J.drawS (by kernel_rfl) [(0, some 63, .slice p7_1.1 x7_1.length p7_1.2), (1, some 64, .int .i64 s17), (3, some 66, .string x13_2), (4, some 67, .slice p3_2.1 x3_2.length p3_2.2), (5, some 68, .int .i64 s17), (7, some 70, .pointer (some ⟨p13_6.1, p13_6.2.1 + s17.toNat * 3, none⟩)), (8, some 71, .string x13_6.f0), (9, some 72, .bool (!(x13_2.toList == x13_6.f0.toList))), (2, some 65, .pointer (some ⟨p13_2.1, p13_2.2.1 + s17.toNat * 1, none⟩)), (6, some 69, .pointer (some ⟨p13_6.1, p13_6.2.1 + s17.toNat * 3, none⟩))] ([0, 1, 3, 4, 5, 7, 8, 9] ++ [2, 6]) (by kernel_rfl) ?_
                  refine D.fin (fr' := [(5, .slice p3_2.1 x3_2.length p3_2.2), (8, .slice p7_1.1 x7_1.length p7_1.2), (9, .int .i64 s17), (72, .bool (!(x13_2.toList == x13_6.f0.toList)))]) [0, 1, 3, 4, 5, 7, 8, 9] [2, 6] [(1, 0), (0, 0)] [p13_2.1, p13_2.2.1 + s17.toNat * 1, p13_6.1, p13_6.2.1 + s17.toNat * 3] [5, 8, 9, 72] (by kernel_rfl) (by kernel_rfl) (⟨QuAt.mk (v := .pointer (some ⟨p13_2.1, p13_2.2.1 + s17.toNat * 1, none⟩)) (some 65) (by kernel_rfl) (by kernel_rfl) (Qu.idx (t := 36) (x := .tmp 63) (y := .tmp 64) (c := p7_1.2) (kk := .i64) (sz := 1) (by kernel_rfl) (by kernel_rfl) (by kernel_rfl) (by kernel_rfl) hx13_2a (idx_lt hx13_2) hp13_2A), QuAt.mk (v := .pointer (some ⟨p13_6.1, p13_6.2.1 + s17.toNat * 3, none⟩)) (some 69) (by kernel_rfl) (by kernel_rfl) (Qu.idx (t := 27) (x := .tmp 67) (y := .tmp 68) (c := p3_2.2) (kk := .i64) (sz := 3) (by kernel_rfl) (by kernel_rfl) (by kernel_rfl) (by kernel_rfl) hx13_6a (idx_lt hx13_6) hp13_6A), trivial⟩) (by kernel_rfl) ?_
                  rcases condE H with ⟨hc23, H⟩ | ⟨hc23, H⟩
                  · refine J.condT (x := .tmp 72) (t := (!(x13_2.toList == x13_6.f0.toList))) (by kernel_rfl) (by kernel_rfl) hc23 ?_
                    refine J.seq (by kernel_rfl) ?_
                    refine J.region (by kernel_rfl) ?_
                    refine O.pure 1 [] [4] [] (fr' := [(4, .bool false)]) (bx' := []) (by kernel_rfl) ?_
                    refine O.nil (by kernel_rfl) ?_
                    obtain rfl := Option.some.inj H
                    exact J.doneS [] [] [] [] [] () (vs := [.bool false]) (by kernel_rfl) (by kernel_rfl) (by kernel_rfl) (by kernel_rfl) (by kernel_rfl) (by decide)
                  · refine J.condF (x := .tmp 72) (t := (!(x13_2.toList == x13_6.f0.toList))) (by kernel_rfl) (by kernel_rfl) hc23 ?_
                    refine J.skip (by kernel_rfl) ?_
                    refine J.out ?_
                    refine J.region (by kernel_rfl) ?_
                    refine O.pure 3 [] [5, 8, 9] [] (fr' := [(5, .slice p3_2.1 x3_2.length p3_2.2), (8, .slice p7_1.1 x7_1.length p7_1.2), (9, .int .i64 (IntKind.wrap .i64 (s17 + 1)))]) (bx' := []) (by kernel_rfl) ?_
                    refine O.nil (by kernel_rfl) ?_
                    exact J.conv2 [5, 8, 9] [1, 2, 3] [] [] (by kernel_rfl) (by kernel_rfl) (by kernel_rfl) (by kernel_rfl) (by decide) (ih17 (IntKind.wrap .i64 (s17 + 1)) () H)
                · refine J.condF (x := .tmp 60) (t := (decide (s17 < (x7_1.length : Int)))) (by kernel_rfl) (by kernel_rfl) hc22 ?_
                  refine J.exit (id := 0) (by kernel_rfl) rfl ?_
                  refine J.seq (by kernel_rfl) ?_
                  obtain ⟨x15_0, hx15_0, H⟩ := bindE H
                  refine J.region (by kernel_rfl) ?_
                  refine O.e (some 73) (Ev.call0 (xs := []) [] (by kernel_rfl) (by kernel_rfl) (fun w hS => haywainlaw13_knows.con K  _ _ w hS hx15_0)) (by kernel_rfl) (fun _ => ?_)
                  refine O.pure 1 [] [4] [] (fr' := [(4, .bool x15_0)]) (bx' := []) (by kernel_rfl) ?_
                  refine O.nil (by kernel_rfl) ?_
                  obtain rfl := Option.some.inj H
                  exact J.doneS [] [] [] [] [] () (vs := [.bool x15_0]) (by kernel_rfl) (by kernel_rfl) (by kernel_rfl) (by kernel_rfl) (by kernel_rfl) (by decide)
              · refine J.mono (fun w hS => hS.freezeH (h := p7_1) (xs := x7_1)) ?_
                exact J.conv2 [5, 8, 9] [3, 5, 0] [] [] (by kernel_rfl) (by kernel_rfl) (by kernel_rfl) (by kernel_rfl) (by decide) h_
def haywainlaw13_DiskAsks.Pure : Prop := ∀ (a0 : S24) (a1 : ByteArray), (wf24 a0) → (a1.size ≤ 140737488351232) → ∃ K, haywainlaw13_DiskAsks.f K a0 a1 = some true
end Go.Proofs.Ytfgdceeceehmpaa.G
