/- The law DiskApart as plain Lean, with its contract; printed by a program of this session. -/
import Derived.Test.YtfgdceeceehmpaaG2
set_option linter.unusedVariables false
set_option linter.unusedSimpArgs false
namespace Go.Proofs.Ytfgdceeceehmpaa.G
open Go Go.RowKit Go.Hw
/-! ### haywain/haywainlaw13.DiskApart: function 7 -/
def haywainlaw13_DiskApart.f (K : Nat) (a0 : S24) (a1 : S52) (a2 : ByteArray) : Option Bool := (haywainlaw13_great.f K a0).bind fun x1_1 => cond x1_1 ((haywainlaw13_knows.f K).bind fun x2_0 => some (x2_0)) ((haywainlaw13_Act_wide.f K a1).bind fun x1_4 => cond x1_4 ((haywainlaw13_knows.f K).bind fun x2_0 => some (x2_0)) (cond (decide ((a2.size : Int) > 100)) ((haywainlaw13_knows.f K).bind fun x2_0 => some (x2_0)) (cond (decide (a1.f0 < 0)) ((haywainlaw13_knows.f K).bind fun x2_0 => some (x2_0)) (cond (decide (a1.f0 > 3)) ((haywainlaw13_knows.f K).bind fun x2_0 => some (x2_0)) ((disk_Get.f K a0 a2).bind fun x3_2 => (haywainlaw13_do.f K a0 a1).bind fun x4_2 => (disk_Get.f K x4_2.1 a2).bind fun x5_2 => (disk_Right.f K x4_2.1).bind fun x6_1 => cond (!x6_1) (some (false)) ((haywainlaw13_As.f K x4_2.1).bind fun x6_5 => (haywainref13_Right.f K x6_5).bind fun x6_6 => cond (!x6_6) (some (false)) (cond (x4_2.2 != 0) ((haywainlaw13_As.f K x4_2.1).bind fun x9_1 => (haywainlaw13_As.f K a0).bind fun x9_3 => (haywainref13_Good.f K x9_3).bind fun x9_4 => (haywainref13_Same.f K x9_1 x9_4).bind fun x9_5 => cond x9_5 ((haywainlaw13_knows.f K).bind fun x9_7 => some (x9_7)) (some (false))) (cond (a2.toList == a1.f2.toList) ((haywainlaw13_knows.f K).bind fun x10_17 => some (x10_17)) (cond ((strOfNums x3_2.1).toList == (strOfNums x5_2.1).toList) (cond (x3_2.2 == x5_2.2) ((haywainlaw13_knows.f K).bind fun x10_17 => some (x10_17)) (some (false))) (some (false)))))))))))
set_option maxRecDepth 100000 in
set_option maxHeartbeats 1000000 in
theorem haywainlaw13_DiskApart.con (K : Nat) (a0 : S24) (a1 : S52) (a2 : ByteArray) (h0 : Hd) (h1 : Hd) (h2 : Hd) (r : Bool) (X : Nat → Nat → Prop) (w : World) (hS : St X w [] [] [] [] [Rd kd43 h0.1 h0.2 a0.f0, Rd (Kd.int .u8) h1.1 h1.2 a1.f3, Rd (Kd.int .i64) h2.1 h2.2 a1.f4] w) (H : haywainlaw13_DiskApart.f K a0 a1 a2 = some r) :
    Cn Try.prog 7 [.agg #[.slice h0.1 a0.f0.length h0.2], .agg #[.int .i64 a1.f0, .int .i64 a1.f1, .string a1.f2, .slice h1.1 a1.f3.length h1.2, .slice h2.1 a1.f4.length h2.2], .string a2] X w [] (fun i : Unit => .bool r) (fun i => []) (fun i => []) (fun i => []) := by
  refine Cn.of Try.func7 (by kernel_rfl) hS ?_
  unfold haywainlaw13_DiskApart.f at H
  refine J.seq (by kernel_rfl) ?_
  refine J.region (by kernel_rfl) ?_
  refine O.e (some 3) (Ev.box (t := 24) (x := .tmp 0) (v := .agg #[.slice h0.1 a0.f0.length h0.2]) (by kernel_rfl) (by kernel_rfl)) (by kernel_rfl) (fun p0_0 => ?_)
  refine O.e (some 4) (Ev.box (t := 52) (x := .tmp 1) (v := .agg #[.int .i64 a1.f0, .int .i64 a1.f1, .string a1.f2, .slice h1.1 a1.f3.length h1.2, .slice h2.1 a1.f4.length h2.2]) (by kernel_rfl) (by kernel_rfl)) (by kernel_rfl) (fun p0_1 => ?_)
  refine O.pure 1 [] [2, 3, 4] [] (fr' := [(2, .string a2), (3, .pointer (some ⟨p0_0, 0, none⟩)), (4, .pointer (some ⟨p0_1, 0, none⟩))]) (bx' := [⟨p0_1, [.int .i64 a1.f0, .int .i64 a1.f1, .string a1.f2, .slice h1.1 a1.f3.length h1.2, .slice h2.1 a1.f4.length h2.2], 52⟩, ⟨p0_0, [.slice h0.1 a0.f0.length h0.2], 24⟩]) (by kernel_rfl) ?_
  refine O.nil (by kernel_rfl) ?_
  refine J.seq (by kernel_rfl) ?_
  refine J.seq (by kernel_rfl) ?_
  obtain ⟨x1_1, hx1_1, H⟩ := bindE H
  rcases condE H with ⟨hc1, H⟩ | ⟨hc1, H⟩
  · refine J.region (by kernel_rfl) ?_
    refine O.pure 1 [(1, 0)] [2, 3, 4, 13] [p0_0, 0] (fr' := [(2, .string a2), (3, .pointer (some ⟨p0_0, 0, none⟩)), (4, .pointer (some ⟨p0_1, 0, none⟩)), (13, .agg #[.slice h0.1 a0.f0.length h0.2])]) (bx' := [⟨p0_1, [.int .i64 a1.f0, .int .i64 a1.f1, .string a1.f2, .slice h1.1 a1.f3.length h1.2, .slice h2.1 a1.f4.length h2.2], 52⟩, ⟨p0_0, [.slice h0.1 a0.f0.length h0.2], 24⟩]) (by kernel_rfl) ?_
    refine O.e (some 14) (Ev.call0 (xs := [.tmp 13]) [0] (by kernel_rfl) (by kernel_rfl) (fun w hS => haywainlaw13_great.con K a0 h0  _ _ w hS hx1_1)) (by kernel_rfl) (fun _ => ?_)
    refine O.q (v := .bool true) (some 15) (Qu.eqv (u := .bool x1_1) (v := .bool true) (0, 0) [] (by kernel_rfl) (congrArg Value.bool hc1)) (by kernel_rfl) ?_
    refine O.pure 18 [] [2, 3, 4, 33] [] (fr' := [(2, .string a2), (3, .pointer (some ⟨p0_0, 0, none⟩)), (4, .pointer (some ⟨p0_1, 0, none⟩)), (33, .bool true)]) (bx' := [⟨p0_1, [.int .i64 a1.f0, .int .i64 a1.f1, .string a1.f2, .slice h1.1 a1.f3.length h1.2, .slice h2.1 a1.f4.length h2.2], 52⟩, ⟨p0_0, [.slice h0.1 a0.f0.length h0.2], 24⟩]) (by kernel_rfl) ?_
    refine O.nil (by kernel_rfl) ?_
    refine J.cond (o := .tmp 33) true (by kernel_rfl) (by kernel_rfl) ?_
    refine J.seq (by kernel_rfl) ?_
    obtain ⟨x2_0, hx2_0, H⟩ := bindE H
    refine J.region (by kernel_rfl) ?_
    refine O.e (some 34) (Ev.call0 (xs := []) [] (by kernel_rfl) (by kernel_rfl) (fun w hS => haywainlaw13_knows.con K  _ _ w hS hx2_0)) (by kernel_rfl) (fun _ => ?_)
    refine O.pure 1 [] [6] [] (fr' := [(6, .bool x2_0)]) (bx' := [⟨p0_1, [.int .i64 a1.f0, .int .i64 a1.f1, .string a1.f2, .slice h1.1 a1.f3.length h1.2, .slice h2.1 a1.f4.length h2.2], 52⟩, ⟨p0_0, [.slice h0.1 a0.f0.length h0.2], 24⟩]) (by kernel_rfl) ?_
    refine O.nil (by kernel_rfl) ?_
    obtain rfl := Option.some.inj H
    exact J.doneS [] [] [] [] [] () (vs := [.bool x2_0]) (by kernel_rfl) (by kernel_rfl) (by kernel_rfl) (by kernel_rfl) (by kernel_rfl) (by decide)
  · obtain ⟨x1_4, hx1_4, H⟩ := bindE H
    rcases condE H with ⟨hc2, H⟩ | ⟨hc2, H⟩
    · refine J.region (by kernel_rfl) ?_
      refine O.pure 1 [(1, 0)] [2, 3, 4, 13] [p0_0, 0] (fr' := [(2, .string a2), (3, .pointer (some ⟨p0_0, 0, none⟩)), (4, .pointer (some ⟨p0_1, 0, none⟩)), (13, .agg #[.slice h0.1 a0.f0.length h0.2])]) (bx' := [⟨p0_1, [.int .i64 a1.f0, .int .i64 a1.f1, .string a1.f2, .slice h1.1 a1.f3.length h1.2, .slice h2.1 a1.f4.length h2.2], 52⟩, ⟨p0_0, [.slice h0.1 a0.f0.length h0.2], 24⟩]) (by kernel_rfl) ?_
      refine O.e (some 14) (Ev.call0 (xs := [.tmp 13]) [0] (by kernel_rfl) (by kernel_rfl) (fun w hS => haywainlaw13_great.con K a0 h0  _ _ w hS hx1_1)) (by kernel_rfl) (fun _ => ?_)
      refine O.q (v := .bool false) (some 15) (Qu.eqv (u := .bool x1_1) (v := .bool false) (0, 0) [] (by kernel_rfl) (congrArg Value.bool hc1)) (by kernel_rfl) ?_
      refine O.pure 1 [(0, 0)] [2, 3, 4, 15, 16] [p0_1, 0] (fr' := [(2, .string a2), (3, .pointer (some ⟨p0_0, 0, none⟩)), (4, .pointer (some ⟨p0_1, 0, none⟩)), (15, .bool false), (16, .agg #[.int .i64 a1.f0, .int .i64 a1.f1, .string a1.f2, .slice h1.1 a1.f3.length h1.2, .slice h2.1 a1.f4.length h2.2])]) (bx' := [⟨p0_1, [.int .i64 a1.f0, .int .i64 a1.f1, .string a1.f2, .slice h1.1 a1.f3.length h1.2, .slice h2.1 a1.f4.length h2.2], 52⟩, ⟨p0_0, [.slice h0.1 a0.f0.length h0.2], 24⟩]) (by kernel_rfl) ?_
      refine O.e (some 17) (Ev.call0 (xs := [.tmp 16]) [1, 2] (by kernel_rfl) (by kernel_rfl) (fun w hS => haywainlaw13_Act_wide.con K a1 h1 h2  _ _ w hS hx1_4)) (by kernel_rfl) (fun _ => ?_)
      refine O.q (v := .bool true) (some 18) (Qu.eqv (u := .bool x1_4) (v := .bool true) (0, 0) [] (by kernel_rfl) (congrArg Value.bool hc2)) (by kernel_rfl) ?_
      refine O.pure 15 [] [2, 3, 4, 33] [] (fr' := [(2, .string a2), (3, .pointer (some ⟨p0_0, 0, none⟩)), (4, .pointer (some ⟨p0_1, 0, none⟩)), (33, .bool true)]) (bx' := [⟨p0_1, [.int .i64 a1.f0, .int .i64 a1.f1, .string a1.f2, .slice h1.1 a1.f3.length h1.2, .slice h2.1 a1.f4.length h2.2], 52⟩, ⟨p0_0, [.slice h0.1 a0.f0.length h0.2], 24⟩]) (by kernel_rfl) ?_
      refine O.nil (by kernel_rfl) ?_
      refine J.cond (o := .tmp 33) true (by kernel_rfl) (by kernel_rfl) ?_
      refine J.seq (by kernel_rfl) ?_
      obtain ⟨x2_0, hx2_0, H⟩ := bindE H
      refine J.region (by kernel_rfl) ?_
      refine O.e (some 34) (Ev.call0 (xs := []) [] (by kernel_rfl) (by kernel_rfl) (fun w hS => haywainlaw13_knows.con K  _ _ w hS hx2_0)) (by kernel_rfl) (fun _ => ?_)
      refine O.pure 1 [] [6] [] (fr' := [(6, .bool x2_0)]) (bx' := [⟨p0_1, [.int .i64 a1.f0, .int .i64 a1.f1, .string a1.f2, .slice h1.1 a1.f3.length h1.2, .slice h2.1 a1.f4.length h2.2], 52⟩, ⟨p0_0, [.slice h0.1 a0.f0.length h0.2], 24⟩]) (by kernel_rfl) ?_
      refine O.nil (by kernel_rfl) ?_
      obtain rfl := Option.some.inj H
      exact J.doneS [] [] [] [] [] () (vs := [.bool x2_0]) (by kernel_rfl) (by kernel_rfl) (by kernel_rfl) (by kernel_rfl) (by kernel_rfl) (by decide)
    · rcases condE H with ⟨hc3, H⟩ | ⟨hc3, H⟩
      · refine J.region (by kernel_rfl) ?_
        refine O.pure 1 [(1, 0)] [2, 3, 4, 13] [p0_0, 0] (fr' := [(2, .string a2), (3, .pointer (some ⟨p0_0, 0, none⟩)), (4, .pointer (some ⟨p0_1, 0, none⟩)), (13, .agg #[.slice h0.1 a0.f0.length h0.2])]) (bx' := [⟨p0_1, [.int .i64 a1.f0, .int .i64 a1.f1, .string a1.f2, .slice h1.1 a1.f3.length h1.2, .slice h2.1 a1.f4.length h2.2], 52⟩, ⟨p0_0, [.slice h0.1 a0.f0.length h0.2], 24⟩]) (by kernel_rfl) ?_
        refine O.e (some 14) (Ev.call0 (xs := [.tmp 13]) [0] (by kernel_rfl) (by kernel_rfl) (fun w hS => haywainlaw13_great.con K a0 h0  _ _ w hS hx1_1)) (by kernel_rfl) (fun _ => ?_)
        refine O.q (v := .bool false) (some 15) (Qu.eqv (u := .bool x1_1) (v := .bool false) (0, 0) [] (by kernel_rfl) (congrArg Value.bool hc1)) (by kernel_rfl) ?_
        refine O.pure 1 [(0, 0)] [2, 3, 4, 15, 16] [p0_1, 0] (fr' := [(2, .string a2), (3, .pointer (some ⟨p0_0, 0, none⟩)), (4, .pointer (some ⟨p0_1, 0, none⟩)), (15, .bool false), (16, .agg #[.int .i64 a1.f0, .int .i64 a1.f1, .string a1.f2, .slice h1.1 a1.f3.length h1.2, .slice h2.1 a1.f4.length h2.2])]) (bx' := [⟨p0_1, [.int .i64 a1.f0, .int .i64 a1.f1, .string a1.f2, .slice h1.1 a1.f3.length h1.2, .slice h2.1 a1.f4.length h2.2], 52⟩, ⟨p0_0, [.slice h0.1 a0.f0.length h0.2], 24⟩]) (by kernel_rfl) ?_
        refine O.e (some 17) (Ev.call0 (xs := [.tmp 16]) [1, 2] (by kernel_rfl) (by kernel_rfl) (fun w hS => haywainlaw13_Act_wide.con K a1 h1 h2  _ _ w hS hx1_4)) (by kernel_rfl) (fun _ => ?_)
        refine O.q (v := .bool false) (some 18) (Qu.eqv (u := .bool x1_4) (v := .bool false) (0, 0) [] (by kernel_rfl) (congrArg Value.bool hc2)) (by kernel_rfl) ?_
        refine O.pure 3 [] [2, 3, 4, 19, 21] [] (fr' := [(2, .string a2), (3, .pointer (some ⟨p0_0, 0, none⟩)), (4, .pointer (some ⟨p0_1, 0, none⟩)), (19, .bool false), (21, .int .i64 (a2.size : Int))]) (bx' := [⟨p0_1, [.int .i64 a1.f0, .int .i64 a1.f1, .string a1.f2, .slice h1.1 a1.f3.length h1.2, .slice h2.1 a1.f4.length h2.2], 52⟩, ⟨p0_0, [.slice h0.1 a0.f0.length h0.2], 24⟩]) (by kernel_rfl) ?_
        refine O.q (v := .bool true) (some 22) (Qu.eqv (u := .bool (decide ((a2.size : Int) > 100))) (v := .bool true) (0, 0) [] (by kernel_rfl) (congrArg Value.bool hc3)) (by kernel_rfl) ?_
        refine O.pure 11 [] [2, 3, 4, 33] [] (fr' := [(2, .string a2), (3, .pointer (some ⟨p0_0, 0, none⟩)), (4, .pointer (some ⟨p0_1, 0, none⟩)), (33, .bool true)]) (bx' := [⟨p0_1, [.int .i64 a1.f0, .int .i64 a1.f1, .string a1.f2, .slice h1.1 a1.f3.length h1.2, .slice h2.1 a1.f4.length h2.2], 52⟩, ⟨p0_0, [.slice h0.1 a0.f0.length h0.2], 24⟩]) (by kernel_rfl) ?_
        refine O.nil (by kernel_rfl) ?_
        refine J.cond (o := .tmp 33) true (by kernel_rfl) (by kernel_rfl) ?_
        refine J.seq (by kernel_rfl) ?_
        obtain ⟨x2_0, hx2_0, H⟩ := bindE H
        refine J.region (by kernel_rfl) ?_
        refine O.e (some 34) (Ev.call0 (xs := []) [] (by kernel_rfl) (by kernel_rfl) (fun w hS => haywainlaw13_knows.con K  _ _ w hS hx2_0)) (by kernel_rfl) (fun _ => ?_)
        refine O.pure 1 [] [6] [] (fr' := [(6, .bool x2_0)]) (bx' := [⟨p0_1, [.int .i64 a1.f0, .int .i64 a1.f1, .string a1.f2, .slice h1.1 a1.f3.length h1.2, .slice h2.1 a1.f4.length h2.2], 52⟩, ⟨p0_0, [.slice h0.1 a0.f0.length h0.2], 24⟩]) (by kernel_rfl) ?_
        refine O.nil (by kernel_rfl) ?_
        obtain rfl := Option.some.inj H
        exact J.doneS [] [] [] [] [] () (vs := [.bool x2_0]) (by kernel_rfl) (by kernel_rfl) (by kernel_rfl) (by kernel_rfl) (by kernel_rfl) (by decide)
      · rcases condE H with ⟨hc4, H⟩ | ⟨hc4, H⟩
        · refine J.region (by kernel_rfl) ?_
          refine O.pure 1 [(1, 0)] [2, 3, 4, 13] [p0_0, 0] (fr' := [(2, .string a2), (3, .pointer (some ⟨p0_0, 0, none⟩)), (4, .pointer (some ⟨p0_1, 0, none⟩)), (13, .agg #[.slice h0.1 a0.f0.length h0.2])]) (bx' := [⟨p0_1, [.int .i64 a1.f0, .int .i64 a1.f1, .string a1.f2, .slice h1.1 a1.f3.length h1.2, .slice h2.1 a1.f4.length h2.2], 52⟩, ⟨p0_0, [.slice h0.1 a0.f0.length h0.2], 24⟩]) (by kernel_rfl) ?_
          refine O.e (some 14) (Ev.call0 (xs := [.tmp 13]) [0] (by kernel_rfl) (by kernel_rfl) (fun w hS => haywainlaw13_great.con K a0 h0  _ _ w hS hx1_1)) (by kernel_rfl) (fun _ => ?_)
          refine O.q (v := .bool false) (some 15) (Qu.eqv (u := .bool x1_1) (v := .bool false) (0, 0) [] (by kernel_rfl) (congrArg Value.bool hc1)) (by kernel_rfl) ?_
          refine O.pure 1 [(0, 0)] [2, 3, 4, 15, 16] [p0_1, 0] (fr' := [(2, .string a2), (3, .pointer (some ⟨p0_0, 0, none⟩)), (4, .pointer (some ⟨p0_1, 0, none⟩)), (15, .bool false), (16, .agg #[.int .i64 a1.f0, .int .i64 a1.f1, .string a1.f2, .slice h1.1 a1.f3.length h1.2, .slice h2.1 a1.f4.length h2.2])]) (bx' := [⟨p0_1, [.int .i64 a1.f0, .int .i64 a1.f1, .string a1.f2, .slice h1.1 a1.f3.length h1.2, .slice h2.1 a1.f4.length h2.2], 52⟩, ⟨p0_0, [.slice h0.1 a0.f0.length h0.2], 24⟩]) (by kernel_rfl) ?_
          refine O.e (some 17) (Ev.call0 (xs := [.tmp 16]) [1, 2] (by kernel_rfl) (by kernel_rfl) (fun w hS => haywainlaw13_Act_wide.con K a1 h1 h2  _ _ w hS hx1_4)) (by kernel_rfl) (fun _ => ?_)
          refine O.q (v := .bool false) (some 18) (Qu.eqv (u := .bool x1_4) (v := .bool false) (0, 0) [] (by kernel_rfl) (congrArg Value.bool hc2)) (by kernel_rfl) ?_
          refine O.pure 3 [] [2, 3, 4, 19, 21] [] (fr' := [(2, .string a2), (3, .pointer (some ⟨p0_0, 0, none⟩)), (4, .pointer (some ⟨p0_1, 0, none⟩)), (19, .bool false), (21, .int .i64 (a2.size : Int))]) (bx' := [⟨p0_1, [.int .i64 a1.f0, .int .i64 a1.f1, .string a1.f2, .slice h1.1 a1.f3.length h1.2, .slice h2.1 a1.f4.length h2.2], 52⟩, ⟨p0_0, [.slice h0.1 a0.f0.length h0.2], 24⟩]) (by kernel_rfl) ?_
          refine O.q (v := .bool false) (some 22) (Qu.eqv (u := .bool (decide ((a2.size : Int) > 100))) (v := .bool false) (0, 0) [] (by kernel_rfl) (congrArg Value.bool hc3)) (by kernel_rfl) ?_
          refine O.pure 4 [(0, 0)] [2, 3, 4, 24, 26] [p0_1, 0] (fr' := [(2, .string a2), (3, .pointer (some ⟨p0_0, 0, none⟩)), (4, .pointer (some ⟨p0_1, 0, none⟩)), (24, .bool false), (26, .int .i64 a1.f0)]) (bx' := [⟨p0_1, [.int .i64 a1.f0, .int .i64 a1.f1, .string a1.f2, .slice h1.1 a1.f3.length h1.2, .slice h2.1 a1.f4.length h2.2], 52⟩, ⟨p0_0, [.slice h0.1 a0.f0.length h0.2], 24⟩]) (by kernel_rfl) ?_
          refine O.q (v := .bool true) (some 27) (Qu.eqv (u := .bool (decide (a1.f0 < 0))) (v := .bool true) (0, 0) [] (by kernel_rfl) (congrArg Value.bool hc4)) (by kernel_rfl) ?_
          refine O.pure 6 [] [2, 3, 4, 33] [] (fr' := [(2, .string a2), (3, .pointer (some ⟨p0_0, 0, none⟩)), (4, .pointer (some ⟨p0_1, 0, none⟩)), (33, .bool true)]) (bx' := [⟨p0_1, [.int .i64 a1.f0, .int .i64 a1.f1, .string a1.f2, .slice h1.1 a1.f3.length h1.2, .slice h2.1 a1.f4.length h2.2], 52⟩, ⟨p0_0, [.slice h0.1 a0.f0.length h0.2], 24⟩]) (by kernel_rfl) ?_
          refine O.nil (by kernel_rfl) ?_
          refine J.cond (o := .tmp 33) true (by kernel_rfl) (by kernel_rfl) ?_
          refine J.seq (by kernel_rfl) ?_
          obtain ⟨x2_0, hx2_0, H⟩ := bindE H
          refine J.region (by kernel_rfl) ?_
          refine O.e (some 34) (Ev.call0 (xs := []) [] (by kernel_rfl) (by kernel_rfl) (fun w hS => haywainlaw13_knows.con K  _ _ w hS hx2_0)) (by kernel_rfl) (fun _ => ?_)
          refine O.pure 1 [] [6] [] (fr' := [(6, .bool x2_0)]) (bx' := [⟨p0_1, [.int .i64 a1.f0, .int .i64 a1.f1, .string a1.f2, .slice h1.1 a1.f3.length h1.2, .slice h2.1 a1.f4.length h2.2], 52⟩, ⟨p0_0, [.slice h0.1 a0.f0.length h0.2], 24⟩]) (by kernel_rfl) ?_
          refine O.nil (by kernel_rfl) ?_
          obtain rfl := Option.some.inj H
          exact J.doneS [] [] [] [] [] () (vs := [.bool x2_0]) (by kernel_rfl) (by kernel_rfl) (by kernel_rfl) (by kernel_rfl) (by kernel_rfl) (by decide)
        · refine J.region (by kernel_rfl) ?_
          refine O.pure 1 [(1, 0)] [2, 3, 4, 13] [p0_0, 0] (fr' := [(2, .string a2), (3, .pointer (some ⟨p0_0, 0, none⟩)), (4, .pointer (some ⟨p0_1, 0, none⟩)), (13, .agg #[.slice h0.1 a0.f0.length h0.2])]) (bx' := [⟨p0_1, [.int .i64 a1.f0, .int .i64 a1.f1, .string a1.f2, .slice h1.1 a1.f3.length h1.2, .slice h2.1 a1.f4.length h2.2], 52⟩, ⟨p0_0, [.slice h0.1 a0.f0.length h0.2], 24⟩]) (by kernel_rfl) ?_
          refine O.e (some 14) (Ev.call0 (xs := [.tmp 13]) [0] (by kernel_rfl) (by kernel_rfl) (fun w hS => haywainlaw13_great.con K a0 h0  _ _ w hS hx1_1)) (by kernel_rfl) (fun _ => ?_)
          refine O.q (v := .bool false) (some 15) (Qu.eqv (u := .bool x1_1) (v := .bool false) (0, 0) [] (by kernel_rfl) (congrArg Value.bool hc1)) (by kernel_rfl) ?_
          refine O.pure 1 [(0, 0)] [2, 3, 4, 15, 16] [p0_1, 0] (fr' := [(2, .string a2), (3, .pointer (some ⟨p0_0, 0, none⟩)), (4, .pointer (some ⟨p0_1, 0, none⟩)), (15, .bool false), (16, .agg #[.int .i64 a1.f0, .int .i64 a1.f1, .string a1.f2, .slice h1.1 a1.f3.length h1.2, .slice h2.1 a1.f4.length h2.2])]) (bx' := [⟨p0_1, [.int .i64 a1.f0, .int .i64 a1.f1, .string a1.f2, .slice h1.1 a1.f3.length h1.2, .slice h2.1 a1.f4.length h2.2], 52⟩, ⟨p0_0, [.slice h0.1 a0.f0.length h0.2], 24⟩]) (by kernel_rfl) ?_
          refine O.e (some 17) (Ev.call0 (xs := [.tmp 16]) [1, 2] (by kernel_rfl) (by kernel_rfl) (fun w hS => haywainlaw13_Act_wide.con K a1 h1 h2  _ _ w hS hx1_4)) (by kernel_rfl) (fun _ => ?_)
          refine O.q (v := .bool false) (some 18) (Qu.eqv (u := .bool x1_4) (v := .bool false) (0, 0) [] (by kernel_rfl) (congrArg Value.bool hc2)) (by kernel_rfl) ?_
          refine O.pure 3 [] [2, 3, 4, 19, 21] [] (fr' := [(2, .string a2), (3, .pointer (some ⟨p0_0, 0, none⟩)), (4, .pointer (some ⟨p0_1, 0, none⟩)), (19, .bool false), (21, .int .i64 (a2.size : Int))]) (bx' := [⟨p0_1, [.int .i64 a1.f0, .int .i64 a1.f1, .string a1.f2, .slice h1.1 a1.f3.length h1.2, .slice h2.1 a1.f4.length h2.2], 52⟩, ⟨p0_0, [.slice h0.1 a0.f0.length h0.2], 24⟩]) (by kernel_rfl) ?_
          refine O.q (v := .bool false) (some 22) (Qu.eqv (u := .bool (decide ((a2.size : Int) > 100))) (v := .bool false) (0, 0) [] (by kernel_rfl) (congrArg Value.bool hc3)) (by kernel_rfl) ?_
          refine O.pure 4 [(0, 0)] [2, 3, 4, 24, 26] [p0_1, 0] (fr' := [(2, .string a2), (3, .pointer (some ⟨p0_0, 0, none⟩)), (4, .pointer (some ⟨p0_1, 0, none⟩)), (24, .bool false), (26, .int .i64 a1.f0)]) (bx' := [⟨p0_1, [.int .i64 a1.f0, .int .i64 a1.f1, .string a1.f2, .slice h1.1 a1.f3.length h1.2, .slice h2.1 a1.f4.length h2.2], 52⟩, ⟨p0_0, [.slice h0.1 a0.f0.length h0.2], 24⟩]) (by kernel_rfl) ?_
          refine O.q (v := .bool false) (some 27) (Qu.eqv (u := .bool (decide (a1.f0 < 0))) (v := .bool false) (0, 0) [] (by kernel_rfl) (congrArg Value.bool hc4)) (by kernel_rfl) ?_
          refine O.pure 6 [(0, 0)] [2, 3, 4, 33] [p0_1, 0] (fr' := [(2, .string a2), (3, .pointer (some ⟨p0_0, 0, none⟩)), (4, .pointer (some ⟨p0_1, 0, none⟩)), (33, .bool (decide (a1.f0 > 3)))]) (bx' := [⟨p0_1, [.int .i64 a1.f0, .int .i64 a1.f1, .string a1.f2, .slice h1.1 a1.f3.length h1.2, .slice h2.1 a1.f4.length h2.2], 52⟩, ⟨p0_0, [.slice h0.1 a0.f0.length h0.2], 24⟩]) (by kernel_rfl) ?_
          refine O.nil (by kernel_rfl) ?_
          rcases condE H with ⟨hc5, H⟩ | ⟨hc5, H⟩
          · refine J.condT (x := .tmp 33) (t := (decide (a1.f0 > 3))) (by kernel_rfl) (by kernel_rfl) hc5 ?_
            refine J.seq (by kernel_rfl) ?_
            obtain ⟨x2_0, hx2_0, H⟩ := bindE H
            refine J.region (by kernel_rfl) ?_
            refine O.e (some 34) (Ev.call0 (xs := []) [] (by kernel_rfl) (by kernel_rfl) (fun w hS => haywainlaw13_knows.con K  _ _ w hS hx2_0)) (by kernel_rfl) (fun _ => ?_)
            refine O.pure 1 [] [6] [] (fr' := [(6, .bool x2_0)]) (bx' := [⟨p0_1, [.int .i64 a1.f0, .int .i64 a1.f1, .string a1.f2, .slice h1.1 a1.f3.length h1.2, .slice h2.1 a1.f4.length h2.2], 52⟩, ⟨p0_0, [.slice h0.1 a0.f0.length h0.2], 24⟩]) (by kernel_rfl) ?_
            refine O.nil (by kernel_rfl) ?_
            obtain rfl := Option.some.inj H
            exact J.doneS [] [] [] [] [] () (vs := [.bool x2_0]) (by kernel_rfl) (by kernel_rfl) (by kernel_rfl) (by kernel_rfl) (by kernel_rfl) (by decide)
          · refine J.condF (x := .tmp 33) (t := (decide (a1.f0 > 3))) (by kernel_rfl) (by kernel_rfl) hc5 ?_
            refine J.skip (by kernel_rfl) ?_
            refine J.seq (by kernel_rfl) ?_
            obtain ⟨x3_2, hx3_2, H⟩ := bindE H
            refine J.region (by kernel_rfl) ?_
            refine O.pure 2 [(1, 0)] [2, 3, 4, 36, 37] [p0_0, 0] (fr' := [(2, .string a2), (3, .pointer (some ⟨p0_0, 0, none⟩)), (4, .pointer (some ⟨p0_1, 0, none⟩)), (36, .agg #[.slice h0.1 a0.f0.length h0.2]), (37, .string a2)]) (bx' := [⟨p0_1, [.int .i64 a1.f0, .int .i64 a1.f1, .string a1.f2, .slice h1.1 a1.f3.length h1.2, .slice h2.1 a1.f4.length h2.2], 52⟩, ⟨p0_0, [.slice h0.1 a0.f0.length h0.2], 24⟩]) (by kernel_rfl) ?_
            refine O.e (some 38) (Ev.call0 (xs := [.tmp 36, .tmp 37]) [0] (by kernel_rfl) (by kernel_rfl) (fun w hS => disk_Get.con K a0 a2 h0  _ _ w hS hx3_2)) (by kernel_rfl) (fun p3_2 => ?_)
            refine O.pure 5 [] [2, 3, 4, 7, 8] [] (fr' := [(2, .string a2), (3, .pointer (some ⟨p0_0, 0, none⟩)), (4, .pointer (some ⟨p0_1, 0, none⟩)), (7, .slice p3_2.1 x3_2.1.length p3_2.2), (8, .int .i64 x3_2.2)]) (bx' := [⟨p0_1, [.int .i64 a1.f0, .int .i64 a1.f1, .string a1.f2, .slice h1.1 a1.f3.length h1.2, .slice h2.1 a1.f4.length h2.2], 52⟩, ⟨p0_0, [.slice h0.1 a0.f0.length h0.2], 24⟩]) (by kernel_rfl) ?_
            refine O.nil (by kernel_rfl) ?_
            refine J.seq (by kernel_rfl) ?_
            obtain ⟨x4_2, hx4_2, H⟩ := bindE H
            refine J.region (by kernel_rfl) ?_
            refine O.pure 2 [(1, 0), (0, 0)] [2, 3, 4, 7, 8, 42, 43] [p0_0, 0, p0_1, 0] (fr' := [(2, .string a2), (3, .pointer (some ⟨p0_0, 0, none⟩)), (4, .pointer (some ⟨p0_1, 0, none⟩)), (7, .slice p3_2.1 x3_2.1.length p3_2.2), (8, .int .i64 x3_2.2), (42, .agg #[.slice h0.1 a0.f0.length h0.2]), (43, .agg #[.int .i64 a1.f0, .int .i64 a1.f1, .string a1.f2, .slice h1.1 a1.f3.length h1.2, .slice h2.1 a1.f4.length h2.2])]) (bx' := [⟨p0_1, [.int .i64 a1.f0, .int .i64 a1.f1, .string a1.f2, .slice h1.1 a1.f3.length h1.2, .slice h2.1 a1.f4.length h2.2], 52⟩, ⟨p0_0, [.slice h0.1 a0.f0.length h0.2], 24⟩]) (by kernel_rfl) ?_
            refine O.e (some 44) (Ev.call0 (xs := [.tmp 42, .tmp 43]) [1, 2, 3] (by kernel_rfl) (by kernel_rfl) (fun w hS => haywainlaw13_do.con K a0 a1 h0 h1 h2  _ _ w hS hx4_2)) (by kernel_rfl) (fun p4_2 => ?_)
            refine O.pure 3 [] [2, 3, 4, 7, 8, 45, 46] [] (fr' := [(2, .string a2), (3, .pointer (some ⟨p0_0, 0, none⟩)), (4, .pointer (some ⟨p0_1, 0, none⟩)), (7, .slice p3_2.1 x3_2.1.length p3_2.2), (8, .int .i64 x3_2.2), (45, .agg #[.slice p4_2.1 x4_2.1.f0.length p4_2.2]), (46, .int .i64 x4_2.2)]) (bx' := [⟨p0_1, [.int .i64 a1.f0, .int .i64 a1.f1, .string a1.f2, .slice h1.1 a1.f3.length h1.2, .slice h2.1 a1.f4.length h2.2], 52⟩, ⟨p0_0, [.slice h0.1 a0.f0.length h0.2], 24⟩]) (by kernel_rfl) ?_
            refine O.e (some 9) (Ev.alloc (t := 24) (z := .agg #[.slice none 0 0]) (by kernel_rfl) (by kernel_rfl)) (by kernel_rfl) (fun p4_6 => ?_)
            refine O.pure 2 [(0, 0)] [2, 3, 4, 7, 8, 9, 10] [p4_6, 0] (fr' := [(2, .string a2), (3, .pointer (some ⟨p0_0, 0, none⟩)), (4, .pointer (some ⟨p0_1, 0, none⟩)), (7, .slice p3_2.1 x3_2.1.length p3_2.2), (8, .int .i64 x3_2.2), (9, .pointer (some ⟨p4_6, 0, none⟩)), (10, .int .i64 x4_2.2)]) (bx' := [⟨p4_6, [.slice p4_2.1 x4_2.1.f0.length p4_2.2], 24⟩, ⟨p0_1, [.int .i64 a1.f0, .int .i64 a1.f1, .string a1.f2, .slice h1.1 a1.f3.length h1.2, .slice h2.1 a1.f4.length h2.2], 52⟩, ⟨p0_0, [.slice h0.1 a0.f0.length h0.2], 24⟩]) (by kernel_rfl) ?_
            refine O.nil (by kernel_rfl) ?_
            refine J.seq (by kernel_rfl) ?_
            obtain ⟨x5_2, hx5_2, H⟩ := bindE H
            refine J.region (by kernel_rfl) ?_
            refine O.pure 2 [(0, 0)] [2, 3, 4, 7, 8, 9, 10, 48, 49] [p4_6, 0] (fr' := [(2, .string a2), (3, .pointer (some ⟨p0_0, 0, none⟩)), (4, .pointer (some ⟨p0_1, 0, none⟩)), (7, .slice p3_2.1 x3_2.1.length p3_2.2), (8, .int .i64 x3_2.2), (9, .pointer (some ⟨p4_6, 0, none⟩)), (10, .int .i64 x4_2.2), (48, .agg #[.slice p4_2.1 x4_2.1.f0.length p4_2.2]), (49, .string a2)]) (bx' := [⟨p4_6, [.slice p4_2.1 x4_2.1.f0.length p4_2.2], 24⟩, ⟨p0_1, [.int .i64 a1.f0, .int .i64 a1.f1, .string a1.f2, .slice h1.1 a1.f3.length h1.2, .slice h2.1 a1.f4.length h2.2], 52⟩, ⟨p0_0, [.slice h0.1 a0.f0.length h0.2], 24⟩]) (by kernel_rfl) ?_
            refine O.e (some 50) (Ev.call0 (xs := [.tmp 48, .tmp 49]) [0] (by kernel_rfl) (by kernel_rfl) (fun w hS => disk_Get.con K x4_2.1 a2 p4_2  _ _ w hS hx5_2)) (by kernel_rfl) (fun p5_2 => ?_)
            refine O.pure 5 [] [2, 3, 4, 7, 8, 9, 10, 11, 12] [] (fr' := [(2, .string a2), (3, .pointer (some ⟨p0_0, 0, none⟩)), (4, .pointer (some ⟨p0_1, 0, none⟩)), (7, .slice p3_2.1 x3_2.1.length p3_2.2), (8, .int .i64 x3_2.2), (9, .pointer (some ⟨p4_6, 0, none⟩)), (10, .int .i64 x4_2.2), (11, .slice p5_2.1 x5_2.1.length p5_2.2), (12, .int .i64 x5_2.2)]) (bx' := [⟨p4_6, [.slice p4_2.1 x4_2.1.f0.length p4_2.2], 24⟩, ⟨p0_1, [.int .i64 a1.f0, .int .i64 a1.f1, .string a1.f2, .slice h1.1 a1.f3.length h1.2, .slice h2.1 a1.f4.length h2.2], 52⟩, ⟨p0_0, [.slice h0.1 a0.f0.length h0.2], 24⟩]) (by kernel_rfl) ?_
            refine O.nil (by kernel_rfl) ?_
            refine J.seq (by kernel_rfl) ?_
            refine J.seq (by kernel_rfl) ?_
            obtain ⟨x6_1, hx6_1, H⟩ := bindE H
            rcases condE H with ⟨hc6, H⟩ | ⟨hc6, H⟩
            · refine J.region (by kernel_rfl) ?_
              refine O.pure 1 [(0, 0)] [2, 3, 4, 7, 8, 9, 10, 11, 12, 53] [p4_6, 0] (fr' := [(2, .string a2), (3, .pointer (some ⟨p0_0, 0, none⟩)), (4, .pointer (some ⟨p0_1, 0, none⟩)), (7, .slice p3_2.1 x3_2.1.length p3_2.2), (8, .int .i64 x3_2.2), (9, .pointer (some ⟨p4_6, 0, none⟩)), (10, .int .i64 x4_2.2), (11, .slice p5_2.1 x5_2.1.length p5_2.2), (12, .int .i64 x5_2.2), (53, .agg #[.slice p4_2.1 x4_2.1.f0.length p4_2.2])]) (bx' := [⟨p4_6, [.slice p4_2.1 x4_2.1.f0.length p4_2.2], 24⟩, ⟨p0_1, [.int .i64 a1.f0, .int .i64 a1.f1, .string a1.f2, .slice h1.1 a1.f3.length h1.2, .slice h2.1 a1.f4.length h2.2], 52⟩, ⟨p0_0, [.slice h0.1 a0.f0.length h0.2], 24⟩]) (by kernel_rfl) ?_
              refine O.e (some 54) (Ev.call0 (xs := [.tmp 53]) [1] (by kernel_rfl) (by kernel_rfl) (fun w hS => disk_Right.con K x4_2.1 p4_2  _ _ w hS hx6_1)) (by kernel_rfl) (fun _ => ?_)
              refine O.q (v := .bool true) (some 55) (Qu.eqv (u := .bool (!x6_1)) (v := .bool true) (0, 0) [] (by kernel_rfl) (congrArg Value.bool hc6)) (by kernel_rfl) ?_
              refine O.pure 6 [] [2, 3, 4, 7, 8, 9, 10, 11, 12, 61] [] (fr' := [(2, .string a2), (3, .pointer (some ⟨p0_0, 0, none⟩)), (4, .pointer (some ⟨p0_1, 0, none⟩)), (7, .slice p3_2.1 x3_2.1.length p3_2.2), (8, .int .i64 x3_2.2), (9, .pointer (some ⟨p4_6, 0, none⟩)), (10, .int .i64 x4_2.2), (11, .slice p5_2.1 x5_2.1.length p5_2.2), (12, .int .i64 x5_2.2), (61, .bool true)]) (bx' := [⟨p4_6, [.slice p4_2.1 x4_2.1.f0.length p4_2.2], 24⟩, ⟨p0_1, [.int .i64 a1.f0, .int .i64 a1.f1, .string a1.f2, .slice h1.1 a1.f3.length h1.2, .slice h2.1 a1.f4.length h2.2], 52⟩, ⟨p0_0, [.slice h0.1 a0.f0.length h0.2], 24⟩]) (by kernel_rfl) ?_
              refine O.nil (by kernel_rfl) ?_
              refine J.cond (o := .tmp 61) true (by kernel_rfl) (by kernel_rfl) ?_
              refine J.seq (by kernel_rfl) ?_
              refine J.region (by kernel_rfl) ?_
              refine O.pure 1 [] [6] [] (fr' := [(6, .bool false)]) (bx' := [⟨p4_6, [.slice p4_2.1 x4_2.1.f0.length p4_2.2], 24⟩, ⟨p0_1, [.int .i64 a1.f0, .int .i64 a1.f1, .string a1.f2, .slice h1.1 a1.f3.length h1.2, .slice h2.1 a1.f4.length h2.2], 52⟩, ⟨p0_0, [.slice h0.1 a0.f0.length h0.2], 24⟩]) (by kernel_rfl) ?_
              refine O.nil (by kernel_rfl) ?_
              obtain rfl := Option.some.inj H
              exact J.doneS [] [] [] [] [] () (vs := [.bool false]) (by kernel_rfl) (by kernel_rfl) (by kernel_rfl) (by kernel_rfl) (by kernel_rfl) (by decide)
            · obtain ⟨x6_5, hx6_5, H⟩ := bindE H
              obtain ⟨x6_6, hx6_6, H⟩ := bindE H
              refine J.region (by kernel_rfl) ?_
              refine O.pure 1 [(0, 0)] [2, 3, 4, 7, 8, 9, 10, 11, 12, 53] [p4_6, 0] (fr' := [(2, .string a2), (3, .pointer (some ⟨p0_0, 0, none⟩)), (4, .pointer (some ⟨p0_1, 0, none⟩)), (7, .slice p3_2.1 x3_2.1.length p3_2.2), (8, .int .i64 x3_2.2), (9, .pointer (some ⟨p4_6, 0, none⟩)), (10, .int .i64 x4_2.2), (11, .slice p5_2.1 x5_2.1.length p5_2.2), (12, .int .i64 x5_2.2), (53, .agg #[.slice p4_2.1 x4_2.1.f0.length p4_2.2])]) (bx' := [⟨p4_6, [.slice p4_2.1 x4_2.1.f0.length p4_2.2], 24⟩, ⟨p0_1, [.int .i64 a1.f0, .int .i64 a1.f1, .string a1.f2, .slice h1.1 a1.f3.length h1.2, .slice h2.1 a1.f4.length h2.2], 52⟩, ⟨p0_0, [.slice h0.1 a0.f0.length h0.2], 24⟩]) (by kernel_rfl) ?_
              refine O.e (some 54) (Ev.call0 (xs := [.tmp 53]) [1] (by kernel_rfl) (by kernel_rfl) (fun w hS => disk_Right.con K x4_2.1 p4_2  _ _ w hS hx6_1)) (by kernel_rfl) (fun _ => ?_)
              refine O.q (v := .bool false) (some 55) (Qu.eqv (u := .bool (!x6_1)) (v := .bool false) (0, 0) [] (by kernel_rfl) (congrArg Value.bool hc6)) (by kernel_rfl) ?_
              refine O.pure 2 [(0, 0)] [2, 3, 4, 7, 8, 9, 10, 11, 12, 56, 57] [p4_6, 0] (fr' := [(2, .string a2), (3, .pointer (some ⟨p0_0, 0, none⟩)), (4, .pointer (some ⟨p0_1, 0, none⟩)), (7, .slice p3_2.1 x3_2.1.length p3_2.2), (8, .int .i64 x3_2.2), (9, .pointer (some ⟨p4_6, 0, none⟩)), (10, .int .i64 x4_2.2), (11, .slice p5_2.1 x5_2.1.length p5_2.2), (12, .int .i64 x5_2.2), (56, .bool false), (57, .agg #[.slice p4_2.1 x4_2.1.f0.length p4_2.2])]) (bx' := [⟨p4_6, [.slice p4_2.1 x4_2.1.f0.length p4_2.2], 24⟩, ⟨p0_1, [.int .i64 a1.f0, .int .i64 a1.f1, .string a1.f2, .slice h1.1 a1.f3.length h1.2, .slice h2.1 a1.f4.length h2.2], 52⟩, ⟨p0_0, [.slice h0.1 a0.f0.length h0.2], 24⟩]) (by kernel_rfl) ?_
              refine O.e (some 58) (Ev.call0 (xs := [.tmp 57]) [1] (by kernel_rfl) (by kernel_rfl) (fun w hS => haywainlaw13_As.con K x4_2.1 p4_2  _ _ w hS hx6_5)) (by kernel_rfl) (fun p6_5 => ?_)
              refine O.e (some 59) (Ev.callLb (xs1 := [.tmp 58]) [0] (fun w hS => (hS.rowsel [0] rfl (by decide)).freezeL (hh := p6_5) (m := x6_5.length) (xs := x6_5) rfl) (by kernel_rfl) (by kernel_rfl) (fun _ q hq => by cases hq) (fun w hS => haywainref13_Right.con K x6_5 p6_5  _ _ w hS hx6_6)) (by kernel_rfl) (fun _ => ?_)
              refine O.pure 2 [] [2, 3, 4, 7, 8, 9, 10, 11, 12, 61] [] (fr' := [(2, .string a2), (3, .pointer (some ⟨p0_0, 0, none⟩)), (4, .pointer (some ⟨p0_1, 0, none⟩)), (7, .slice p3_2.1 x3_2.1.length p3_2.2), (8, .int .i64 x3_2.2), (9, .pointer (some ⟨p4_6, 0, none⟩)), (10, .int .i64 x4_2.2), (11, .slice p5_2.1 x5_2.1.length p5_2.2), (12, .int .i64 x5_2.2), (61, .bool (!x6_6))]) (bx' := [⟨p4_6, [.slice p4_2.1 x4_2.1.f0.length p4_2.2], 24⟩, ⟨p0_1, [.int .i64 a1.f0, .int .i64 a1.f1, .string a1.f2, .slice h1.1 a1.f3.length h1.2, .slice h2.1 a1.f4.length h2.2], 52⟩, ⟨p0_0, [.slice h0.1 a0.f0.length h0.2], 24⟩]) (by kernel_rfl) ?_
              refine O.nil (by kernel_rfl) ?_
              rcases condE H with ⟨hc7, H⟩ | ⟨hc7, H⟩
              · refine J.condT (x := .tmp 61) (t := (!x6_6)) (by kernel_rfl) (by kernel_rfl) hc7 ?_
                refine J.seq (by kernel_rfl) ?_
                refine J.region (by kernel_rfl) ?_
                refine O.pure 1 [] [6] [] (fr' := [(6, .bool false)]) (bx' := [⟨p4_6, [.slice p4_2.1 x4_2.1.f0.length p4_2.2], 24⟩, ⟨p0_1, [.int .i64 a1.f0, .int .i64 a1.f1, .string a1.f2, .slice h1.1 a1.f3.length h1.2, .slice h2.1 a1.f4.length h2.2], 52⟩, ⟨p0_0, [.slice h0.1 a0.f0.length h0.2], 24⟩]) (by kernel_rfl) ?_
                refine O.nil (by kernel_rfl) ?_
                obtain rfl := Option.some.inj H
                exact J.doneS [] [] [] [] [] () (vs := [.bool false]) (by kernel_rfl) (by kernel_rfl) (by kernel_rfl) (by kernel_rfl) (by kernel_rfl) (by decide)
              · refine J.condF (x := .tmp 61) (t := (!x6_6)) (by kernel_rfl) (by kernel_rfl) hc7 ?_
                refine J.skip (by kernel_rfl) ?_
                refine J.seq (by kernel_rfl) ?_
                refine J.seq (by kernel_rfl) ?_
                refine J.region (by kernel_rfl) ?_
                refine O.pure 2 [] [2, 3, 4, 7, 8, 9, 11, 12, 63] [] (fr' := [(2, .string a2), (3, .pointer (some ⟨p0_0, 0, none⟩)), (4, .pointer (some ⟨p0_1, 0, none⟩)), (7, .slice p3_2.1 x3_2.1.length p3_2.2), (8, .int .i64 x3_2.2), (9, .pointer (some ⟨p4_6, 0, none⟩)), (11, .slice p5_2.1 x5_2.1.length p5_2.2), (12, .int .i64 x5_2.2), (63, .bool (x4_2.2 != 0))]) (bx' := [⟨p4_6, [.slice p4_2.1 x4_2.1.f0.length p4_2.2], 24⟩, ⟨p0_1, [.int .i64 a1.f0, .int .i64 a1.f1, .string a1.f2, .slice h1.1 a1.f3.length h1.2, .slice h2.1 a1.f4.length h2.2], 52⟩, ⟨p0_0, [.slice h0.1 a0.f0.length h0.2], 24⟩]) (by kernel_rfl) ?_
                refine O.nil (by kernel_rfl) ?_
                rcases condE H with ⟨hc8, H⟩ | ⟨hc8, H⟩
                · refine J.condT (x := .tmp 63) (t := (x4_2.2 != 0)) (by kernel_rfl) (by kernel_rfl) hc8 ?_
                  refine J.seq (by kernel_rfl) ?_
                  obtain ⟨x9_1, hx9_1, H⟩ := bindE H
                  obtain ⟨x9_3, hx9_3, H⟩ := bindE H
                  obtain ⟨x9_4, hx9_4, H⟩ := bindE H
                  obtain ⟨x9_5, hx9_5, H⟩ := bindE H
                  rcases condE H with ⟨hc9, H⟩ | ⟨hc9, H⟩
                  · obtain ⟨x9_7, hx9_7, H⟩ := bindE H
                    refine J.drawS (by kernel_rfl) [(0, some 64, .agg #[.slice p4_2.1 x4_2.1.f0.length p4_2.2]), (2, some 66, .agg #[.slice h0.1 a0.f0.length h0.2])] ([0, 2] ++ []) (by kernel_rfl) ?_
                    refine D.mid (cs := [1]) [0, 2] [] [(0, 0), (2, 0)] [p4_6, 0, p0_0, 0] (by kernel_rfl) (by kernel_rfl) trivial (by kernel_rfl) ⟨?_, trivial⟩
                    refine EvStep.mk (some 65) (new := fun p9_1 => []) ([2] ++ []) (by kernel_rfl) (Ev.call0 (xs := [.tmp 64]) [1] (by kernel_rfl) (by kernel_rfl) (fun w hS => haywainlaw13_As.con K x4_2.1 p4_2  _ _ w hS hx9_1)) (fun p9_1 => by kernel_rfl) (fun p9_1 => ?_)
                    refine D.mid (cs := [3]) [2] [] [(2, 0)] [p0_0, 0] (by kernel_rfl) (by kernel_rfl) trivial (by kernel_rfl) ⟨?_, trivial⟩
                    refine EvStep.mk (some 67) (new := fun p9_3 => []) ([] ++ []) (by kernel_rfl) (Ev.call0 (xs := [.tmp 66]) [3] (by kernel_rfl) (by kernel_rfl) (fun w hS => haywainlaw13_As.con K a0 h0  _ _ w hS hx9_3)) (fun p9_3 => by kernel_rfl) (fun p9_3 => ?_)
                    refine D.mid (cs := [4]) [] [] [] [] (by kernel_rfl) (by kernel_rfl) trivial (by kernel_rfl) ⟨?_, trivial⟩
                    refine EvStep.mk (some 68) (new := fun p9_4 => []) ([] ++ []) (by kernel_rfl) (Ev.mono (fun w hS => hS.freezeH (h := p9_3) (xs := x9_3)) (Ev.call0 (xs := [.tmp 67]) [0] (by kernel_rfl) (by kernel_rfl) (fun w hS => haywainref13_Good.con K x9_3 p9_3  _ _ w hS hx9_4))) (fun p9_4 => by kernel_rfl) (fun p9_4 => ?_)
                    refine D.mid (cs := [5]) [] [] [] [] (by kernel_rfl) (by kernel_rfl) trivial (by kernel_rfl) ⟨?_, trivial⟩
                    refine EvStep.mk (some 69) (new := fun _ => [(6, some 70, .bool true)]) ([] ++ [6]) (by kernel_rfl) (Ev.callLb (xs1 := [.tmp 65, .tmp 68]) [0, 1] (fun w hS => (hS.rowsel [0, 1] rfl (by decide)).freezeL (hh := p9_1) (m := x9_1.length) (xs := x9_1) rfl) (by kernel_rfl) (by kernel_rfl) (fun _ q hq => by cases hq) (fun w hS => haywainref13_Same.con K x9_1 x9_4 p9_1 p9_4  _ _ w hS hx9_5)) (fun _ => by kernel_rfl) (fun _ => ?_)
                    refine D.mid (cs := [7]) [] [6] [] [] (by kernel_rfl) (by kernel_rfl) (⟨QuAt.mk (v := .bool true) (some 70) (by kernel_rfl) (by kernel_rfl) (Qu.eqv (u := .bool x9_5) (v := .bool true) (0, 0) [] (by kernel_rfl) (congrArg Value.bool hc9)), trivial⟩) (by kernel_rfl) ⟨?_, trivial⟩
                    refine EvStep.mk (some 71) (new := fun _ => [(8, some 72, .bool x9_7), (9, some 6, .bool x9_7)]) ([8, 9] ++ []) (by kernel_rfl) (Ev.call0 (xs := []) [] (by kernel_rfl) (by kernel_rfl) (fun w hS => haywainlaw13_knows.con K  _ _ w hS hx9_7)) (fun _ => by kernel_rfl) (fun _ => ?_)
                    refine D.fin (fr' := [(6, .bool x9_7)]) [8, 9] [] [] [] [6] (by kernel_rfl) (by kernel_rfl) trivial (by kernel_rfl) ?_
                    obtain rfl := Option.some.inj H
                    exact J.doneS [] [] [] [] [] () (vs := [.bool x9_7]) (by kernel_rfl) (by kernel_rfl) (by kernel_rfl) (by kernel_rfl) (by kernel_rfl) (by decide)
                  · refine J.drawS (by kernel_rfl) [(0, some 64, .agg #[.slice p4_2.1 x4_2.1.f0.length p4_2.2]), (2, some 66, .agg #[.slice h0.1 a0.f0.length h0.2])] ([0, 2] ++ []) (by kernel_rfl) ?_
                    refine D.mid (cs := [1]) [0, 2] [] [(0, 0), (2, 0)] [p4_6, 0, p0_0, 0] (by kernel_rfl) (by kernel_rfl) trivial (by kernel_rfl) ⟨?_, trivial⟩
                    refine EvStep.mk (some 65) (new := fun p9_1 => []) ([2] ++ []) (by kernel_rfl) (Ev.call0 (xs := [.tmp 64]) [1] (by kernel_rfl) (by kernel_rfl) (fun w hS => haywainlaw13_As.con K x4_2.1 p4_2  _ _ w hS hx9_1)) (fun p9_1 => by kernel_rfl) (fun p9_1 => ?_)
                    refine D.mid (cs := [3]) [2] [] [(2, 0)] [p0_0, 0] (by kernel_rfl) (by kernel_rfl) trivial (by kernel_rfl) ⟨?_, trivial⟩
                    refine EvStep.mk (some 67) (new := fun p9_3 => []) ([] ++ []) (by kernel_rfl) (Ev.call0 (xs := [.tmp 66]) [3] (by kernel_rfl) (by kernel_rfl) (fun w hS => haywainlaw13_As.con K a0 h0  _ _ w hS hx9_3)) (fun p9_3 => by kernel_rfl) (fun p9_3 => ?_)
                    refine D.mid (cs := [4]) [] [] [] [] (by kernel_rfl) (by kernel_rfl) trivial (by kernel_rfl) ⟨?_, trivial⟩
                    refine EvStep.mk (some 68) (new := fun p9_4 => []) ([] ++ []) (by kernel_rfl) (Ev.mono (fun w hS => hS.freezeH (h := p9_3) (xs := x9_3)) (Ev.call0 (xs := [.tmp 67]) [0] (by kernel_rfl) (by kernel_rfl) (fun w hS => haywainref13_Good.con K x9_3 p9_3  _ _ w hS hx9_4))) (fun p9_4 => by kernel_rfl) (fun p9_4 => ?_)
                    refine D.mid (cs := [5]) [] [] [] [] (by kernel_rfl) (by kernel_rfl) trivial (by kernel_rfl) ⟨?_, trivial⟩
                    refine EvStep.mk (some 69) (new := fun _ => [(6, some 70, .bool false), (7, some 71, undef), (8, some 72, .bool false), (9, some 6, .bool false)]) ([7, 8, 9] ++ [6]) (by kernel_rfl) (Ev.callLb (xs1 := [.tmp 65, .tmp 68]) [0, 1] (fun w hS => (hS.rowsel [0, 1] rfl (by decide)).freezeL (hh := p9_1) (m := x9_1.length) (xs := x9_1) rfl) (by kernel_rfl) (by kernel_rfl) (fun _ q hq => by cases hq) (fun w hS => haywainref13_Same.con K x9_1 x9_4 p9_1 p9_4  _ _ w hS hx9_5)) (fun _ => by kernel_rfl) (fun _ => ?_)
                    refine D.fin (fr' := [(6, .bool false)]) [7, 8, 9] [6] [] [] [6] (by kernel_rfl) (by kernel_rfl) (⟨QuAt.mk (v := .bool false) (some 70) (by kernel_rfl) (by kernel_rfl) (Qu.eqv (u := .bool x9_5) (v := .bool false) (0, 0) [] (by kernel_rfl) (congrArg Value.bool hc9)), trivial⟩) (by kernel_rfl) ?_
                    obtain rfl := Option.some.inj H
                    exact J.doneS [] [] [] [] [] () (vs := [.bool false]) (by kernel_rfl) (by kernel_rfl) (by kernel_rfl) (by kernel_rfl) (by kernel_rfl) (by decide)
                · refine J.condF (x := .tmp 63) (t := (x4_2.2 != 0)) (by kernel_rfl) (by kernel_rfl) hc8 ?_
                  refine J.skip (by kernel_rfl) ?_
                  refine J.seq (by kernel_rfl) ?_
                  rcases condE H with ⟨hc10, H⟩ | ⟨hc10, H⟩
                  · obtain ⟨x10_17, hx10_17, H⟩ := bindE H
                    refine J.region (by kernel_rfl) ?_
                    refine O.pure 3 [(1, 2)] [7, 8, 11, 12, 73, 75] [p0_1, 2] (fr' := [(7, .slice p3_2.1 x3_2.1.length p3_2.2), (8, .int .i64 x3_2.2), (11, .slice p5_2.1 x5_2.1.length p5_2.2), (12, .int .i64 x5_2.2), (73, .string a2), (75, .string a1.f2)]) (bx' := [⟨p4_6, [.slice p4_2.1 x4_2.1.f0.length p4_2.2], 24⟩, ⟨p0_1, [.int .i64 a1.f0, .int .i64 a1.f1, .string a1.f2, .slice h1.1 a1.f3.length h1.2, .slice h2.1 a1.f4.length h2.2], 52⟩, ⟨p0_0, [.slice h0.1 a0.f0.length h0.2], 24⟩]) (by kernel_rfl) ?_
                    refine O.q (v := .bool true) (some 76) (Qu.eqv (u := .bool (a2.toList == a1.f2.toList)) (v := .bool true) (0, 0) [] (by kernel_rfl) (congrArg Value.bool hc10)) (by kernel_rfl) ?_
                    refine O.pure 13 [] [89] [] (fr' := [(89, .bool true)]) (bx' := [⟨p4_6, [.slice p4_2.1 x4_2.1.f0.length p4_2.2], 24⟩, ⟨p0_1, [.int .i64 a1.f0, .int .i64 a1.f1, .string a1.f2, .slice h1.1 a1.f3.length h1.2, .slice h2.1 a1.f4.length h2.2], 52⟩, ⟨p0_0, [.slice h0.1 a0.f0.length h0.2], 24⟩]) (by kernel_rfl) ?_
                    refine O.e (some 90) (Ev.call0 (xs := []) [] (by kernel_rfl) (by kernel_rfl) (fun w hS => haywainlaw13_knows.con K  _ _ w hS hx10_17)) (by kernel_rfl) (fun _ => ?_)
                    refine O.pure 2 [] [6] [] (fr' := [(6, .bool x10_17)]) (bx' := [⟨p4_6, [.slice p4_2.1 x4_2.1.f0.length p4_2.2], 24⟩, ⟨p0_1, [.int .i64 a1.f0, .int .i64 a1.f1, .string a1.f2, .slice h1.1 a1.f3.length h1.2, .slice h2.1 a1.f4.length h2.2], 52⟩, ⟨p0_0, [.slice h0.1 a0.f0.length h0.2], 24⟩]) (by kernel_rfl) ?_
                    refine O.nil (by kernel_rfl) ?_
                    obtain rfl := Option.some.inj H
                    exact J.doneS [] [] [] [] [] () (vs := [.bool x10_17]) (by kernel_rfl) (by kernel_rfl) (by kernel_rfl) (by kernel_rfl) (by kernel_rfl) (by decide)
                  · rcases condE H with ⟨hc11, H⟩ | ⟨hc11, H⟩
                    · rcases condE H with ⟨hc12, H⟩ | ⟨hc12, H⟩
                      · obtain ⟨x10_17, hx10_17, H⟩ := bindE H
                        refine J.region (by kernel_rfl) ?_
                        refine O.pure 3 [(1, 2)] [7, 8, 11, 12, 73, 75] [p0_1, 2] (fr' := [(7, .slice p3_2.1 x3_2.1.length p3_2.2), (8, .int .i64 x3_2.2), (11, .slice p5_2.1 x5_2.1.length p5_2.2), (12, .int .i64 x5_2.2), (73, .string a2), (75, .string a1.f2)]) (bx' := [⟨p4_6, [.slice p4_2.1 x4_2.1.f0.length p4_2.2], 24⟩, ⟨p0_1, [.int .i64 a1.f0, .int .i64 a1.f1, .string a1.f2, .slice h1.1 a1.f3.length h1.2, .slice h2.1 a1.f4.length h2.2], 52⟩, ⟨p0_0, [.slice h0.1 a0.f0.length h0.2], 24⟩]) (by kernel_rfl) ?_
                        refine O.q (v := .bool false) (some 76) (Qu.eqv (u := .bool (a2.toList == a1.f2.toList)) (v := .bool false) (0, 0) [] (by kernel_rfl) (congrArg Value.bool hc10)) (by kernel_rfl) ?_
                        refine O.pure 2 [] [8, 11, 12, 77, 78] [] (fr' := [(8, .int .i64 x3_2.2), (11, .slice p5_2.1 x5_2.1.length p5_2.2), (12, .int .i64 x5_2.2), (77, .bool false), (78, .slice p3_2.1 x3_2.1.length p3_2.2)]) (bx' := [⟨p4_6, [.slice p4_2.1 x4_2.1.f0.length p4_2.2], 24⟩, ⟨p0_1, [.int .i64 a1.f0, .int .i64 a1.f1, .string a1.f2, .slice h1.1 a1.f3.length h1.2, .slice h2.1 a1.f4.length h2.2], 52⟩, ⟨p0_0, [.slice h0.1 a0.f0.length h0.2], 24⟩]) (by kernel_rfl) ?_
                        refine O.q (v := .string (strOfNums x3_2.1)) (some 79) (Qu.str (t := 30) (u := 9) (x := .tmp 78) (h := p3_2) (xs := x3_2.1) 2 (by kernel_rfl) (by kernel_rfl) (by kernel_rfl) (by kernel_rfl) rfl) (by kernel_rfl) ?_
                        refine O.pure 1 [] [8, 12, 77, 79, 80] [] (fr' := [(8, .int .i64 x3_2.2), (12, .int .i64 x5_2.2), (77, .bool false), (79, .string (strOfNums x3_2.1)), (80, .slice p5_2.1 x5_2.1.length p5_2.2)]) (bx' := [⟨p4_6, [.slice p4_2.1 x4_2.1.f0.length p4_2.2], 24⟩, ⟨p0_1, [.int .i64 a1.f0, .int .i64 a1.f1, .string a1.f2, .slice h1.1 a1.f3.length h1.2, .slice h2.1 a1.f4.length h2.2], 52⟩, ⟨p0_0, [.slice h0.1 a0.f0.length h0.2], 24⟩]) (by kernel_rfl) ?_
                        refine O.q (v := .string (strOfNums x5_2.1)) (some 81) (Qu.str (t := 30) (u := 9) (x := .tmp 80) (h := p5_2) (xs := x5_2.1) 0 (by kernel_rfl) (by kernel_rfl) (by kernel_rfl) (by kernel_rfl) rfl) (by kernel_rfl) ?_
                        refine O.q (v := .bool true) (some 82) (Qu.eqv (u := .bool ((strOfNums x3_2.1).toList == (strOfNums x5_2.1).toList)) (v := .bool true) (0, 0) [] (by kernel_rfl) (congrArg Value.bool hc11)) (by kernel_rfl) ?_
                        refine O.pure 3 [] [77, 83, 84, 85] [] (fr' := [(77, .bool false), (83, .bool true), (84, .int .i64 x3_2.2), (85, .int .i64 x5_2.2)]) (bx' := [⟨p4_6, [.slice p4_2.1 x4_2.1.f0.length p4_2.2], 24⟩, ⟨p0_1, [.int .i64 a1.f0, .int .i64 a1.f1, .string a1.f2, .slice h1.1 a1.f3.length h1.2, .slice h2.1 a1.f4.length h2.2], 52⟩, ⟨p0_0, [.slice h0.1 a0.f0.length h0.2], 24⟩]) (by kernel_rfl) ?_
                        refine O.q (v := .bool true) (some 86) (Qu.eqv (u := .bool (x3_2.2 == x5_2.2)) (v := .bool true) (0, 0) [] (by kernel_rfl) (congrArg Value.bool hc12)) (by kernel_rfl) ?_
                        refine O.pure 3 [] [89] [] (fr' := [(89, .bool true)]) (bx' := [⟨p4_6, [.slice p4_2.1 x4_2.1.f0.length p4_2.2], 24⟩, ⟨p0_1, [.int .i64 a1.f0, .int .i64 a1.f1, .string a1.f2, .slice h1.1 a1.f3.length h1.2, .slice h2.1 a1.f4.length h2.2], 52⟩, ⟨p0_0, [.slice h0.1 a0.f0.length h0.2], 24⟩]) (by kernel_rfl) ?_
                        refine O.e (some 90) (Ev.call0 (xs := []) [] (by kernel_rfl) (by kernel_rfl) (fun w hS => haywainlaw13_knows.con K  _ _ w hS hx10_17)) (by kernel_rfl) (fun _ => ?_)
                        refine O.pure 2 [] [6] [] (fr' := [(6, .bool x10_17)]) (bx' := [⟨p4_6, [.slice p4_2.1 x4_2.1.f0.length p4_2.2], 24⟩, ⟨p0_1, [.int .i64 a1.f0, .int .i64 a1.f1, .string a1.f2, .slice h1.1 a1.f3.length h1.2, .slice h2.1 a1.f4.length h2.2], 52⟩, ⟨p0_0, [.slice h0.1 a0.f0.length h0.2], 24⟩]) (by kernel_rfl) ?_
                        refine O.nil (by kernel_rfl) ?_
                        obtain rfl := Option.some.inj H
                        exact J.doneS [] [] [] [] [] () (vs := [.bool x10_17]) (by kernel_rfl) (by kernel_rfl) (by kernel_rfl) (by kernel_rfl) (by kernel_rfl) (by decide)
                      · refine J.region (by kernel_rfl) ?_
                        refine O.pure 3 [(1, 2)] [7, 8, 11, 12, 73, 75] [p0_1, 2] (fr' := [(7, .slice p3_2.1 x3_2.1.length p3_2.2), (8, .int .i64 x3_2.2), (11, .slice p5_2.1 x5_2.1.length p5_2.2), (12, .int .i64 x5_2.2), (73, .string a2), (75, .string a1.f2)]) (bx' := [⟨p4_6, [.slice p4_2.1 x4_2.1.f0.length p4_2.2], 24⟩, ⟨p0_1, [.int .i64 a1.f0, .int .i64 a1.f1, .string a1.f2, .slice h1.1 a1.f3.length h1.2, .slice h2.1 a1.f4.length h2.2], 52⟩, ⟨p0_0, [.slice h0.1 a0.f0.length h0.2], 24⟩]) (by kernel_rfl) ?_
                        refine O.q (v := .bool false) (some 76) (Qu.eqv (u := .bool (a2.toList == a1.f2.toList)) (v := .bool false) (0, 0) [] (by kernel_rfl) (congrArg Value.bool hc10)) (by kernel_rfl) ?_
                        refine O.pure 2 [] [8, 11, 12, 77, 78] [] (fr' := [(8, .int .i64 x3_2.2), (11, .slice p5_2.1 x5_2.1.length p5_2.2), (12, .int .i64 x5_2.2), (77, .bool false), (78, .slice p3_2.1 x3_2.1.length p3_2.2)]) (bx' := [⟨p4_6, [.slice p4_2.1 x4_2.1.f0.length p4_2.2], 24⟩, ⟨p0_1, [.int .i64 a1.f0, .int .i64 a1.f1, .string a1.f2, .slice h1.1 a1.f3.length h1.2, .slice h2.1 a1.f4.length h2.2], 52⟩, ⟨p0_0, [.slice h0.1 a0.f0.length h0.2], 24⟩]) (by kernel_rfl) ?_
                        refine O.q (v := .string (strOfNums x3_2.1)) (some 79) (Qu.str (t := 30) (u := 9) (x := .tmp 78) (h := p3_2) (xs := x3_2.1) 2 (by kernel_rfl) (by kernel_rfl) (by kernel_rfl) (by kernel_rfl) rfl) (by kernel_rfl) ?_
                        refine O.pure 1 [] [8, 12, 77, 79, 80] [] (fr' := [(8, .int .i64 x3_2.2), (12, .int .i64 x5_2.2), (77, .bool false), (79, .string (strOfNums x3_2.1)), (80, .slice p5_2.1 x5_2.1.length p5_2.2)]) (bx' := [⟨p4_6, [.slice p4_2.1 x4_2.1.f0.length p4_2.2], 24⟩, ⟨p0_1, [.int .i64 a1.f0, .int .i64 a1.f1, .string a1.f2, .slice h1.1 a1.f3.length h1.2, .slice h2.1 a1.f4.length h2.2], 52⟩, ⟨p0_0, [.slice h0.1 a0.f0.length h0.2], 24⟩]) (by kernel_rfl) ?_
                        refine O.q (v := .string (strOfNums x5_2.1)) (some 81) (Qu.str (t := 30) (u := 9) (x := .tmp 80) (h := p5_2) (xs := x5_2.1) 0 (by kernel_rfl) (by kernel_rfl) (by kernel_rfl) (by kernel_rfl) rfl) (by kernel_rfl) ?_
                        refine O.q (v := .bool true) (some 82) (Qu.eqv (u := .bool ((strOfNums x3_2.1).toList == (strOfNums x5_2.1).toList)) (v := .bool true) (0, 0) [] (by kernel_rfl) (congrArg Value.bool hc11)) (by kernel_rfl) ?_
                        refine O.pure 3 [] [77, 83, 84, 85] [] (fr' := [(77, .bool false), (83, .bool true), (84, .int .i64 x3_2.2), (85, .int .i64 x5_2.2)]) (bx' := [⟨p4_6, [.slice p4_2.1 x4_2.1.f0.length p4_2.2], 24⟩, ⟨p0_1, [.int .i64 a1.f0, .int .i64 a1.f1, .string a1.f2, .slice h1.1 a1.f3.length h1.2, .slice h2.1 a1.f4.length h2.2], 52⟩, ⟨p0_0, [.slice h0.1 a0.f0.length h0.2], 24⟩]) (by kernel_rfl) ?_
                        refine O.q (v := .bool false) (some 86) (Qu.eqv (u := .bool (x3_2.2 == x5_2.2)) (v := .bool false) (0, 0) [] (by kernel_rfl) (congrArg Value.bool hc12)) (by kernel_rfl) ?_
                        refine O.pure 6 [] [6] [] (fr' := [(6, .bool false)]) (bx' := [⟨p4_6, [.slice p4_2.1 x4_2.1.f0.length p4_2.2], 24⟩, ⟨p0_1, [.int .i64 a1.f0, .int .i64 a1.f1, .string a1.f2, .slice h1.1 a1.f3.length h1.2, .slice h2.1 a1.f4.length h2.2], 52⟩, ⟨p0_0, [.slice h0.1 a0.f0.length h0.2], 24⟩]) (by kernel_rfl) ?_
                        refine O.nil (by kernel_rfl) ?_
                        obtain rfl := Option.some.inj H
                        exact J.doneS [] [] [] [] [] () (vs := [.bool false]) (by kernel_rfl) (by kernel_rfl) (by kernel_rfl) (by kernel_rfl) (by kernel_rfl) (by decide)
                    · refine J.region (by kernel_rfl) ?_
                      refine O.pure 3 [(1, 2)] [7, 8, 11, 12, 73, 75] [p0_1, 2] (fr' := [(7, .slice p3_2.1 x3_2.1.length p3_2.2), (8, .int .i64 x3_2.2), (11, .slice p5_2.1 x5_2.1.length p5_2.2), (12, .int .i64 x5_2.2), (73, .string a2), (75, .string a1.f2)]) (bx' := [⟨p4_6, [.slice p4_2.1 x4_2.1.f0.length p4_2.2], 24⟩, ⟨p0_1, [.int .i64 a1.f0, .int .i64 a1.f1, .string a1.f2, .slice h1.1 a1.f3.length h1.2, .slice h2.1 a1.f4.length h2.2], 52⟩, ⟨p0_0, [.slice h0.1 a0.f0.length h0.2], 24⟩]) (by kernel_rfl) ?_
                      refine O.q (v := .bool false) (some 76) (Qu.eqv (u := .bool (a2.toList == a1.f2.toList)) (v := .bool false) (0, 0) [] (by kernel_rfl) (congrArg Value.bool hc10)) (by kernel_rfl) ?_
                      refine O.pure 2 [] [8, 11, 12, 77, 78] [] (fr' := [(8, .int .i64 x3_2.2), (11, .slice p5_2.1 x5_2.1.length p5_2.2), (12, .int .i64 x5_2.2), (77, .bool false), (78, .slice p3_2.1 x3_2.1.length p3_2.2)]) (bx' := [⟨p4_6, [.slice p4_2.1 x4_2.1.f0.length p4_2.2], 24⟩, ⟨p0_1, [.int .i64 a1.f0, .int .i64 a1.f1, .string a1.f2, .slice h1.1 a1.f3.length h1.2, .slice h2.1 a1.f4.length h2.2], 52⟩, ⟨p0_0, [.slice h0.1 a0.f0.length h0.2], 24⟩]) (by kernel_rfl) ?_
                      refine O.q (v := .string (strOfNums x3_2.1)) (some 79) (Qu.str (t := 30) (u := 9) (x := .tmp 78) (h := p3_2) (xs := x3_2.1) 2 (by kernel_rfl) (by kernel_rfl) (by kernel_rfl) (by kernel_rfl) rfl) (by kernel_rfl) ?_
                      refine O.pure 1 [] [8, 12, 77, 79, 80] [] (fr' := [(8, .int .i64 x3_2.2), (12, .int .i64 x5_2.2), (77, .bool false), (79, .string (strOfNums x3_2.1)), (80, .slice p5_2.1 x5_2.1.length p5_2.2)]) (bx' := [⟨p4_6, [.slice p4_2.1 x4_2.1.f0.length p4_2.2], 24⟩, ⟨p0_1, [.int .i64 a1.f0, .int .i64 a1.f1, .string a1.f2, .slice h1.1 a1.f3.length h1.2, .slice h2.1 a1.f4.length h2.2], 52⟩, ⟨p0_0, [.slice h0.1 a0.f0.length h0.2], 24⟩]) (by kernel_rfl) ?_
                      refine O.q (v := .string (strOfNums x5_2.1)) (some 81) (Qu.str (t := 30) (u := 9) (x := .tmp 80) (h := p5_2) (xs := x5_2.1) 0 (by kernel_rfl) (by kernel_rfl) (by kernel_rfl) (by kernel_rfl) rfl) (by kernel_rfl) ?_
                      refine O.q (v := .bool false) (some 82) (Qu.eqv (u := .bool ((strOfNums x3_2.1).toList == (strOfNums x5_2.1).toList)) (v := .bool false) (0, 0) [] (by kernel_rfl) (congrArg Value.bool hc11)) (by kernel_rfl) ?_
                      refine O.pure 10 [] [6] [] (fr' := [(6, .bool false)]) (bx' := [⟨p4_6, [.slice p4_2.1 x4_2.1.f0.length p4_2.2], 24⟩, ⟨p0_1, [.int .i64 a1.f0, .int .i64 a1.f1, .string a1.f2, .slice h1.1 a1.f3.length h1.2, .slice h2.1 a1.f4.length h2.2], 52⟩, ⟨p0_0, [.slice h0.1 a0.f0.length h0.2], 24⟩]) (by kernel_rfl) ?_
                      refine O.nil (by kernel_rfl) ?_
                      obtain rfl := Option.some.inj H
                      exact J.doneS [] [] [] [] [] () (vs := [.bool false]) (by kernel_rfl) (by kernel_rfl) (by kernel_rfl) (by kernel_rfl) (by kernel_rfl) (by decide)
def haywainlaw13_DiskApart.Pure : Prop := ∀ (a0 : S24) (a1 : S52) (a2 : ByteArray), (wf24 a0) → (wf52 a1) → (a2.size ≤ 140737488351232) → ∃ K, haywainlaw13_DiskApart.f K a0 a1 a2 = some true
end Go.Proofs.Ytfgdceeceehmpaa.G
