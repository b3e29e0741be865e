/- The law CkptLater as plain Lean, with its contract; printed by a program of this session. -/
import Derived.Test.YtkcpbehgjbionaaG2
set_option linter.unusedVariables false
set_option linter.unusedSimpArgs false
namespace Go.Proofs.Ytkcpbehgjbionaa.G
open Go Go.RowKit Go.Hw
/-! ### haywain/haywainlaw14.CkptLater: function 8 -/
def haywainlaw14_CkptLater.l88 (K : Nat) (a0 : List (List Int)) : Nat → ((List Int) × Int) → Option (List Int)
  | 0, _ => none
  | k + 1, s88 => cond (decide (s88.2 < (a0.length : Int))) (cond (decide (s88.2 < 10)) ((idxO a0 s88.2).bind fun x11_2 => cond (decide ((x11_2.length : Int) ≤ 500)) ((idxO a0 s88.2).bind fun x12_2 => haywainlaw14_CkptLater.l88 K a0 k (x12_2, (IntKind.wrap .i64 (s88.2 + 1)))) (haywainlaw14_CkptLater.l88 K a0 k (s88.1, (IntKind.wrap .i64 (s88.2 + 1))))) (some (s88.1))) (some (s88.1))
def haywainlaw14_CkptLater.f (K : Nat) (a0 : List (List Int)) (a1 : Int) (a2 : Int) : Option Bool := (haywainlaw14_kept.f K a0).bind fun x1_1 => cond (!x1_1.2.2) (some (false)) ((ckpt_Last.f K x1_1.1).bind fun x4_1 => cond (x1_1.2.1 == 0) (cond (x4_1.1 == 0) (cond (x4_1.2.2 == 4) (cond ((x1_1.1.f0.length : Int) == 0) ((haywainlaw14_knows.f K).bind fun x6_13 => some (x6_13)) (some (false))) (some (false))) (some (false))) ((haywainlaw14_CkptLater.l88 K a0 K (([] : List Int), 0) : Option (List Int)).bind fun o6 : (List Int) => cond (x4_1.1 != x1_1.2.1) (some (false)) (cond (!((strOfNums x4_1.2.1).toList == (strOfNums o6).toList)) (some (false)) (cond (x4_1.2.2 != 0) (some (false)) ((disk_Names.f K x1_1.1).bind fun x13_16 => cond ((x13_16.length : Int) != 2) (some (false)) ((ckpt_Save.f K x1_1.1 a1 ([] : List Int)).bind fun x15_2 => (cond (decide (a1 ≥ 1)) (cond (decide (a1 ≤ x1_1.2.1)) (cond (x15_2.2 != 6) (some (true)) (cond (decide (a1 > x1_1.2.1)) (cond (decide (a1 ≤ 1099511627776)) (cond (x15_2.2 != 0) (some (true)) (cond (decide (a1 < 1)) (some ((x15_2.2 != 1))) (cond (decide (a1 > 1099511627776)) (some ((x15_2.2 != 1))) (some (false))))) (cond (decide (a1 < 1)) (some ((x15_2.2 != 1))) (cond (decide (a1 > 1099511627776)) (some ((x15_2.2 != 1))) (some (false))))) (cond (decide (a1 < 1)) (some ((x15_2.2 != 1))) (cond (decide (a1 > 1099511627776)) (some ((x15_2.2 != 1))) (some (false)))))) (cond (decide (a1 > x1_1.2.1)) (cond (decide (a1 ≤ 1099511627776)) (cond (x15_2.2 != 0) (some (true)) (cond (decide (a1 < 1)) (some ((x15_2.2 != 1))) (cond (decide (a1 > 1099511627776)) (some ((x15_2.2 != 1))) (some (false))))) (cond (decide (a1 < 1)) (some ((x15_2.2 != 1))) (cond (decide (a1 > 1099511627776)) (some ((x15_2.2 != 1))) (some (false))))) (cond (decide (a1 < 1)) (some ((x15_2.2 != 1))) (cond (decide (a1 > 1099511627776)) (some ((x15_2.2 != 1))) (some (false)))))) (cond (decide (a1 > x1_1.2.1)) (cond (decide (a1 ≤ 1099511627776)) (cond (x15_2.2 != 0) (some (true)) (cond (decide (a1 < 1)) (some ((x15_2.2 != 1))) (cond (decide (a1 > 1099511627776)) (some ((x15_2.2 != 1))) (some (false))))) (cond (decide (a1 < 1)) (some ((x15_2.2 != 1))) (cond (decide (a1 > 1099511627776)) (some ((x15_2.2 != 1))) (some (false))))) (cond (decide (a1 < 1)) (some ((x15_2.2 != 1))) (cond (decide (a1 > 1099511627776)) (some ((x15_2.2 != 1))) (some (false))))) : Option Bool).bind fun o20 : Bool => cond o20 (some (false)) ((remO a2 15).bind fun z18_3 => (cutO ([0, 0, 0, 8, 1, 2, 3, 4, 5, 6, 7, 8, 9, 10, 11] : List Int) 0 (IntKind.wrap .i64 (a2.tmod 15))).bind fun y18_5 => (disk_Put.f K x1_1.1 (⟨#[109]⟩ : ByteArray) (cutL ([0, 0, 0, 8, 1, 2, 3, 4, 5, 6, 7, 8, 9, 10, 11] : List Int) ((0 : Int).toNat) (((IntKind.wrap .i64 (a2.tmod 15)) : Int).toNat))).bind fun x18_6 => cond (x18_6.2 != 0) (some (false)) ((ckpt_Save.f K x18_6.1 (IntKind.wrap .i64 (x1_1.2.1 + 1)) ([] : List Int)).bind fun x21_3 => (ckpt_Open.f K x18_6.1).bind fun x22_1 => (ckpt_Save.f K x22_1.1 (IntKind.wrap .i64 (x1_1.2.1 + 1)) ([] : List Int)).bind fun x23_3 => (ckpt_Last.f K x18_6.1).bind fun x24_1 => (remO a2 15).bind fun z25_3 => cond ((x21_3.2 == 6) == (decide ((a2.tmod 15) > 0))) (cond (x22_1.2 == 0) (cond (x23_3.2 == 0) (cond (x24_1.1 == x1_1.2.1) (cond (x24_1.2.2 == 0) ((haywainlaw14_knows.f K).bind fun x25_24 => some (x25_24)) (some (false))) (some (false))) (some (false))) (some (false))) (some (false))))))))))
set_option maxRecDepth 100000 in
set_option maxHeartbeats 1000000 in
theorem haywainlaw14_CkptLater.con (K : Nat) (a0 : List (List Int)) (a1 : Int) (a2 : Int) (h0 : Hd) (r : Bool) (X : Nat → Nat → Prop) (w : World) (hS : St X w [] [] [] [] [Rd (Kd.slice (Kd.int .u8)) h0.1 h0.2 a0] w) (H : haywainlaw14_CkptLater.f K a0 a1 a2 = some r) (hr : r = true) :
    Cn Try.prog 8 [.slice h0.1 a0.length h0.2, .int .i64 a1, .int .u8 a2] X w [] (fun i : Unit => .bool r) (fun i => []) (fun i => []) (fun i => []) := by
 refine Cn.of Try.func8 (by kernel_rfl) hS ?_
 unfold haywainlaw14_CkptLater.f at H
 refine J.seq (by kernel_rfl) ?_
 refine J.region (by kernel_rfl) ?_
 refine O.pure 1 [] [0, 1, 2] [] (fr' := [(0, .slice h0.1 a0.length h0.2), (1, .int .i64 a1), (2, .int .u8 a2)]) (bx' := []) (by kernel_rfl) ?_
 refine O.nil (by kernel_rfl) ?_
 refine J.seq (by kernel_rfl) ?_
 obtain ⟨x1_1, hx1_1, H⟩ := bindE H
 refine J.region (by kernel_rfl) ?_
 refine O.pure 1 [] [0, 1, 2, 29] [] (fr' := [(0, .slice h0.1 a0.length h0.2), (1, .int .i64 a1), (2, .int .u8 a2), (29, .slice h0.1 a0.length h0.2)]) (bx' := []) (by kernel_rfl) ?_
 refine O.e (some 30) (Ev.call0 (xs := [.tmp 29]) [0] (by kernel_rfl) (by kernel_rfl) (fun w hS => haywainlaw14_kept.con K a0 h0  _ _ w hS hx1_1)) (by kernel_rfl) (fun p1_1 => ?_)
 refine O.pure 4 [] [0, 1, 2, 31, 32, 33] [] (fr' := [(0, .slice h0.1 a0.length h0.2), (1, .int .i64 a1), (2, .int .u8 a2), (31, .agg #[.slice p1_1.1 x1_1.1.f0.length p1_1.2]), (32, .int .i64 x1_1.2.1), (33, .bool x1_1.2.2)]) (bx' := []) (by kernel_rfl) ?_
 refine O.e (some 7) (Ev.alloc (t := 24) (z := .agg #[.slice none 0 0]) (by kernel_rfl) (by kernel_rfl)) (by kernel_rfl) (fun p1_6 => ?_)
 refine O.pure 3 [(0, 0)] [0, 1, 2, 7, 8, 9] [p1_6, 0] (fr' := [(0, .slice h0.1 a0.length h0.2), (1, .int .i64 a1), (2, .int .u8 a2), (7, .pointer (some ⟨p1_6, 0, none⟩)), (8, .int .i64 x1_1.2.1), (9, .bool x1_1.2.2)]) (bx' := [⟨p1_6, [.slice p1_1.1 x1_1.1.f0.length p1_1.2], 24⟩]) (by kernel_rfl) ?_
 refine O.nil (by kernel_rfl) ?_
 refine J.seq (by kernel_rfl) ?_
 refine J.seq (by kernel_rfl) ?_
 refine J.region (by kernel_rfl) ?_
 refine O.pure 2 [] [0, 1, 2, 7, 8, 35] [] (fr' := [(0, .slice h0.1 a0.length h0.2), (1, .int .i64 a1), (2, .int .u8 a2), (7, .pointer (some ⟨p1_6, 0, none⟩)), (8, .int .i64 x1_1.2.1), (35, .bool (!x1_1.2.2))]) (bx' := [⟨p1_6, [.slice p1_1.1 x1_1.1.f0.length p1_1.2], 24⟩]) (by kernel_rfl) ?_
 refine O.nil (by kernel_rfl) ?_
 rcases condE H with ⟨hc1, H⟩ | ⟨hc1, H⟩
 ·obtain rfl := Option.some.inj H
  cases hr
 ·refine J.condF (x := .tmp 35) (t := (!x1_1.2.2)) (by kernel_rfl) (by kernel_rfl) hc1 ?_
  refine J.skip (by kernel_rfl) ?_
  refine J.seq (by kernel_rfl) ?_
  obtain ⟨x4_1, hx4_1, H⟩ := bindE H
  refine J.region (by kernel_rfl) ?_
  refine O.pure 1 [(0, 0)] [0, 1, 2, 7, 8, 37] [p1_6, 0] (fr' := [(0, .slice h0.1 a0.length h0.2), (1, .int .i64 a1), (2, .int .u8 a2), (7, .pointer (some ⟨p1_6, 0, none⟩)), (8, .int .i64 x1_1.2.1), (37, .agg #[.slice p1_1.1 x1_1.1.f0.length p1_1.2])]) (bx' := [⟨p1_6, [.slice p1_1.1 x1_1.1.f0.length p1_1.2], 24⟩]) (by kernel_rfl) ?_
  refine O.e (some 38) (Ev.call0 (xs := [.tmp 37]) [0] (by kernel_rfl) (by kernel_rfl) (fun w hS => ckpt_Last.con K x1_1.1 p1_1  _ _ w hS hx4_1)) (by kernel_rfl) (fun p4_1 => ?_)
  refine O.pure 7 [] [0, 1, 2, 7, 8, 10, 11, 12] [] (fr' := [(0, .slice h0.1 a0.length h0.2), (1, .int .i64 a1), (2, .int .u8 a2), (7, .pointer (some ⟨p1_6, 0, none⟩)), (8, .int .i64 x1_1.2.1), (10, .int .i64 x4_1.1), (11, .slice p4_1.1 x4_1.2.1.length p4_1.2), (12, .int .i64 x4_1.2.2)]) (bx' := [⟨p1_6, [.slice p1_1.1 x1_1.1.f0.length p1_1.2], 24⟩]) (by kernel_rfl) ?_
  refine O.nil (by kernel_rfl) ?_
  refine J.seq (by kernel_rfl) ?_
  refine J.seq (by kernel_rfl) ?_
  refine J.region (by kernel_rfl) ?_
  refine O.pure 2 [] [0, 1, 2, 7, 8, 10, 11, 12, 43] [] (fr' := [(0, .slice h0.1 a0.length h0.2), (1, .int .i64 a1), (2, .int .u8 a2), (7, .pointer (some ⟨p1_6, 0, none⟩)), (8, .int .i64 x1_1.2.1), (10, .int .i64 x4_1.1), (11, .slice p4_1.1 x4_1.2.1.length p4_1.2), (12, .int .i64 x4_1.2.2), (43, .bool (x1_1.2.1 == 0))]) (bx' := [⟨p1_6, [.slice p1_1.1 x1_1.1.f0.length p1_1.2], 24⟩]) (by kernel_rfl) ?_
  refine O.nil (by kernel_rfl) ?_
  rcases condE H with ⟨hc2, H⟩ | ⟨hc2, H⟩
  ·refine J.condT (x := .tmp 43) (t := (x1_1.2.1 == 0)) (by kernel_rfl) (by kernel_rfl) hc2 ?_
   refine J.seq (by kernel_rfl) ?_
   rcases condE H with ⟨hc3, H⟩ | ⟨hc3, H⟩
   ·rcases condE H with ⟨hc4, H⟩ | ⟨hc4, H⟩
    ·rcases condE H with ⟨hc5, H⟩ | ⟨hc5, H⟩
     ·obtain ⟨x6_13, hx6_13, H⟩ := bindE H
      refine J.region (by kernel_rfl) ?_
      refine O.pure 1 [] [7, 12, 44] [] (fr' := [(7, .pointer (some ⟨p1_6, 0, none⟩)), (12, .int .i64 x4_1.2.2), (44, .int .i64 x4_1.1)]) (bx' := [⟨p1_6, [.slice p1_1.1 x1_1.1.f0.length p1_1.2], 24⟩]) (by kernel_rfl) ?_
      refine O.q (v := .bool true) (some 45) (Qu.eqv (u := .bool (x4_1.1 == 0)) (v := .bool true) (0, 0) [] (by kernel_rfl) (congrArg Value.bool hc3)) (by kernel_rfl) ?_
      refine O.pure 2 [] [7, 46, 47] [] (fr' := [(7, .pointer (some ⟨p1_6, 0, none⟩)), (46, .bool true), (47, .int .i64 x4_1.2.2)]) (bx' := [⟨p1_6, [.slice p1_1.1 x1_1.1.f0.length p1_1.2], 24⟩]) (by kernel_rfl) ?_
      refine O.q (v := .bool true) (some 48) (Qu.eqv (u := .bool (x4_1.2.2 == 4)) (v := .bool true) (0, 0) [] (by kernel_rfl) (congrArg Value.bool hc4)) (by kernel_rfl) ?_
      refine O.pure 5 [(0, 0)] [50, 53] [p1_6, 0] (fr' := [(50, .bool true), (53, .int .i64 (x1_1.1.f0.length : Int))]) (bx' := [⟨p1_6, [.slice p1_1.1 x1_1.1.f0.length p1_1.2], 24⟩]) (by kernel_rfl) ?_
      refine O.q (v := .bool true) (some 54) (Qu.eqv (u := .bool ((x1_1.1.f0.length : Int) == 0)) (v := .bool true) (0, 0) [] (by kernel_rfl) (congrArg Value.bool hc5)) (by kernel_rfl) ?_
      refine O.pure 2 [] [56] [] (fr' := [(56, .bool true)]) (bx' := [⟨p1_6, [.slice p1_1.1 x1_1.1.f0.length p1_1.2], 24⟩]) (by kernel_rfl) ?_
      refine O.e (some 57) (Ev.call0 (xs := []) [] (by kernel_rfl) (by kernel_rfl) (fun w hS => haywainlaw14_knows.con K  _ _ w hS hx6_13 ((Option.some.inj H).trans hr))) (by kernel_rfl) (fun _ => ?_)
      refine O.pure 2 [] [6] [] (fr' := [(6, .bool x6_13)]) (bx' := [⟨p1_6, [.slice p1_1.1 x1_1.1.f0.length p1_1.2], 24⟩]) (by kernel_rfl) ?_
      refine O.nil (by kernel_rfl) ?_
      obtain rfl := Option.some.inj H
      exact J.doneS [] [] [] [] [] () (vs := [.bool x6_13]) (by kernel_rfl) (by kernel_rfl) (by kernel_rfl) (by kernel_rfl) (by kernel_rfl) (by decide)
     ·obtain rfl := Option.some.inj H
      cases hr
    ·obtain rfl := Option.some.inj H
     cases hr
   ·obtain rfl := Option.some.inj H
    cases hr
  ·refine J.condF (x := .tmp 43) (t := (x1_1.2.1 == 0)) (by kernel_rfl) (by kernel_rfl) hc2 ?_
   refine J.skip (by kernel_rfl) ?_
   refine J.seq (by kernel_rfl) ?_
   refine J.region (by kernel_rfl) ?_
   refine O.pure 1 [] [0, 1, 2, 7, 8, 10, 11, 12, 13] [] (fr' := [(0, .slice h0.1 a0.length h0.2), (1, .int .i64 a1), (2, .int .u8 a2), (7, .pointer (some ⟨p1_6, 0, none⟩)), (8, .int .i64 x1_1.2.1), (10, .int .i64 x4_1.1), (11, .slice p4_1.1 x4_1.2.1.length p4_1.2), (12, .int .i64 x4_1.2.2), (13, .slice none 0 0)]) (bx' := [⟨p1_6, [.slice p1_1.1 x1_1.1.f0.length p1_1.2], 24⟩]) (by kernel_rfl) ?_
   refine O.nil (by kernel_rfl) ?_
   refine J.seq (by kernel_rfl) ?_
   refine J.seq (by kernel_rfl) ?_
   refine J.region (by kernel_rfl) ?_
   refine O.pure 1 [] [0, 1, 2, 7, 8, 10, 11, 12, 13, 14] [] (fr' := [(0, .slice h0.1 a0.length h0.2), (1, .int .i64 a1), (2, .int .u8 a2), (7, .pointer (some ⟨p1_6, 0, none⟩)), (8, .int .i64 x1_1.2.1), (10, .int .i64 x4_1.1), (11, .slice p4_1.1 x4_1.2.1.length p4_1.2), (12, .int .i64 x4_1.2.2), (13, .slice none 0 0), (14, .int .i64 0)]) (bx' := [⟨p1_6, [.slice p1_1.1 x1_1.1.f0.length p1_1.2], 24⟩]) (by kernel_rfl) ?_
   refine O.nil (by kernel_rfl) ?_
   refine J.join (α := (List Int)) (γ := Hd) (fun o6 q6 => [(1, .int .i64 a1), (2, .int .u8 a2), (7, .pointer (some ⟨p1_6, 0, none⟩)), (8, .int .i64 x1_1.2.1), (10, .int .i64 x4_1.1), (11, .slice p4_1.1 x4_1.2.1.length p4_1.2), (12, .int .i64 x4_1.2.2), (13, .slice q6.1 o6.length q6.2)]) (fun o6 q6 => St X w [] [⟨p1_6, [.slice p1_1.1 x1_1.1.f0.length p1_1.2], 24⟩] [] [] [Rd (Kd.int .u8) q6.1 q6.2 o6, Rd (Kd.int .u8) p4_1.1 p4_1.2 x4_1.2.1, Rd kd70 p1_1.1 p1_1.2 x1_1.1.f0, Rd (Kd.slice (Kd.int .u8)) h0.1 h0.2 a0]) H (fun o6 q6 H => ?_) (fun o6 H hj6 => ?_)
   ·refine J.seq (by kernel_rfl) ?_
    refine J.seq (by kernel_rfl) ?_
    rcases condE H with ⟨hc16, H⟩ | ⟨hc16, H⟩
    ·obtain rfl := Option.some.inj H
     cases hr
    ·rcases condE H with ⟨hc17, H⟩ | ⟨hc17, H⟩
     ·obtain rfl := Option.some.inj H
      cases hr
     ·rcases condE H with ⟨hc18, H⟩ | ⟨hc18, H⟩
      ·obtain rfl := Option.some.inj H
       cases hr
      ·obtain ⟨x13_16, hx13_16, H⟩ := bindE H
       refine J.region (by kernel_rfl) ?_
       refine O.pure 2 [] [1, 2, 7, 8, 11, 12, 13, 79, 80] [] (fr' := [(1, .int .i64 a1), (2, .int .u8 a2), (7, .pointer (some ⟨p1_6, 0, none⟩)), (8, .int .i64 x1_1.2.1), (11, .slice p4_1.1 x4_1.2.1.length p4_1.2), (12, .int .i64 x4_1.2.2), (13, .slice q6.1 o6.length q6.2), (79, .int .i64 x4_1.1), (80, .int .i64 x1_1.2.1)]) (bx' := [⟨p1_6, [.slice p1_1.1 x1_1.1.f0.length p1_1.2], 24⟩]) (by kernel_rfl) ?_
       refine O.q (v := .bool false) (some 81) (Qu.eqv (u := .bool (x4_1.1 != x1_1.2.1)) (v := .bool false) (0, 0) [] (by kernel_rfl) (congrArg Value.bool hc16)) (by kernel_rfl) ?_
       refine O.pure 2 [] [1, 2, 7, 8, 12, 13, 82, 83] [] (fr' := [(1, .int .i64 a1), (2, .int .u8 a2), (7, .pointer (some ⟨p1_6, 0, none⟩)), (8, .int .i64 x1_1.2.1), (12, .int .i64 x4_1.2.2), (13, .slice q6.1 o6.length q6.2), (82, .bool false), (83, .slice p4_1.1 x4_1.2.1.length p4_1.2)]) (bx' := [⟨p1_6, [.slice p1_1.1 x1_1.1.f0.length p1_1.2], 24⟩]) (by kernel_rfl) ?_
       refine O.q (v := .string (strOfNums x4_1.2.1)) (some 84) (Qu.str (t := 27) (u := 9) (x := .tmp 83) (h := p4_1) (xs := x4_1.2.1) 1 (by kernel_rfl) (by kernel_rfl) (by kernel_rfl) (by kernel_rfl) rfl) (by kernel_rfl) ?_
       refine O.pure 1 [] [1, 2, 7, 8, 12, 82, 84, 85] [] (fr' := [(1, .int .i64 a1), (2, .int .u8 a2), (7, .pointer (some ⟨p1_6, 0, none⟩)), (8, .int .i64 x1_1.2.1), (12, .int .i64 x4_1.2.2), (82, .bool false), (84, .string (strOfNums x4_1.2.1)), (85, .slice q6.1 o6.length q6.2)]) (bx' := [⟨p1_6, [.slice p1_1.1 x1_1.1.f0.length p1_1.2], 24⟩]) (by kernel_rfl) ?_
       refine O.q (v := .string (strOfNums o6)) (some 86) (Qu.str (t := 27) (u := 9) (x := .tmp 85) (h := q6) (xs := o6) 0 (by kernel_rfl) (by kernel_rfl) (by kernel_rfl) (by kernel_rfl) rfl) (by kernel_rfl) ?_
       refine O.q (v := .bool false) (some 87) (Qu.eqv (u := .bool (!((strOfNums x4_1.2.1).toList == (strOfNums o6).toList))) (v := .bool false) (0, 0) [] (by kernel_rfl) (congrArg Value.bool hc17)) (by kernel_rfl) ?_
       refine O.pure 3 [] [1, 2, 7, 8, 89, 90] [] (fr' := [(1, .int .i64 a1), (2, .int .u8 a2), (7, .pointer (some ⟨p1_6, 0, none⟩)), (8, .int .i64 x1_1.2.1), (89, .bool false), (90, .int .i64 x4_1.2.2)]) (bx' := [⟨p1_6, [.slice p1_1.1 x1_1.1.f0.length p1_1.2], 24⟩]) (by kernel_rfl) ?_
       refine O.q (v := .bool false) (some 91) (Qu.eqv (u := .bool (x4_1.2.2 != 0)) (v := .bool false) (0, 0) [] (by kernel_rfl) (congrArg Value.bool hc18)) (by kernel_rfl) ?_
       refine O.pure 3 [(0, 0)] [1, 2, 7, 8, 93, 94] [p1_6, 0] (fr' := [(1, .int .i64 a1), (2, .int .u8 a2), (7, .pointer (some ⟨p1_6, 0, none⟩)), (8, .int .i64 x1_1.2.1), (93, .bool false), (94, .agg #[.slice p1_1.1 x1_1.1.f0.length p1_1.2])]) (bx' := [⟨p1_6, [.slice p1_1.1 x1_1.1.f0.length p1_1.2], 24⟩]) (by kernel_rfl) ?_
       refine O.e (some 95) (Ev.call0 (xs := [.tmp 94]) [2] (by kernel_rfl) (by kernel_rfl) (fun w hS => disk_Names.con K x1_1.1 p1_1  _ _ w hS hx13_16)) (by kernel_rfl) (fun p13_16 => ?_)
       refine O.pure 3 [] [1, 2, 7, 8, 98] [] (fr' := [(1, .int .i64 a1), (2, .int .u8 a2), (7, .pointer (some ⟨p1_6, 0, none⟩)), (8, .int .i64 x1_1.2.1), (98, .bool ((x13_16.length : Int) != 2))]) (bx' := [⟨p1_6, [.slice p1_1.1 x1_1.1.f0.length p1_1.2], 24⟩]) (by kernel_rfl) ?_
       refine O.nil (by kernel_rfl) ?_
       rcases condE H with ⟨hc19, H⟩ | ⟨hc19, H⟩
       ·obtain rfl := Option.some.inj H
        cases hr
       ·refine J.condF (x := .tmp 98) (t := ((x13_16.length : Int) != 2)) (by kernel_rfl) (by kernel_rfl) hc19 ?_
        refine J.skip (by kernel_rfl) ?_
        refine J.seq (by kernel_rfl) ?_
        obtain ⟨x15_2, hx15_2, H⟩ := bindE H
        refine J.region (by kernel_rfl) ?_
        refine O.pure 2 [(0, 0)] [1, 2, 7, 8, 100, 101] [p1_6, 0] (fr' := [(1, .int .i64 a1), (2, .int .u8 a2), (7, .pointer (some ⟨p1_6, 0, none⟩)), (8, .int .i64 x1_1.2.1), (100, .agg #[.slice p1_1.1 x1_1.1.f0.length p1_1.2]), (101, .int .i64 a1)]) (bx' := [⟨p1_6, [.slice p1_1.1 x1_1.1.f0.length p1_1.2], 24⟩]) (by kernel_rfl) ?_
        refine O.e (some 102) (Ev.mono (fun w hS => hS.add (fun w' _ => Rd.nil (Kd.int .u8) w')) (Ev.call0 (xs := [.tmp 100, .tmp 101, .const (.slice none 0 0)]) [3, 0] (by kernel_rfl) (by kernel_rfl) (fun w hS => ckpt_Save.con K x1_1.1 a1 ([] : List Int) p1_1 (none, 0)  _ _ w hS hx15_2))) (by kernel_rfl) (fun p15_2 => ?_)
        refine O.pure 5 [] [1, 2, 7, 8, 16] [] (fr' := [(1, .int .i64 a1), (2, .int .u8 a2), (7, .pointer (some ⟨p1_6, 0, none⟩)), (8, .int .i64 x1_1.2.1), (16, .int .i64 x15_2.2)]) (bx' := [⟨p1_6, [.slice p1_1.1 x1_1.1.f0.length p1_1.2], 24⟩]) (by kernel_rfl) ?_
        refine O.nil (by kernel_rfl) ?_
        refine J.seq (by kernel_rfl) ?_
        refine J.seq (by kernel_rfl) ?_
        refine J.join (α := Bool) (γ := Unit) (fun o20 q20 => [(2, .int .u8 a2), (7, .pointer (some ⟨p1_6, 0, none⟩)), (8, .int .i64 x1_1.2.1), (140, .bool o20)]) (fun o20 q20 => St X w [] [⟨p1_6, [.slice p1_1.1 x1_1.1.f0.length p1_1.2], 24⟩] [] [] [Rd kd70 p1_1.1 p1_1.2 x1_1.1.f0, Rd (Kd.slice (Kd.int .u8)) h0.1 h0.2 a0]) H (fun o20 q20 H => ?_) (fun o20 H hj20 => ?_)
        ·rcases condE H with ⟨hc51, H⟩ | ⟨hc51, H⟩
         ·obtain rfl := Option.some.inj H
          cases hr
         ·refine J.condF (x := .tmp 140) (t := o20) (by kernel_rfl) (by kernel_rfl) hc51 ?_
          refine J.skip (by kernel_rfl) ?_
          refine J.seq (by kernel_rfl) ?_
          obtain ⟨z18_3, hz18_3, H⟩ := bindE H
          have hz18_3a := (remE hz18_3).1
          obtain ⟨y18_5, hy18_5, H⟩ := bindE H
          obtain ⟨hy18_5a, hy18_5b, hy18_5c, -⟩ := cutE hy18_5
          obtain ⟨x18_6, hx18_6, H⟩ := bindE H
          refine J.cutAt (γ := Nat × Hd × Hd × Nat) (fun q_ => [(2, .int .u8 a2), (8, .int .i64 x1_1.2.1), (17, .pointer (some ⟨q_.2.2.2, 0, none⟩)), (18, .int .i64 x18_6.2)]) (fun q_ => St X w [] [⟨q_.2.2.2, [.slice q_.2.2.1.1 x18_6.1.f0.length q_.2.2.1.2], 24⟩, ⟨p1_6, [.slice p1_1.1 x1_1.1.f0.length p1_1.2], 24⟩] [mkRow kd70 70 (.slice q_.2.2.1.1 x18_6.1.f0.length q_.2.2.1.2) x18_6.1.f0] [] [Rd (Kd.int .u8) q_.2.1.1 q_.2.1.2 (cutL ([0, 0, 0, 8, 1, 2, 3, 4, 5, 6, 7, 8, 9, 10, 11] : List Int) ((0 : Int).toNat) (((IntKind.wrap .i64 (a2.tmod 15)) : Int).toNat)), Rd (Kd.int .u8) ((some ⟨q_.1, 0, none⟩, 15) : Hd).1 ((some ⟨q_.1, 0, none⟩, 15) : Hd).2 ([0, 0, 0, 8, 1, 2, 3, 4, 5, 6, 7, 8, 9, 10, 11] : List Int), Rd kd70 p1_1.1 p1_1.2 x1_1.1.f0, Rd (Kd.slice (Kd.int .u8)) h0.1 h0.2 a0]) (fun q_ => ?_) (fun hk_ => ?_)
          ·obtain ⟨p18_1, p18_5, p18_6, p18_10⟩ := q_
           refine J.seq (by kernel_rfl) ?_
           refine J.seq (by kernel_rfl) ?_
           refine J.region (by kernel_rfl) ?_
           refine O.pure 2 [] [2, 8, 17, 152] [] (fr' := [(2, .int .u8 a2), (8, .int .i64 x1_1.2.1), (17, .pointer (some ⟨p18_10, 0, none⟩)), (152, .bool (x18_6.2 != 0))]) (bx' := [⟨p18_10, [.slice p18_6.1 x18_6.1.f0.length p18_6.2], 24⟩, ⟨p1_6, [.slice p1_1.1 x1_1.1.f0.length p1_1.2], 24⟩]) (by kernel_rfl) ?_
           refine O.nil (by kernel_rfl) ?_
           rcases condE H with ⟨hc52, H⟩ | ⟨hc52, H⟩
           ·obtain rfl := Option.some.inj H
            cases hr
           ·refine J.condF (x := .tmp 152) (t := (x18_6.2 != 0)) (by kernel_rfl) (by kernel_rfl) hc52 ?_
            refine J.skip (by kernel_rfl) ?_
            refine J.seq (by kernel_rfl) ?_
            obtain ⟨x21_3, hx21_3, H⟩ := bindE H
            refine J.region (by kernel_rfl) ?_
            refine O.pure 3 [(0, 0)] [2, 8, 17, 154, 156] [p18_10, 0] (fr' := [(2, .int .u8 a2), (8, .int .i64 x1_1.2.1), (17, .pointer (some ⟨p18_10, 0, none⟩)), (154, .agg #[.slice p18_6.1 x18_6.1.f0.length p18_6.2]), (156, .int .i64 (IntKind.wrap .i64 (x1_1.2.1 + 1)))]) (bx' := [⟨p18_10, [.slice p18_6.1 x18_6.1.f0.length p18_6.2], 24⟩, ⟨p1_6, [.slice p1_1.1 x1_1.1.f0.length p1_1.2], 24⟩]) (by kernel_rfl) ?_
            refine O.e (some 157) (Ev.mono (fun w hS => hS.freezeH (h := p18_6) (xs := x18_6.1.f0)) (Ev.mono (fun w hS => hS.add (fun w' _ => Rd.nil (Kd.int .u8) w')) (Ev.call0 (xs := [.tmp 154, .tmp 156, .const (.slice none 0 0)]) [1, 0] (by kernel_rfl) (by kernel_rfl) (fun w hS => ckpt_Save.con K x18_6.1 (IntKind.wrap .i64 (x1_1.2.1 + 1)) ([] : List Int) p18_6 (none, 0)  _ _ w hS hx21_3)))) (by kernel_rfl) (fun p21_3 => ?_)
            refine O.pure 5 [] [2, 8, 17, 20] [] (fr' := [(2, .int .u8 a2), (8, .int .i64 x1_1.2.1), (17, .pointer (some ⟨p18_10, 0, none⟩)), (20, .int .i64 x21_3.2)]) (bx' := [⟨p18_10, [.slice p18_6.1 x18_6.1.f0.length p18_6.2], 24⟩, ⟨p1_6, [.slice p1_1.1 x1_1.1.f0.length p1_1.2], 24⟩]) (by kernel_rfl) ?_
            refine O.nil (by kernel_rfl) ?_
            refine J.seq (by kernel_rfl) ?_
            obtain ⟨x22_1, hx22_1, H⟩ := bindE H
            refine J.region (by kernel_rfl) ?_
            refine O.pure 1 [(0, 0)] [2, 8, 17, 20, 161] [p18_10, 0] (fr' := [(2, .int .u8 a2), (8, .int .i64 x1_1.2.1), (17, .pointer (some ⟨p18_10, 0, none⟩)), (20, .int .i64 x21_3.2), (161, .agg #[.slice p18_6.1 x18_6.1.f0.length p18_6.2])]) (bx' := [⟨p18_10, [.slice p18_6.1 x18_6.1.f0.length p18_6.2], 24⟩, ⟨p1_6, [.slice p1_1.1 x1_1.1.f0.length p1_1.2], 24⟩]) (by kernel_rfl) ?_
            refine O.e (some 162) (Ev.call0 (xs := [.tmp 161]) [1] (by kernel_rfl) (by kernel_rfl) (fun w hS => ckpt_Open.con K x18_6.1 p18_6  _ _ w hS hx22_1)) (by kernel_rfl) (fun p22_1 => ?_)
            refine O.pure 3 [] [2, 8, 17, 20, 163, 164] [] (fr' := [(2, .int .u8 a2), (8, .int .i64 x1_1.2.1), (17, .pointer (some ⟨p18_10, 0, none⟩)), (20, .int .i64 x21_3.2), (163, .agg #[.slice p22_1.1 x22_1.1.f0.length p22_1.2]), (164, .int .i64 x22_1.2)]) (bx' := [⟨p18_10, [.slice p18_6.1 x18_6.1.f0.length p18_6.2], 24⟩, ⟨p1_6, [.slice p1_1.1 x1_1.1.f0.length p1_1.2], 24⟩]) (by kernel_rfl) ?_
            refine O.e (some 21) (Ev.alloc (t := 24) (z := .agg #[.slice none 0 0]) (by kernel_rfl) (by kernel_rfl)) (by kernel_rfl) (fun p22_5 => ?_)
            refine O.pure 2 [(0, 0)] [2, 8, 17, 20, 21, 22] [p22_5, 0] (fr' := [(2, .int .u8 a2), (8, .int .i64 x1_1.2.1), (17, .pointer (some ⟨p18_10, 0, none⟩)), (20, .int .i64 x21_3.2), (21, .pointer (some ⟨p22_5, 0, none⟩)), (22, .int .i64 x22_1.2)]) (bx' := [⟨p22_5, [.slice p22_1.1 x22_1.1.f0.length p22_1.2], 24⟩, ⟨p18_10, [.slice p18_6.1 x18_6.1.f0.length p18_6.2], 24⟩, ⟨p1_6, [.slice p1_1.1 x1_1.1.f0.length p1_1.2], 24⟩]) (by kernel_rfl) ?_
            refine O.nil (by kernel_rfl) ?_
            refine J.seq (by kernel_rfl) ?_
            obtain ⟨x23_3, hx23_3, H⟩ := bindE H
            refine J.region (by kernel_rfl) ?_
            refine O.pure 3 [(0, 0)] [2, 8, 17, 20, 22, 166, 168] [p22_5, 0] (fr' := [(2, .int .u8 a2), (8, .int .i64 x1_1.2.1), (17, .pointer (some ⟨p18_10, 0, none⟩)), (20, .int .i64 x21_3.2), (22, .int .i64 x22_1.2), (166, .agg #[.slice p22_1.1 x22_1.1.f0.length p22_1.2]), (168, .int .i64 (IntKind.wrap .i64 (x1_1.2.1 + 1)))]) (bx' := [⟨p22_5, [.slice p22_1.1 x22_1.1.f0.length p22_1.2], 24⟩, ⟨p18_10, [.slice p18_6.1 x18_6.1.f0.length p18_6.2], 24⟩, ⟨p1_6, [.slice p1_1.1 x1_1.1.f0.length p1_1.2], 24⟩]) (by kernel_rfl) ?_
            refine O.e (some 169) (Ev.call0 (xs := [.tmp 166, .tmp 168, .const (.slice none 0 0)]) [0, 1] (by kernel_rfl) (by kernel_rfl) (fun w hS => ckpt_Save.con K x22_1.1 (IntKind.wrap .i64 (x1_1.2.1 + 1)) ([] : List Int) p22_1 (none, 0)  _ _ w hS hx23_3)) (by kernel_rfl) (fun p23_3 => ?_)
            refine O.pure 5 [] [2, 8, 17, 20, 22, 24] [] (fr' := [(2, .int .u8 a2), (8, .int .i64 x1_1.2.1), (17, .pointer (some ⟨p18_10, 0, none⟩)), (20, .int .i64 x21_3.2), (22, .int .i64 x22_1.2), (24, .int .i64 x23_3.2)]) (bx' := [⟨p22_5, [.slice p22_1.1 x22_1.1.f0.length p22_1.2], 24⟩, ⟨p18_10, [.slice p18_6.1 x18_6.1.f0.length p18_6.2], 24⟩, ⟨p1_6, [.slice p1_1.1 x1_1.1.f0.length p1_1.2], 24⟩]) (by kernel_rfl) ?_
            refine O.nil (by kernel_rfl) ?_
            refine J.seq (by kernel_rfl) ?_
            obtain ⟨x24_1, hx24_1, H⟩ := bindE H
            refine J.region (by kernel_rfl) ?_
            refine O.pure 1 [(1, 0)] [2, 8, 20, 22, 24, 173] [p18_10, 0] (fr' := [(2, .int .u8 a2), (8, .int .i64 x1_1.2.1), (20, .int .i64 x21_3.2), (22, .int .i64 x22_1.2), (24, .int .i64 x23_3.2), (173, .agg #[.slice p18_6.1 x18_6.1.f0.length p18_6.2])]) (bx' := [⟨p22_5, [.slice p22_1.1 x22_1.1.f0.length p22_1.2], 24⟩, ⟨p18_10, [.slice p18_6.1 x18_6.1.f0.length p18_6.2], 24⟩, ⟨p1_6, [.slice p1_1.1 x1_1.1.f0.length p1_1.2], 24⟩]) (by kernel_rfl) ?_
            refine O.e (some 174) (Ev.call0 (xs := [.tmp 173]) [2] (by kernel_rfl) (by kernel_rfl) (fun w hS => ckpt_Last.con K x18_6.1 p18_6  _ _ w hS hx24_1)) (by kernel_rfl) (fun p24_1 => ?_)
            refine O.pure 7 [] [2, 8, 20, 22, 24, 25, 27] [] (fr' := [(2, .int .u8 a2), (8, .int .i64 x1_1.2.1), (20, .int .i64 x21_3.2), (22, .int .i64 x22_1.2), (24, .int .i64 x23_3.2), (25, .int .i64 x24_1.1), (27, .int .i64 x24_1.2.2)]) (bx' := [⟨p22_5, [.slice p22_1.1 x22_1.1.f0.length p22_1.2], 24⟩, ⟨p18_10, [.slice p18_6.1 x18_6.1.f0.length p18_6.2], 24⟩, ⟨p1_6, [.slice p1_1.1 x1_1.1.f0.length p1_1.2], 24⟩]) (by kernel_rfl) ?_
            refine O.nil (by kernel_rfl) ?_
            refine J.seq (by kernel_rfl) ?_
            obtain ⟨z25_3, hz25_3, H⟩ := bindE H
            have hz25_3a := (remE hz25_3).1
            rcases condE H with ⟨hc53, H⟩ | ⟨hc53, H⟩
            ·rcases condE H with ⟨hc54, H⟩ | ⟨hc54, H⟩
             ·rcases condE H with ⟨hc55, H⟩ | ⟨hc55, H⟩
              ·rcases condE H with ⟨hc56, H⟩ | ⟨hc56, H⟩
               ·rcases condE H with ⟨hc57, H⟩ | ⟨hc57, H⟩
                ·obtain ⟨x25_24, hx25_24, H⟩ := bindE H
                 refine J.region (by kernel_rfl) ?_
                 refine O.pure 3 [] [8, 22, 24, 25, 27, 179, 180] [] (fr' := [(8, .int .i64 x1_1.2.1), (22, .int .i64 x22_1.2), (24, .int .i64 x23_3.2), (25, .int .i64 x24_1.1), (27, .int .i64 x24_1.2.2), (179, .bool (x21_3.2 == 6)), (180, .int .u8 a2)]) (bx' := [⟨p22_5, [.slice p22_1.1 x22_1.1.f0.length p22_1.2], 24⟩, ⟨p18_10, [.slice p18_6.1 x18_6.1.f0.length p18_6.2], 24⟩, ⟨p1_6, [.slice p1_1.1 x1_1.1.f0.length p1_1.2], 24⟩]) (by kernel_rfl) ?_
                 refine O.q (v := .int .u8 (a2.tmod 15)) (some 181) (Qu.rem (t := 5) (t' := 5) (x := .tmp 180) (y := .const (.int .u8 15)) (a := a2) (b := 15) (by kernel_rfl) (by kernel_rfl) (by kernel_rfl) hz25_3a) (by kernel_rfl) ?_
                 refine O.pure 1 [] [8, 22, 24, 25, 27, 179, 182] [] (fr' := [(8, .int .i64 x1_1.2.1), (22, .int .i64 x22_1.2), (24, .int .i64 x23_3.2), (25, .int .i64 x24_1.1), (27, .int .i64 x24_1.2.2), (179, .bool (x21_3.2 == 6)), (182, .bool (decide ((a2.tmod 15) > 0)))]) (bx' := [⟨p22_5, [.slice p22_1.1 x22_1.1.f0.length p22_1.2], 24⟩, ⟨p18_10, [.slice p18_6.1 x18_6.1.f0.length p18_6.2], 24⟩, ⟨p1_6, [.slice p1_1.1 x1_1.1.f0.length p1_1.2], 24⟩]) (by kernel_rfl) ?_
                 refine O.q (v := .bool true) (some 183) (Qu.as (congrArg Value.bool hc53) (Qu.binT (op := .eql) (t := 4) (t' := 4) (x := .tmp 179) (y := .tmp 182) (u := .bool (x21_3.2 == 6)) (v := .bool (decide ((a2.tmod 15) > 0))) (by kernel_rfl) (by kernel_rfl) (by kernel_rfl) (by kernel_rfl))) (by kernel_rfl) ?_
                 refine O.pure 2 [] [8, 24, 25, 27, 184, 185] [] (fr' := [(8, .int .i64 x1_1.2.1), (24, .int .i64 x23_3.2), (25, .int .i64 x24_1.1), (27, .int .i64 x24_1.2.2), (184, .bool true), (185, .int .i64 x22_1.2)]) (bx' := [⟨p22_5, [.slice p22_1.1 x22_1.1.f0.length p22_1.2], 24⟩, ⟨p18_10, [.slice p18_6.1 x18_6.1.f0.length p18_6.2], 24⟩, ⟨p1_6, [.slice p1_1.1 x1_1.1.f0.length p1_1.2], 24⟩]) (by kernel_rfl) ?_
                 refine O.q (v := .bool true) (some 186) (Qu.eqv (u := .bool (x22_1.2 == 0)) (v := .bool true) (0, 0) [] (by kernel_rfl) (congrArg Value.bool hc54)) (by kernel_rfl) ?_
                 refine O.pure 3 [] [8, 25, 27, 188, 189] [] (fr' := [(8, .int .i64 x1_1.2.1), (25, .int .i64 x24_1.1), (27, .int .i64 x24_1.2.2), (188, .bool true), (189, .int .i64 x23_3.2)]) (bx' := [⟨p22_5, [.slice p22_1.1 x22_1.1.f0.length p22_1.2], 24⟩, ⟨p18_10, [.slice p18_6.1 x18_6.1.f0.length p18_6.2], 24⟩, ⟨p1_6, [.slice p1_1.1 x1_1.1.f0.length p1_1.2], 24⟩]) (by kernel_rfl) ?_
                 refine O.q (v := .bool true) (some 190) (Qu.eqv (u := .bool (x23_3.2 == 0)) (v := .bool true) (0, 0) [] (by kernel_rfl) (congrArg Value.bool hc55)) (by kernel_rfl) ?_
                 refine O.pure 4 [] [27, 192, 193, 194] [] (fr' := [(27, .int .i64 x24_1.2.2), (192, .bool true), (193, .int .i64 x24_1.1), (194, .int .i64 x1_1.2.1)]) (bx' := [⟨p22_5, [.slice p22_1.1 x22_1.1.f0.length p22_1.2], 24⟩, ⟨p18_10, [.slice p18_6.1 x18_6.1.f0.length p18_6.2], 24⟩, ⟨p1_6, [.slice p1_1.1 x1_1.1.f0.length p1_1.2], 24⟩]) (by kernel_rfl) ?_
                 refine O.q (v := .bool true) (some 195) (Qu.eqv (u := .bool (x24_1.1 == x1_1.2.1)) (v := .bool true) (0, 0) [] (by kernel_rfl) (congrArg Value.bool hc56)) (by kernel_rfl) ?_
                 refine O.pure 3 [] [197, 198] [] (fr' := [(197, .bool true), (198, .int .i64 x24_1.2.2)]) (bx' := [⟨p22_5, [.slice p22_1.1 x22_1.1.f0.length p22_1.2], 24⟩, ⟨p18_10, [.slice p18_6.1 x18_6.1.f0.length p18_6.2], 24⟩, ⟨p1_6, [.slice p1_1.1 x1_1.1.f0.length p1_1.2], 24⟩]) (by kernel_rfl) ?_
                 refine O.q (v := .bool true) (some 199) (Qu.eqv (u := .bool (x24_1.2.2 == 0)) (v := .bool true) (0, 0) [] (by kernel_rfl) (congrArg Value.bool hc57)) (by kernel_rfl) ?_
                 refine O.pure 2 [] [201] [] (fr' := [(201, .bool true)]) (bx' := [⟨p22_5, [.slice p22_1.1 x22_1.1.f0.length p22_1.2], 24⟩, ⟨p18_10, [.slice p18_6.1 x18_6.1.f0.length p18_6.2], 24⟩, ⟨p1_6, [.slice p1_1.1 x1_1.1.f0.length p1_1.2], 24⟩]) (by kernel_rfl) ?_
                 refine O.e (some 202) (Ev.call0 (xs := []) [] (by kernel_rfl) (by kernel_rfl) (fun w hS => haywainlaw14_knows.con K  _ _ w hS hx25_24 ((Option.some.inj H).trans hr))) (by kernel_rfl) (fun _ => ?_)
                 refine O.pure 2 [] [6] [] (fr' := [(6, .bool x25_24)]) (bx' := [⟨p22_5, [.slice p22_1.1 x22_1.1.f0.length p22_1.2], 24⟩, ⟨p18_10, [.slice p18_6.1 x18_6.1.f0.length p18_6.2], 24⟩, ⟨p1_6, [.slice p1_1.1 x1_1.1.f0.length p1_1.2], 24⟩]) (by kernel_rfl) ?_
                 refine O.nil (by kernel_rfl) ?_
                 obtain rfl := Option.some.inj H
                 exact J.doneS [] [] [] [] [] () (vs := [.bool x25_24]) (by kernel_rfl) (by kernel_rfl) (by kernel_rfl) (by kernel_rfl) (by kernel_rfl) (by decide)
                ·obtain rfl := Option.some.inj H
                 cases hr
               ·obtain rfl := Option.some.inj H
                cases hr
              ·obtain rfl := Option.some.inj H
               cases hr
             ·obtain rfl := Option.some.inj H
              cases hr
            ·obtain rfl := Option.some.inj H
             cases hr
          ·refine J.drawS (by kernel_rfl) [(0, some 142, .agg #[.slice p1_1.1 x1_1.1.f0.length p1_1.2]), (2, some 144, .int .u8 a2), (4, some 146, .int .i64 (IntKind.wrap .i64 (a2.tmod 15))), (3, some 145, .int .u8 (a2.tmod 15))] ([0, 2, 4] ++ [3]) (by kernel_rfl) ?_
           refine D.mid (cs := [1, 10]) [0, 2, 4] [3] [(0, 0)] [p1_6, 0] (by kernel_rfl) (by kernel_rfl) (⟨QuAt.mk (v := .int .u8 (a2.tmod 15)) (some 145) (by kernel_rfl) (by kernel_rfl) (Qu.rem (t := 5) (t' := 5) (x := .tmp 144) (y := .const (.int .u8 15)) (a := a2) (b := 15) (by kernel_rfl) (by kernel_rfl) (by kernel_rfl) hz18_3a), trivial⟩) (by kernel_rfl) ⟨?_, ?_, trivial⟩
           ·refine EvStep.mk (some 143) (new := fun p18_1 => []) ([0, 2, 4] ++ [3]) (by kernel_rfl) (Ev.lit (t := 27) (len := 15) (parts := #[(0, .const (.int .u8 0)), (1, .const (.int .u8 0)), (2, .const (.int .u8 0)), (3, .const (.int .u8 8)), (4, .const (.int .u8 1)), (5, .const (.int .u8 2)), (6, .const (.int .u8 3)), (7, .const (.int .u8 4)), (8, .const (.int .u8 5)), (9, .const (.int .u8 6)), (10, .const (.int .u8 7)), (11, .const (.int .u8 8)), (12, .const (.int .u8 9)), (13, .const (.int .u8 10)), (14, .const (.int .u8 11))]) (ps := [(0, .int .u8 0), (1, .int .u8 0), (2, .int .u8 0), (3, .int .u8 8), (4, .int .u8 1), (5, .int .u8 2), (6, .int .u8 3), (7, .int .u8 4), (8, .int .u8 5), (9, .int .u8 6), (10, .int .u8 7), (11, .int .u8 8), (12, .int .u8 9), (13, .int .u8 10), (14, .int .u8 11)]) (cs := [.int .u8 0, .int .u8 0, .int .u8 0, .int .u8 8, .int .u8 1, .int .u8 2, .int .u8 3, .int .u8 4, .int .u8 5, .int .u8 6, .int .u8 7, .int .u8 8, .int .u8 9, .int .u8 10, .int .u8 11]) (e := 5) (Kd.int .u8) ([0, 0, 0, 8, 1, 2, 3, 4, 5, 6, 7, 8, 9, 10, 11] : List Int) (by kernel_rfl) (by kernel_rfl) (by kernel_rfl) (by kernel_rfl) (by kernel_rfl) (by decide) (fun w' hφ => (Els.cons (c := [.int .u8 0]) (rfl) (Els.cons (c := [.int .u8 0]) (rfl) (Els.cons (c := [.int .u8 0]) (rfl) (Els.cons (c := [.int .u8 8]) (rfl) (Els.cons (c := [.int .u8 1]) (rfl) (Els.cons (c := [.int .u8 2]) (rfl) (Els.cons (c := [.int .u8 3]) (rfl) (Els.cons (c := [.int .u8 4]) (rfl) (Els.cons (c := [.int .u8 5]) (rfl) (Els.cons (c := [.int .u8 6]) (rfl) (Els.cons (c := [.int .u8 7]) (rfl) (Els.cons (c := [.int .u8 8]) (rfl) (Els.cons (c := [.int .u8 9]) (rfl) (Els.cons (c := [.int .u8 10]) (rfl) (Els.cons (c := [.int .u8 11]) (rfl) (Els.nil _ _ _)))))))))))))))))) (fun p18_1 => by kernel_rfl) (fun p18_1 => ?_)
            refine D.mid (cs := [5, 10]) [0, 2, 4] [3] [(0, 0)] [p1_6, 0] (by kernel_rfl) (by kernel_rfl) (⟨QuAt.mk (v := .int .u8 (a2.tmod 15)) (some 145) (by kernel_rfl) (by kernel_rfl) (Qu.rem (t := 5) (t' := 5) (x := .tmp 144) (y := .const (.int .u8 15)) (a := a2) (b := 15) (by kernel_rfl) (by kernel_rfl) (by kernel_rfl) hz18_3a), trivial⟩) (by kernel_rfl) ⟨?_, ?_, trivial⟩
            ·refine EvStep.mk (some 147) (new := fun p18_5 => []) ([0, 2] ++ [3]) (by kernel_rfl) (Ev.mono (fun w hS => hS.freezeH (h := ((some ⟨p18_1, 0, none⟩, 15) : Hd)) (xs := ([0, 0, 0, 8, 1, 2, 3, 4, 5, 6, 7, 8, 9, 10, 11] : List Int))) (Ev.cut (d := (Kd.int .u8)) (xs := ([0, 0, 0, 8, 1, 2, 3, 4, 5, 6, 7, 8, 9, 10, 11] : List Int)) (t := 27) (x := .tmp 143) (lo := none) (hi := (some (.tmp 146))) (vlo := none) (vhi := (some (.int .i64 (IntKind.wrap .i64 (a2.tmod 15))))) (A := ((some ⟨p18_1, 0, none⟩, 15) : Hd).1) (c := ((some ⟨p18_1, 0, none⟩, 15) : Hd).2) (l := (0 : Int).toNat) (h := ((IntKind.wrap .i64 (a2.tmod 15)) : Int).toNat) 0 (by kernel_rfl) (by kernel_rfl) (by kernel_rfl) (by kernel_rfl) (by kernel_rfl) (Bd.dflt _) (Bd.val _ _ _ (by omega)) (by omega) (by omega) rfl)) (fun p18_5 => by kernel_rfl) (fun p18_5 => ?_)
             refine D.mid (cs := [6, 10]) [0, 2] [3] [(0, 0)] [p1_6, 0] (by kernel_rfl) (by kernel_rfl) (⟨QuAt.mk (v := .int .u8 (a2.tmod 15)) (some 145) (by kernel_rfl) (by kernel_rfl) (Qu.rem (t := 5) (t' := 5) (x := .tmp 144) (y := .const (.int .u8 15)) (a := a2) (b := 15) (by kernel_rfl) (by kernel_rfl) (by kernel_rfl) hz18_3a), trivial⟩) (by kernel_rfl) ⟨?_, ?_, trivial⟩
             ·refine EvStep.mk (some 148) (new := fun p18_6 => [(7, some 141, .tuple #[.agg #[.slice p18_6.1 x18_6.1.f0.length p18_6.2], .int .i64 x18_6.2]), (8, some 149, .agg #[.slice p18_6.1 x18_6.1.f0.length p18_6.2]), (9, some 150, .int .i64 x18_6.2)]) ([2, 7, 8, 9] ++ [3]) (by kernel_rfl) (Ev.call0 (xs := [.tmp 142, .const (.string (⟨#[109]⟩ : ByteArray)), .tmp 147]) [2, 0] (by kernel_rfl) (by kernel_rfl) (fun w hS => disk_Put.con K x1_1.1 (⟨#[109]⟩ : ByteArray) (cutL ([0, 0, 0, 8, 1, 2, 3, 4, 5, 6, 7, 8, 9, 10, 11] : List Int) ((0 : Int).toNat) (((IntKind.wrap .i64 (a2.tmod 15)) : Int).toNat)) p1_1 p18_5  _ _ w hS hx18_6)) (fun p18_6 => by kernel_rfl) (fun p18_6 => ?_)
              refine D.mid (cs := [10]) [2, 7, 8, 9] [3] [] [] (by kernel_rfl) (by kernel_rfl) (⟨QuAt.mk (v := .int .u8 (a2.tmod 15)) (some 145) (by kernel_rfl) (by kernel_rfl) (Qu.rem (t := 5) (t' := 5) (x := .tmp 144) (y := .const (.int .u8 15)) (a := a2) (b := 15) (by kernel_rfl) (by kernel_rfl) (by kernel_rfl) hz18_3a), trivial⟩) (by kernel_rfl) ⟨?_, trivial⟩
              refine EvStep.mk (some 17) (new := fun p18_10 => []) ([2, 7, 8, 9] ++ [3]) (by kernel_rfl) (Ev.alloc (t := 24) (z := .agg #[.slice none 0 0]) (by kernel_rfl) (by kernel_rfl)) (fun p18_10 => by kernel_rfl) (fun p18_10 => ?_)
              refine D.mid (cs := [11]) [2, 7, 8, 9] [3] [] [] (by kernel_rfl) (by kernel_rfl) (⟨QuAt.mk (v := .int .u8 (a2.tmod 15)) (some 145) (by kernel_rfl) (by kernel_rfl) (Qu.rem (t := 5) (t' := 5) (x := .tmp 144) (y := .const (.int .u8 15)) (a := a2) (b := 15) (by kernel_rfl) (by kernel_rfl) (by kernel_rfl) hz18_3a), trivial⟩) (by kernel_rfl) ⟨?_, trivial⟩
              refine EvStep.mk none (new := fun _ => [(12, some 18, .int .i64 x18_6.2)]) ([9, 12] ++ []) (by kernel_rfl) (Ev.store (kk := 0) (cs := [.slice p18_6.1 x18_6.1.f0.length p18_6.2]) (0, 0) [p18_10, 0] (by kernel_rfl)) (fun _ => by kernel_rfl) (fun _ => ?_)
              refine D.fin (fr' := [(2, .int .u8 a2), (8, .int .i64 x1_1.2.1), (17, .pointer (some ⟨p18_10, 0, none⟩)), (18, .int .i64 x18_6.2)]) [9, 12] [] [] [] [2, 8, 17, 18] (by kernel_rfl) (by kernel_rfl) trivial (by kernel_rfl) ?_
              exact J.conv2 [2, 8, 17, 18] [0, 1, 2, 3] [0, 1] [0] (by kernel_rfl) (by kernel_rfl) (by kernel_rfl) (by kernel_rfl) (by decide) (hk_ (p18_1, p18_5, p18_6, p18_10))
             ·refine EvStep.mk (some 17) (new := fun p18_10 => []) ([0, 2] ++ [3]) (by kernel_rfl) (Ev.alloc (t := 24) (z := .agg #[.slice none 0 0]) (by kernel_rfl) (by kernel_rfl)) (fun p18_10 => by kernel_rfl) (fun p18_10 => ?_)
              refine D.mid (cs := [6]) [0, 2] [3] [(1, 0)] [p1_6, 0] (by kernel_rfl) (by kernel_rfl) (⟨QuAt.mk (v := .int .u8 (a2.tmod 15)) (some 145) (by kernel_rfl) (by kernel_rfl) (Qu.rem (t := 5) (t' := 5) (x := .tmp 144) (y := .const (.int .u8 15)) (a := a2) (b := 15) (by kernel_rfl) (by kernel_rfl) (by kernel_rfl) hz18_3a), trivial⟩) (by kernel_rfl) ⟨?_, trivial⟩
              refine EvStep.mk (some 148) (new := fun p18_6 => [(7, some 141, .tuple #[.agg #[.slice p18_6.1 x18_6.1.f0.length p18_6.2], .int .i64 x18_6.2]), (8, some 149, .agg #[.slice p18_6.1 x18_6.1.f0.length p18_6.2]), (9, some 150, .int .i64 x18_6.2)]) ([2, 7, 8, 9] ++ [3]) (by kernel_rfl) (Ev.call0 (xs := [.tmp 142, .const (.string (⟨#[109]⟩ : ByteArray)), .tmp 147]) [2, 0] (by kernel_rfl) (by kernel_rfl) (fun w hS => disk_Put.con K x1_1.1 (⟨#[109]⟩ : ByteArray) (cutL ([0, 0, 0, 8, 1, 2, 3, 4, 5, 6, 7, 8, 9, 10, 11] : List Int) ((0 : Int).toNat) (((IntKind.wrap .i64 (a2.tmod 15)) : Int).toNat)) p1_1 p18_5  _ _ w hS hx18_6)) (fun p18_6 => by kernel_rfl) (fun p18_6 => ?_)
              refine D.mid (cs := [11]) [2, 7, 8, 9] [3] [] [] (by kernel_rfl) (by kernel_rfl) (⟨QuAt.mk (v := .int .u8 (a2.tmod 15)) (some 145) (by kernel_rfl) (by kernel_rfl) (Qu.rem (t := 5) (t' := 5) (x := .tmp 144) (y := .const (.int .u8 15)) (a := a2) (b := 15) (by kernel_rfl) (by kernel_rfl) (by kernel_rfl) hz18_3a), trivial⟩) (by kernel_rfl) ⟨?_, trivial⟩
              refine EvStep.mk none (new := fun _ => [(12, some 18, .int .i64 x18_6.2)]) ([9, 12] ++ []) (by kernel_rfl) (Ev.store (kk := 0) (cs := [.slice p18_6.1 x18_6.1.f0.length p18_6.2]) (0, 0) [p18_10, 0] (by kernel_rfl)) (fun _ => by kernel_rfl) (fun _ => ?_)
              refine D.fin (fr' := [(2, .int .u8 a2), (8, .int .i64 x1_1.2.1), (17, .pointer (some ⟨p18_10, 0, none⟩)), (18, .int .i64 x18_6.2)]) [9, 12] [] [] [] [2, 8, 17, 18] (by kernel_rfl) (by kernel_rfl) trivial (by kernel_rfl) ?_
              exact J.conv2 [2, 8, 17, 18] [0, 1, 2, 3] [0, 1] [0] (by kernel_rfl) (by kernel_rfl) (by kernel_rfl) (by kernel_rfl) (by decide) (hk_ (p18_1, p18_5, p18_6, p18_10))
            ·refine EvStep.mk (some 17) (new := fun p18_10 => []) ([0, 2, 4] ++ [3]) (by kernel_rfl) (Ev.alloc (t := 24) (z := .agg #[.slice none 0 0]) (by kernel_rfl) (by kernel_rfl)) (fun p18_10 => by kernel_rfl) (fun p18_10 => ?_)
             refine D.mid (cs := [5]) [0, 2, 4] [3] [(1, 0)] [p1_6, 0] (by kernel_rfl) (by kernel_rfl) (⟨QuAt.mk (v := .int .u8 (a2.tmod 15)) (some 145) (by kernel_rfl) (by kernel_rfl) (Qu.rem (t := 5) (t' := 5) (x := .tmp 144) (y := .const (.int .u8 15)) (a := a2) (b := 15) (by kernel_rfl) (by kernel_rfl) (by kernel_rfl) hz18_3a), trivial⟩) (by kernel_rfl) ⟨?_, trivial⟩
             refine EvStep.mk (some 147) (new := fun p18_5 => []) ([0, 2] ++ [3]) (by kernel_rfl) (Ev.mono (fun w hS => hS.freezeH (h := ((some ⟨p18_1, 0, none⟩, 15) : Hd)) (xs := ([0, 0, 0, 8, 1, 2, 3, 4, 5, 6, 7, 8, 9, 10, 11] : List Int))) (Ev.cut (d := (Kd.int .u8)) (xs := ([0, 0, 0, 8, 1, 2, 3, 4, 5, 6, 7, 8, 9, 10, 11] : List Int)) (t := 27) (x := .tmp 143) (lo := none) (hi := (some (.tmp 146))) (vlo := none) (vhi := (some (.int .i64 (IntKind.wrap .i64 (a2.tmod 15))))) (A := ((some ⟨p18_1, 0, none⟩, 15) : Hd).1) (c := ((some ⟨p18_1, 0, none⟩, 15) : Hd).2) (l := (0 : Int).toNat) (h := ((IntKind.wrap .i64 (a2.tmod 15)) : Int).toNat) 0 (by kernel_rfl) (by kernel_rfl) (by kernel_rfl) (by kernel_rfl) (by kernel_rfl) (Bd.dflt _) (Bd.val _ _ _ (by omega)) (by omega) (by omega) rfl)) (fun p18_5 => by kernel_rfl) (fun p18_5 => ?_)
             refine D.mid (cs := [6]) [0, 2] [3] [(1, 0)] [p1_6, 0] (by kernel_rfl) (by kernel_rfl) (⟨QuAt.mk (v := .int .u8 (a2.tmod 15)) (some 145) (by kernel_rfl) (by kernel_rfl) (Qu.rem (t := 5) (t' := 5) (x := .tmp 144) (y := .const (.int .u8 15)) (a := a2) (b := 15) (by kernel_rfl) (by kernel_rfl) (by kernel_rfl) hz18_3a), trivial⟩) (by kernel_rfl) ⟨?_, trivial⟩
             refine EvStep.mk (some 148) (new := fun p18_6 => [(7, some 141, .tuple #[.agg #[.slice p18_6.1 x18_6.1.f0.length p18_6.2], .int .i64 x18_6.2]), (8, some 149, .agg #[.slice p18_6.1 x18_6.1.f0.length p18_6.2]), (9, some 150, .int .i64 x18_6.2)]) ([2, 7, 8, 9] ++ [3]) (by kernel_rfl) (Ev.call0 (xs := [.tmp 142, .const (.string (⟨#[109]⟩ : ByteArray)), .tmp 147]) [2, 0] (by kernel_rfl) (by kernel_rfl) (fun w hS => disk_Put.con K x1_1.1 (⟨#[109]⟩ : ByteArray) (cutL ([0, 0, 0, 8, 1, 2, 3, 4, 5, 6, 7, 8, 9, 10, 11] : List Int) ((0 : Int).toNat) (((IntKind.wrap .i64 (a2.tmod 15)) : Int).toNat)) p1_1 p18_5  _ _ w hS hx18_6)) (fun p18_6 => by kernel_rfl) (fun p18_6 => ?_)
             refine D.mid (cs := [11]) [2, 7, 8, 9] [3] [] [] (by kernel_rfl) (by kernel_rfl) (⟨QuAt.mk (v := .int .u8 (a2.tmod 15)) (some 145) (by kernel_rfl) (by kernel_rfl) (Qu.rem (t := 5) (t' := 5) (x := .tmp 144) (y := .const (.int .u8 15)) (a := a2) (b := 15) (by kernel_rfl) (by kernel_rfl) (by kernel_rfl) hz18_3a), trivial⟩) (by kernel_rfl) ⟨?_, trivial⟩
             refine EvStep.mk none (new := fun _ => [(12, some 18, .int .i64 x18_6.2)]) ([9, 12] ++ []) (by kernel_rfl) (Ev.store (kk := 0) (cs := [.slice p18_6.1 x18_6.1.f0.length p18_6.2]) (0, 0) [p18_10, 0] (by kernel_rfl)) (fun _ => by kernel_rfl) (fun _ => ?_)
             refine D.fin (fr' := [(2, .int .u8 a2), (8, .int .i64 x1_1.2.1), (17, .pointer (some ⟨p18_10, 0, none⟩)), (18, .int .i64 x18_6.2)]) [9, 12] [] [] [] [2, 8, 17, 18] (by kernel_rfl) (by kernel_rfl) trivial (by kernel_rfl) ?_
             exact J.conv2 [2, 8, 17, 18] [0, 1, 2, 3] [0, 1] [0] (by kernel_rfl) (by kernel_rfl) (by kernel_rfl) (by kernel_rfl) (by decide) (hk_ (p18_1, p18_5, p18_6, p18_10))
           ·refine EvStep.mk (some 17) (new := fun p18_10 => []) ([0, 2, 4] ++ [3]) (by kernel_rfl) (Ev.alloc (t := 24) (z := .agg #[.slice none 0 0]) (by kernel_rfl) (by kernel_rfl)) (fun p18_10 => by kernel_rfl) (fun p18_10 => ?_)
            refine D.mid (cs := [1]) [0, 2, 4] [3] [(1, 0)] [p1_6, 0] (by kernel_rfl) (by kernel_rfl) (⟨QuAt.mk (v := .int .u8 (a2.tmod 15)) (some 145) (by kernel_rfl) (by kernel_rfl) (Qu.rem (t := 5) (t' := 5) (x := .tmp 144) (y := .const (.int .u8 15)) (a := a2) (b := 15) (by kernel_rfl) (by kernel_rfl) (by kernel_rfl) hz18_3a), trivial⟩) (by kernel_rfl) ⟨?_, trivial⟩
            refine EvStep.mk (some 143) (new := fun p18_1 => []) ([0, 2, 4] ++ [3]) (by kernel_rfl) (Ev.lit (t := 27) (len := 15) (parts := #[(0, .const (.int .u8 0)), (1, .const (.int .u8 0)), (2, .const (.int .u8 0)), (3, .const (.int .u8 8)), (4, .const (.int .u8 1)), (5, .const (.int .u8 2)), (6, .const (.int .u8 3)), (7, .const (.int .u8 4)), (8, .const (.int .u8 5)), (9, .const (.int .u8 6)), (10, .const (.int .u8 7)), (11, .const (.int .u8 8)), (12, .const (.int .u8 9)), (13, .const (.int .u8 10)), (14, .const (.int .u8 11))]) (ps := [(0, .int .u8 0), (1, .int .u8 0), (2, .int .u8 0), (3, .int .u8 8), (4, .int .u8 1), (5, .int .u8 2), (6, .int .u8 3), (7, .int .u8 4), (8, .int .u8 5), (9, .int .u8 6), (10, .int .u8 7), (11, .int .u8 8), (12, .int .u8 9), (13, .int .u8 10), (14, .int .u8 11)]) (cs := [.int .u8 0, .int .u8 0, .int .u8 0, .int .u8 8, .int .u8 1, .int .u8 2, .int .u8 3, .int .u8 4, .int .u8 5, .int .u8 6, .int .u8 7, .int .u8 8, .int .u8 9, .int .u8 10, .int .u8 11]) (e := 5) (Kd.int .u8) ([0, 0, 0, 8, 1, 2, 3, 4, 5, 6, 7, 8, 9, 10, 11] : List Int) (by kernel_rfl) (by kernel_rfl) (by kernel_rfl) (by kernel_rfl) (by kernel_rfl) (by decide) (fun w' hφ => (Els.cons (c := [.int .u8 0]) (rfl) (Els.cons (c := [.int .u8 0]) (rfl) (Els.cons (c := [.int .u8 0]) (rfl) (Els.cons (c := [.int .u8 8]) (rfl) (Els.cons (c := [.int .u8 1]) (rfl) (Els.cons (c := [.int .u8 2]) (rfl) (Els.cons (c := [.int .u8 3]) (rfl) (Els.cons (c := [.int .u8 4]) (rfl) (Els.cons (c := [.int .u8 5]) (rfl) (Els.cons (c := [.int .u8 6]) (rfl) (Els.cons (c := [.int .u8 7]) (rfl) (Els.cons (c := [.int .u8 8]) (rfl) (Els.cons (c := [.int .u8 9]) (rfl) (Els.cons (c := [.int .u8 10]) (rfl) (Els.cons (c := [.int .u8 11]) (rfl) (Els.nil _ _ _)))))))))))))))))) (fun p18_1 => by kernel_rfl) (fun p18_1 => ?_)
            refine D.mid (cs := [5]) [0, 2, 4] [3] [(1, 0)] [p1_6, 0] (by kernel_rfl) (by kernel_rfl) (⟨QuAt.mk (v := .int .u8 (a2.tmod 15)) (some 145) (by kernel_rfl) (by kernel_rfl) (Qu.rem (t := 5) (t' := 5) (x := .tmp 144) (y := .const (.int .u8 15)) (a := a2) (b := 15) (by kernel_rfl) (by kernel_rfl) (by kernel_rfl) hz18_3a), trivial⟩) (by kernel_rfl) ⟨?_, trivial⟩
            refine EvStep.mk (some 147) (new := fun p18_5 => []) ([0, 2] ++ [3]) (by kernel_rfl) (Ev.mono (fun w hS => hS.freezeH (h := ((some ⟨p18_1, 0, none⟩, 15) : Hd)) (xs := ([0, 0, 0, 8, 1, 2, 3, 4, 5, 6, 7, 8, 9, 10, 11] : List Int))) (Ev.cut (d := (Kd.int .u8)) (xs := ([0, 0, 0, 8, 1, 2, 3, 4, 5, 6, 7, 8, 9, 10, 11] : List Int)) (t := 27) (x := .tmp 143) (lo := none) (hi := (some (.tmp 146))) (vlo := none) (vhi := (some (.int .i64 (IntKind.wrap .i64 (a2.tmod 15))))) (A := ((some ⟨p18_1, 0, none⟩, 15) : Hd).1) (c := ((some ⟨p18_1, 0, none⟩, 15) : Hd).2) (l := (0 : Int).toNat) (h := ((IntKind.wrap .i64 (a2.tmod 15)) : Int).toNat) 0 (by kernel_rfl) (by kernel_rfl) (by kernel_rfl) (by kernel_rfl) (by kernel_rfl) (Bd.dflt _) (Bd.val _ _ _ (by omega)) (by omega) (by omega) rfl)) (fun p18_5 => by kernel_rfl) (fun p18_5 => ?_)
            refine D.mid (cs := [6]) [0, 2] [3] [(1, 0)] [p1_6, 0] (by kernel_rfl) (by kernel_rfl) (⟨QuAt.mk (v := .int .u8 (a2.tmod 15)) (some 145) (by kernel_rfl) (by kernel_rfl) (Qu.rem (t := 5) (t' := 5) (x := .tmp 144) (y := .const (.int .u8 15)) (a := a2) (b := 15) (by kernel_rfl) (by kernel_rfl) (by kernel_rfl) hz18_3a), trivial⟩) (by kernel_rfl) ⟨?_, trivial⟩
            refine EvStep.mk (some 148) (new := fun p18_6 => [(7, some 141, .tuple #[.agg #[.slice p18_6.1 x18_6.1.f0.length p18_6.2], .int .i64 x18_6.2]), (8, some 149, .agg #[.slice p18_6.1 x18_6.1.f0.length p18_6.2]), (9, some 150, .int .i64 x18_6.2)]) ([2, 7, 8, 9] ++ [3]) (by kernel_rfl) (Ev.call0 (xs := [.tmp 142, .const (.string (⟨#[109]⟩ : ByteArray)), .tmp 147]) [2, 0] (by kernel_rfl) (by kernel_rfl) (fun w hS => disk_Put.con K x1_1.1 (⟨#[109]⟩ : ByteArray) (cutL ([0, 0, 0, 8, 1, 2, 3, 4, 5, 6, 7, 8, 9, 10, 11] : List Int) ((0 : Int).toNat) (((IntKind.wrap .i64 (a2.tmod 15)) : Int).toNat)) p1_1 p18_5  _ _ w hS hx18_6)) (fun p18_6 => by kernel_rfl) (fun p18_6 => ?_)
            refine D.mid (cs := [11]) [2, 7, 8, 9] [3] [] [] (by kernel_rfl) (by kernel_rfl) (⟨QuAt.mk (v := .int .u8 (a2.tmod 15)) (some 145) (by kernel_rfl) (by kernel_rfl) (Qu.rem (t := 5) (t' := 5) (x := .tmp 144) (y := .const (.int .u8 15)) (a := a2) (b := 15) (by kernel_rfl) (by kernel_rfl) (by kernel_rfl) hz18_3a), trivial⟩) (by kernel_rfl) ⟨?_, trivial⟩
            refine EvStep.mk none (new := fun _ => [(12, some 18, .int .i64 x18_6.2)]) ([9, 12] ++ []) (by kernel_rfl) (Ev.store (kk := 0) (cs := [.slice p18_6.1 x18_6.1.f0.length p18_6.2]) (0, 0) [p18_10, 0] (by kernel_rfl)) (fun _ => by kernel_rfl) (fun _ => ?_)
            refine D.fin (fr' := [(2, .int .u8 a2), (8, .int .i64 x1_1.2.1), (17, .pointer (some ⟨p18_10, 0, none⟩)), (18, .int .i64 x18_6.2)]) [9, 12] [] [] [] [2, 8, 17, 18] (by kernel_rfl) (by kernel_rfl) trivial (by kernel_rfl) ?_
            exact J.conv2 [2, 8, 17, 18] [0, 1, 2, 3] [0, 1] [0] (by kernel_rfl) (by kernel_rfl) (by kernel_rfl) (by kernel_rfl) (by decide) (hk_ (p18_1, p18_5, p18_6, p18_10))
        ·rcases condE H with ⟨hc58, H⟩ | ⟨hc58, H⟩
         ·rcases condE H with ⟨hc59, H⟩ | ⟨hc59, H⟩
          ·rcases condE H with ⟨hc60, H⟩ | ⟨hc60, H⟩
           ·refine J.region (by kernel_rfl) ?_
            refine O.pure 1 [] [1, 2, 7, 8, 16, 105] [] (fr' := [(1, .int .i64 a1), (2, .int .u8 a2), (7, .pointer (some ⟨p1_6, 0, none⟩)), (8, .int .i64 x1_1.2.1), (16, .int .i64 x15_2.2), (105, .int .i64 a1)]) (bx' := [⟨p1_6, [.slice p1_1.1 x1_1.1.f0.length p1_1.2], 24⟩]) (by kernel_rfl) ?_
            refine O.q (v := .bool true) (some 106) (Qu.eqv (u := .bool (decide (a1 ≥ 1))) (v := .bool true) (0, 0) [] (by kernel_rfl) (congrArg Value.bool hc58)) (by kernel_rfl) ?_
            refine O.pure 3 [] [1, 2, 7, 8, 16, 107, 108, 109] [] (fr' := [(1, .int .i64 a1), (2, .int .u8 a2), (7, .pointer (some ⟨p1_6, 0, none⟩)), (8, .int .i64 x1_1.2.1), (16, .int .i64 x15_2.2), (107, .bool true), (108, .int .i64 a1), (109, .int .i64 x1_1.2.1)]) (bx' := [⟨p1_6, [.slice p1_1.1 x1_1.1.f0.length p1_1.2], 24⟩]) (by kernel_rfl) ?_
            refine O.q (v := .bool true) (some 110) (Qu.eqv (u := .bool (decide (a1 ≤ x1_1.2.1))) (v := .bool true) (0, 0) [] (by kernel_rfl) (congrArg Value.bool hc59)) (by kernel_rfl) ?_
            refine O.pure 3 [] [1, 2, 7, 8, 16, 112, 113] [] (fr' := [(1, .int .i64 a1), (2, .int .u8 a2), (7, .pointer (some ⟨p1_6, 0, none⟩)), (8, .int .i64 x1_1.2.1), (16, .int .i64 x15_2.2), (112, .bool true), (113, .int .i64 x15_2.2)]) (bx' := [⟨p1_6, [.slice p1_1.1 x1_1.1.f0.length p1_1.2], 24⟩]) (by kernel_rfl) ?_
            refine O.q (v := .bool true) (some 114) (Qu.eqv (u := .bool (x15_2.2 != 6)) (v := .bool true) (0, 0) [] (by kernel_rfl) (congrArg Value.bool hc60)) (by kernel_rfl) ?_
            refine O.pure 26 [] [2, 7, 8, 140] [] (fr' := [(2, .int .u8 a2), (7, .pointer (some ⟨p1_6, 0, none⟩)), (8, .int .i64 x1_1.2.1), (140, .bool true)]) (bx' := [⟨p1_6, [.slice p1_1.1 x1_1.1.f0.length p1_1.2], 24⟩]) (by kernel_rfl) ?_
            refine O.nil (by kernel_rfl) ?_
            obtain rfl := Option.some.inj H
            exact J.conv2 [2, 7, 8, 140] [3, 4] [0] [] (by kernel_rfl) (by kernel_rfl) (by kernel_rfl) (by kernel_rfl) (by decide) (hj20 ())
           ·rcases condE H with ⟨hc61, H⟩ | ⟨hc61, H⟩
            ·rcases condE H with ⟨hc62, H⟩ | ⟨hc62, H⟩
             ·rcases condE H with ⟨hc63, H⟩ | ⟨hc63, H⟩
              ·refine J.region (by kernel_rfl) ?_
               refine O.pure 1 [] [1, 2, 7, 8, 16, 105] [] (fr' := [(1, .int .i64 a1), (2, .int .u8 a2), (7, .pointer (some ⟨p1_6, 0, none⟩)), (8, .int .i64 x1_1.2.1), (16, .int .i64 x15_2.2), (105, .int .i64 a1)]) (bx' := [⟨p1_6, [.slice p1_1.1 x1_1.1.f0.length p1_1.2], 24⟩]) (by kernel_rfl) ?_
               refine O.q (v := .bool true) (some 106) (Qu.eqv (u := .bool (decide (a1 ≥ 1))) (v := .bool true) (0, 0) [] (by kernel_rfl) (congrArg Value.bool hc58)) (by kernel_rfl) ?_
               refine O.pure 3 [] [1, 2, 7, 8, 16, 107, 108, 109] [] (fr' := [(1, .int .i64 a1), (2, .int .u8 a2), (7, .pointer (some ⟨p1_6, 0, none⟩)), (8, .int .i64 x1_1.2.1), (16, .int .i64 x15_2.2), (107, .bool true), (108, .int .i64 a1), (109, .int .i64 x1_1.2.1)]) (bx' := [⟨p1_6, [.slice p1_1.1 x1_1.1.f0.length p1_1.2], 24⟩]) (by kernel_rfl) ?_
               refine O.q (v := .bool true) (some 110) (Qu.eqv (u := .bool (decide (a1 ≤ x1_1.2.1))) (v := .bool true) (0, 0) [] (by kernel_rfl) (congrArg Value.bool hc59)) (by kernel_rfl) ?_
               refine O.pure 3 [] [1, 2, 7, 8, 16, 112, 113] [] (fr' := [(1, .int .i64 a1), (2, .int .u8 a2), (7, .pointer (some ⟨p1_6, 0, none⟩)), (8, .int .i64 x1_1.2.1), (16, .int .i64 x15_2.2), (112, .bool true), (113, .int .i64 x15_2.2)]) (bx' := [⟨p1_6, [.slice p1_1.1 x1_1.1.f0.length p1_1.2], 24⟩]) (by kernel_rfl) ?_
               refine O.q (v := .bool false) (some 114) (Qu.eqv (u := .bool (x15_2.2 != 6)) (v := .bool false) (0, 0) [] (by kernel_rfl) (congrArg Value.bool hc60)) (by kernel_rfl) ?_
               refine O.pure 4 [] [1, 2, 7, 8, 16, 116, 117, 118] [] (fr' := [(1, .int .i64 a1), (2, .int .u8 a2), (7, .pointer (some ⟨p1_6, 0, none⟩)), (8, .int .i64 x1_1.2.1), (16, .int .i64 x15_2.2), (116, .bool false), (117, .int .i64 a1), (118, .int .i64 x1_1.2.1)]) (bx' := [⟨p1_6, [.slice p1_1.1 x1_1.1.f0.length p1_1.2], 24⟩]) (by kernel_rfl) ?_
               refine O.q (v := .bool true) (some 119) (Qu.eqv (u := .bool (decide (a1 > x1_1.2.1))) (v := .bool true) (0, 0) [] (by kernel_rfl) (congrArg Value.bool hc61)) (by kernel_rfl) ?_
               refine O.pure 2 [] [1, 2, 7, 8, 16, 116, 120, 121] [] (fr' := [(1, .int .i64 a1), (2, .int .u8 a2), (7, .pointer (some ⟨p1_6, 0, none⟩)), (8, .int .i64 x1_1.2.1), (16, .int .i64 x15_2.2), (116, .bool false), (120, .bool true), (121, .int .i64 a1)]) (bx' := [⟨p1_6, [.slice p1_1.1 x1_1.1.f0.length p1_1.2], 24⟩]) (by kernel_rfl) ?_
               refine O.q (v := .bool true) (some 122) (Qu.eqv (u := .bool (decide (a1 ≤ 1099511627776))) (v := .bool true) (0, 0) [] (by kernel_rfl) (congrArg Value.bool hc62)) (by kernel_rfl) ?_
               refine O.pure 3 [] [1, 2, 7, 8, 16, 116, 124, 125] [] (fr' := [(1, .int .i64 a1), (2, .int .u8 a2), (7, .pointer (some ⟨p1_6, 0, none⟩)), (8, .int .i64 x1_1.2.1), (16, .int .i64 x15_2.2), (116, .bool false), (124, .bool true), (125, .int .i64 x15_2.2)]) (bx' := [⟨p1_6, [.slice p1_1.1 x1_1.1.f0.length p1_1.2], 24⟩]) (by kernel_rfl) ?_
               refine O.q (v := .bool true) (some 126) (Qu.eqv (u := .bool (x15_2.2 != 0)) (v := .bool true) (0, 0) [] (by kernel_rfl) (congrArg Value.bool hc63)) (by kernel_rfl) ?_
               refine O.pure 14 [] [2, 7, 8, 140] [] (fr' := [(2, .int .u8 a2), (7, .pointer (some ⟨p1_6, 0, none⟩)), (8, .int .i64 x1_1.2.1), (140, .bool true)]) (bx' := [⟨p1_6, [.slice p1_1.1 x1_1.1.f0.length p1_1.2], 24⟩]) (by kernel_rfl) ?_
               refine O.nil (by kernel_rfl) ?_
               obtain rfl := Option.some.inj H
               exact J.conv2 [2, 7, 8, 140] [3, 4] [0] [] (by kernel_rfl) (by kernel_rfl) (by kernel_rfl) (by kernel_rfl) (by decide) (hj20 ())
              ·rcases condE H with ⟨hc64, H⟩ | ⟨hc64, H⟩
               ·refine J.region (by kernel_rfl) ?_
                refine O.pure 1 [] [1, 2, 7, 8, 16, 105] [] (fr' := [(1, .int .i64 a1), (2, .int .u8 a2), (7, .pointer (some ⟨p1_6, 0, none⟩)), (8, .int .i64 x1_1.2.1), (16, .int .i64 x15_2.2), (105, .int .i64 a1)]) (bx' := [⟨p1_6, [.slice p1_1.1 x1_1.1.f0.length p1_1.2], 24⟩]) (by kernel_rfl) ?_
                refine O.q (v := .bool true) (some 106) (Qu.eqv (u := .bool (decide (a1 ≥ 1))) (v := .bool true) (0, 0) [] (by kernel_rfl) (congrArg Value.bool hc58)) (by kernel_rfl) ?_
                refine O.pure 3 [] [1, 2, 7, 8, 16, 107, 108, 109] [] (fr' := [(1, .int .i64 a1), (2, .int .u8 a2), (7, .pointer (some ⟨p1_6, 0, none⟩)), (8, .int .i64 x1_1.2.1), (16, .int .i64 x15_2.2), (107, .bool true), (108, .int .i64 a1), (109, .int .i64 x1_1.2.1)]) (bx' := [⟨p1_6, [.slice p1_1.1 x1_1.1.f0.length p1_1.2], 24⟩]) (by kernel_rfl) ?_
                refine O.q (v := .bool true) (some 110) (Qu.eqv (u := .bool (decide (a1 ≤ x1_1.2.1))) (v := .bool true) (0, 0) [] (by kernel_rfl) (congrArg Value.bool hc59)) (by kernel_rfl) ?_
                refine O.pure 3 [] [1, 2, 7, 8, 16, 112, 113] [] (fr' := [(1, .int .i64 a1), (2, .int .u8 a2), (7, .pointer (some ⟨p1_6, 0, none⟩)), (8, .int .i64 x1_1.2.1), (16, .int .i64 x15_2.2), (112, .bool true), (113, .int .i64 x15_2.2)]) (bx' := [⟨p1_6, [.slice p1_1.1 x1_1.1.f0.length p1_1.2], 24⟩]) (by kernel_rfl) ?_
                refine O.q (v := .bool false) (some 114) (Qu.eqv (u := .bool (x15_2.2 != 6)) (v := .bool false) (0, 0) [] (by kernel_rfl) (congrArg Value.bool hc60)) (by kernel_rfl) ?_
                refine O.pure 4 [] [1, 2, 7, 8, 16, 116, 117, 118] [] (fr' := [(1, .int .i64 a1), (2, .int .u8 a2), (7, .pointer (some ⟨p1_6, 0, none⟩)), (8, .int .i64 x1_1.2.1), (16, .int .i64 x15_2.2), (116, .bool false), (117, .int .i64 a1), (118, .int .i64 x1_1.2.1)]) (bx' := [⟨p1_6, [.slice p1_1.1 x1_1.1.f0.length p1_1.2], 24⟩]) (by kernel_rfl) ?_
                refine O.q (v := .bool true) (some 119) (Qu.eqv (u := .bool (decide (a1 > x1_1.2.1))) (v := .bool true) (0, 0) [] (by kernel_rfl) (congrArg Value.bool hc61)) (by kernel_rfl) ?_
                refine O.pure 2 [] [1, 2, 7, 8, 16, 116, 120, 121] [] (fr' := [(1, .int .i64 a1), (2, .int .u8 a2), (7, .pointer (some ⟨p1_6, 0, none⟩)), (8, .int .i64 x1_1.2.1), (16, .int .i64 x15_2.2), (116, .bool false), (120, .bool true), (121, .int .i64 a1)]) (bx' := [⟨p1_6, [.slice p1_1.1 x1_1.1.f0.length p1_1.2], 24⟩]) (by kernel_rfl) ?_
                refine O.q (v := .bool true) (some 122) (Qu.eqv (u := .bool (decide (a1 ≤ 1099511627776))) (v := .bool true) (0, 0) [] (by kernel_rfl) (congrArg Value.bool hc62)) (by kernel_rfl) ?_
                refine O.pure 3 [] [1, 2, 7, 8, 16, 116, 124, 125] [] (fr' := [(1, .int .i64 a1), (2, .int .u8 a2), (7, .pointer (some ⟨p1_6, 0, none⟩)), (8, .int .i64 x1_1.2.1), (16, .int .i64 x15_2.2), (116, .bool false), (124, .bool true), (125, .int .i64 x15_2.2)]) (bx' := [⟨p1_6, [.slice p1_1.1 x1_1.1.f0.length p1_1.2], 24⟩]) (by kernel_rfl) ?_
                refine O.q (v := .bool false) (some 126) (Qu.eqv (u := .bool (x15_2.2 != 0)) (v := .bool false) (0, 0) [] (by kernel_rfl) (congrArg Value.bool hc63)) (by kernel_rfl) ?_
                refine O.pure 4 [] [1, 2, 7, 8, 16, 129, 130] [] (fr' := [(1, .int .i64 a1), (2, .int .u8 a2), (7, .pointer (some ⟨p1_6, 0, none⟩)), (8, .int .i64 x1_1.2.1), (16, .int .i64 x15_2.2), (129, .bool false), (130, .int .i64 a1)]) (bx' := [⟨p1_6, [.slice p1_1.1 x1_1.1.f0.length p1_1.2], 24⟩]) (by kernel_rfl) ?_
                refine O.q (v := .bool true) (some 131) (Qu.eqv (u := .bool (decide (a1 < 1))) (v := .bool true) (0, 0) [] (by kernel_rfl) (congrArg Value.bool hc64)) (by kernel_rfl) ?_
                refine O.pure 9 [] [2, 7, 8, 140] [] (fr' := [(2, .int .u8 a2), (7, .pointer (some ⟨p1_6, 0, none⟩)), (8, .int .i64 x1_1.2.1), (140, .bool (x15_2.2 != 1))]) (bx' := [⟨p1_6, [.slice p1_1.1 x1_1.1.f0.length p1_1.2], 24⟩]) (by kernel_rfl) ?_
                refine O.nil (by kernel_rfl) ?_
                obtain rfl := Option.some.inj H
                exact J.conv2 [2, 7, 8, 140] [3, 4] [0] [] (by kernel_rfl) (by kernel_rfl) (by kernel_rfl) (by kernel_rfl) (by decide) (hj20 ())
               ·rcases condE H with ⟨hc65, H⟩ | ⟨hc65, H⟩
                ·refine J.region (by kernel_rfl) ?_
                 refine O.pure 1 [] [1, 2, 7, 8, 16, 105] [] (fr' := [(1, .int .i64 a1), (2, .int .u8 a2), (7, .pointer (some ⟨p1_6, 0, none⟩)), (8, .int .i64 x1_1.2.1), (16, .int .i64 x15_2.2), (105, .int .i64 a1)]) (bx' := [⟨p1_6, [.slice p1_1.1 x1_1.1.f0.length p1_1.2], 24⟩]) (by kernel_rfl) ?_
                 refine O.q (v := .bool true) (some 106) (Qu.eqv (u := .bool (decide (a1 ≥ 1))) (v := .bool true) (0, 0) [] (by kernel_rfl) (congrArg Value.bool hc58)) (by kernel_rfl) ?_
                 refine O.pure 3 [] [1, 2, 7, 8, 16, 107, 108, 109] [] (fr' := [(1, .int .i64 a1), (2, .int .u8 a2), (7, .pointer (some ⟨p1_6, 0, none⟩)), (8, .int .i64 x1_1.2.1), (16, .int .i64 x15_2.2), (107, .bool true), (108, .int .i64 a1), (109, .int .i64 x1_1.2.1)]) (bx' := [⟨p1_6, [.slice p1_1.1 x1_1.1.f0.length p1_1.2], 24⟩]) (by kernel_rfl) ?_
                 refine O.q (v := .bool true) (some 110) (Qu.eqv (u := .bool (decide (a1 ≤ x1_1.2.1))) (v := .bool true) (0, 0) [] (by kernel_rfl) (congrArg Value.bool hc59)) (by kernel_rfl) ?_
                 refine O.pure 3 [] [1, 2, 7, 8, 16, 112, 113] [] (fr' := [(1, .int .i64 a1), (2, .int .u8 a2), (7, .pointer (some ⟨p1_6, 0, none⟩)), (8, .int .i64 x1_1.2.1), (16, .int .i64 x15_2.2), (112, .bool true), (113, .int .i64 x15_2.2)]) (bx' := [⟨p1_6, [.slice p1_1.1 x1_1.1.f0.length p1_1.2], 24⟩]) (by kernel_rfl) ?_
                 refine O.q (v := .bool false) (some 114) (Qu.eqv (u := .bool (x15_2.2 != 6)) (v := .bool false) (0, 0) [] (by kernel_rfl) (congrArg Value.bool hc60)) (by kernel_rfl) ?_
                 refine O.pure 4 [] [1, 2, 7, 8, 16, 116, 117, 118] [] (fr' := [(1, .int .i64 a1), (2, .int .u8 a2), (7, .pointer (some ⟨p1_6, 0, none⟩)), (8, .int .i64 x1_1.2.1), (16, .int .i64 x15_2.2), (116, .bool false), (117, .int .i64 a1), (118, .int .i64 x1_1.2.1)]) (bx' := [⟨p1_6, [.slice p1_1.1 x1_1.1.f0.length p1_1.2], 24⟩]) (by kernel_rfl) ?_
                 refine O.q (v := .bool true) (some 119) (Qu.eqv (u := .bool (decide (a1 > x1_1.2.1))) (v := .bool true) (0, 0) [] (by kernel_rfl) (congrArg Value.bool hc61)) (by kernel_rfl) ?_
                 refine O.pure 2 [] [1, 2, 7, 8, 16, 116, 120, 121] [] (fr' := [(1, .int .i64 a1), (2, .int .u8 a2), (7, .pointer (some ⟨p1_6, 0, none⟩)), (8, .int .i64 x1_1.2.1), (16, .int .i64 x15_2.2), (116, .bool false), (120, .bool true), (121, .int .i64 a1)]) (bx' := [⟨p1_6, [.slice p1_1.1 x1_1.1.f0.length p1_1.2], 24⟩]) (by kernel_rfl) ?_
                 refine O.q (v := .bool true) (some 122) (Qu.eqv (u := .bool (decide (a1 ≤ 1099511627776))) (v := .bool true) (0, 0) [] (by kernel_rfl) (congrArg Value.bool hc62)) (by kernel_rfl) ?_
                 refine O.pure 3 [] [1, 2, 7, 8, 16, 116, 124, 125] [] (fr' := [(1, .int .i64 a1), (2, .int .u8 a2), (7, .pointer (some ⟨p1_6, 0, none⟩)), (8, .int .i64 x1_1.2.1), (16, .int .i64 x15_2.2), (116, .bool false), (124, .bool true), (125, .int .i64 x15_2.2)]) (bx' := [⟨p1_6, [.slice p1_1.1 x1_1.1.f0.length p1_1.2], 24⟩]) (by kernel_rfl) ?_
                 refine O.q (v := .bool false) (some 126) (Qu.eqv (u := .bool (x15_2.2 != 0)) (v := .bool false) (0, 0) [] (by kernel_rfl) (congrArg Value.bool hc63)) (by kernel_rfl) ?_
                 refine O.pure 4 [] [1, 2, 7, 8, 16, 129, 130] [] (fr' := [(1, .int .i64 a1), (2, .int .u8 a2), (7, .pointer (some ⟨p1_6, 0, none⟩)), (8, .int .i64 x1_1.2.1), (16, .int .i64 x15_2.2), (129, .bool false), (130, .int .i64 a1)]) (bx' := [⟨p1_6, [.slice p1_1.1 x1_1.1.f0.length p1_1.2], 24⟩]) (by kernel_rfl) ?_
                 refine O.q (v := .bool false) (some 131) (Qu.eqv (u := .bool (decide (a1 < 1))) (v := .bool false) (0, 0) [] (by kernel_rfl) (congrArg Value.bool hc64)) (by kernel_rfl) ?_
                 refine O.pure 2 [] [2, 7, 8, 16, 129, 132, 133] [] (fr' := [(2, .int .u8 a2), (7, .pointer (some ⟨p1_6, 0, none⟩)), (8, .int .i64 x1_1.2.1), (16, .int .i64 x15_2.2), (129, .bool false), (132, .bool false), (133, .int .i64 a1)]) (bx' := [⟨p1_6, [.slice p1_1.1 x1_1.1.f0.length p1_1.2], 24⟩]) (by kernel_rfl) ?_
                 refine O.q (v := .bool true) (some 134) (Qu.eqv (u := .bool (decide (a1 > 1099511627776))) (v := .bool true) (0, 0) [] (by kernel_rfl) (congrArg Value.bool hc65)) (by kernel_rfl) ?_
                 refine O.pure 6 [] [2, 7, 8, 140] [] (fr' := [(2, .int .u8 a2), (7, .pointer (some ⟨p1_6, 0, none⟩)), (8, .int .i64 x1_1.2.1), (140, .bool (x15_2.2 != 1))]) (bx' := [⟨p1_6, [.slice p1_1.1 x1_1.1.f0.length p1_1.2], 24⟩]) (by kernel_rfl) ?_
                 refine O.nil (by kernel_rfl) ?_
                 obtain rfl := Option.some.inj H
                 exact J.conv2 [2, 7, 8, 140] [3, 4] [0] [] (by kernel_rfl) (by kernel_rfl) (by kernel_rfl) (by kernel_rfl) (by decide) (hj20 ())
                ·refine J.region (by kernel_rfl) ?_
                 refine O.pure 1 [] [1, 2, 7, 8, 16, 105] [] (fr' := [(1, .int .i64 a1), (2, .int .u8 a2), (7, .pointer (some ⟨p1_6, 0, none⟩)), (8, .int .i64 x1_1.2.1), (16, .int .i64 x15_2.2), (105, .int .i64 a1)]) (bx' := [⟨p1_6, [.slice p1_1.1 x1_1.1.f0.length p1_1.2], 24⟩]) (by kernel_rfl) ?_
                 refine O.q (v := .bool true) (some 106) (Qu.eqv (u := .bool (decide (a1 ≥ 1))) (v := .bool true) (0, 0) [] (by kernel_rfl) (congrArg Value.bool hc58)) (by kernel_rfl) ?_
                 refine O.pure 3 [] [1, 2, 7, 8, 16, 107, 108, 109] [] (fr' := [(1, .int .i64 a1), (2, .int .u8 a2), (7, .pointer (some ⟨p1_6, 0, none⟩)), (8, .int .i64 x1_1.2.1), (16, .int .i64 x15_2.2), (107, .bool true), (108, .int .i64 a1), (109, .int .i64 x1_1.2.1)]) (bx' := [⟨p1_6, [.slice p1_1.1 x1_1.1.f0.length p1_1.2], 24⟩]) (by kernel_rfl) ?_
                 refine O.q (v := .bool true) (some 110) (Qu.eqv (u := .bool (decide (a1 ≤ x1_1.2.1))) (v := .bool true) (0, 0) [] (by kernel_rfl) (congrArg Value.bool hc59)) (by kernel_rfl) ?_
                 refine O.pure 3 [] [1, 2, 7, 8, 16, 112, 113] [] (fr' := [(1, .int .i64 a1), (2, .int .u8 a2), (7, .pointer (some ⟨p1_6, 0, none⟩)), (8, .int .i64 x1_1.2.1), (16, .int .i64 x15_2.2), (112, .bool true), (113, .int .i64 x15_2.2)]) (bx' := [⟨p1_6, [.slice p1_1.1 x1_1.1.f0.length p1_1.2], 24⟩]) (by kernel_rfl) ?_
                 refine O.q (v := .bool false) (some 114) (Qu.eqv (u := .bool (x15_2.2 != 6)) (v := .bool false) (0, 0) [] (by kernel_rfl) (congrArg Value.bool hc60)) (by kernel_rfl) ?_
                 refine O.pure 4 [] [1, 2, 7, 8, 16, 116, 117, 118] [] (fr' := [(1, .int .i64 a1), (2, .int .u8 a2), (7, .pointer (some ⟨p1_6, 0, none⟩)), (8, .int .i64 x1_1.2.1), (16, .int .i64 x15_2.2), (116, .bool false), (117, .int .i64 a1), (118, .int .i64 x1_1.2.1)]) (bx' := [⟨p1_6, [.slice p1_1.1 x1_1.1.f0.length p1_1.2], 24⟩]) (by kernel_rfl) ?_
                 refine O.q (v := .bool true) (some 119) (Qu.eqv (u := .bool (decide (a1 > x1_1.2.1))) (v := .bool true) (0, 0) [] (by kernel_rfl) (congrArg Value.bool hc61)) (by kernel_rfl) ?_
                 refine O.pure 2 [] [1, 2, 7, 8, 16, 116, 120, 121] [] (fr' := [(1, .int .i64 a1), (2, .int .u8 a2), (7, .pointer (some ⟨p1_6, 0, none⟩)), (8, .int .i64 x1_1.2.1), (16, .int .i64 x15_2.2), (116, .bool false), (120, .bool true), (121, .int .i64 a1)]) (bx' := [⟨p1_6, [.slice p1_1.1 x1_1.1.f0.length p1_1.2], 24⟩]) (by kernel_rfl) ?_
                 refine O.q (v := .bool true) (some 122) (Qu.eqv (u := .bool (decide (a1 ≤ 1099511627776))) (v := .bool true) (0, 0) [] (by kernel_rfl) (congrArg Value.bool hc62)) (by kernel_rfl) ?_
                 refine O.pure 3 [] [1, 2, 7, 8, 16, 116, 124, 125] [] (fr' := [(1, .int .i64 a1), (2, .int .u8 a2), (7, .pointer (some ⟨p1_6, 0, none⟩)), (8, .int .i64 x1_1.2.1), (16, .int .i64 x15_2.2), (116, .bool false), (124, .bool true), (125, .int .i64 x15_2.2)]) (bx' := [⟨p1_6, [.slice p1_1.1 x1_1.1.f0.length p1_1.2], 24⟩]) (by kernel_rfl) ?_
                 refine O.q (v := .bool false) (some 126) (Qu.eqv (u := .bool (x15_2.2 != 0)) (v := .bool false) (0, 0) [] (by kernel_rfl) (congrArg Value.bool hc63)) (by kernel_rfl) ?_
                 refine O.pure 4 [] [1, 2, 7, 8, 16, 129, 130] [] (fr' := [(1, .int .i64 a1), (2, .int .u8 a2), (7, .pointer (some ⟨p1_6, 0, none⟩)), (8, .int .i64 x1_1.2.1), (16, .int .i64 x15_2.2), (129, .bool false), (130, .int .i64 a1)]) (bx' := [⟨p1_6, [.slice p1_1.1 x1_1.1.f0.length p1_1.2], 24⟩]) (by kernel_rfl) ?_
                 refine O.q (v := .bool false) (some 131) (Qu.eqv (u := .bool (decide (a1 < 1))) (v := .bool false) (0, 0) [] (by kernel_rfl) (congrArg Value.bool hc64)) (by kernel_rfl) ?_
                 refine O.pure 2 [] [2, 7, 8, 16, 129, 132, 133] [] (fr' := [(2, .int .u8 a2), (7, .pointer (some ⟨p1_6, 0, none⟩)), (8, .int .i64 x1_1.2.1), (16, .int .i64 x15_2.2), (129, .bool false), (132, .bool false), (133, .int .i64 a1)]) (bx' := [⟨p1_6, [.slice p1_1.1 x1_1.1.f0.length p1_1.2], 24⟩]) (by kernel_rfl) ?_
                 refine O.q (v := .bool false) (some 134) (Qu.eqv (u := .bool (decide (a1 > 1099511627776))) (v := .bool false) (0, 0) [] (by kernel_rfl) (congrArg Value.bool hc65)) (by kernel_rfl) ?_
                 refine O.pure 6 [] [2, 7, 8, 140] [] (fr' := [(2, .int .u8 a2), (7, .pointer (some ⟨p1_6, 0, none⟩)), (8, .int .i64 x1_1.2.1), (140, .bool false)]) (bx' := [⟨p1_6, [.slice p1_1.1 x1_1.1.f0.length p1_1.2], 24⟩]) (by kernel_rfl) ?_
                 refine O.nil (by kernel_rfl) ?_
                 obtain rfl := Option.some.inj H
                 exact J.conv2 [2, 7, 8, 140] [3, 4] [0] [] (by kernel_rfl) (by kernel_rfl) (by kernel_rfl) (by kernel_rfl) (by decide) (hj20 ())
             ·rcases condE H with ⟨hc66, H⟩ | ⟨hc66, H⟩
              ·refine J.region (by kernel_rfl) ?_
               refine O.pure 1 [] [1, 2, 7, 8, 16, 105] [] (fr' := [(1, .int .i64 a1), (2, .int .u8 a2), (7, .pointer (some ⟨p1_6, 0, none⟩)), (8, .int .i64 x1_1.2.1), (16, .int .i64 x15_2.2), (105, .int .i64 a1)]) (bx' := [⟨p1_6, [.slice p1_1.1 x1_1.1.f0.length p1_1.2], 24⟩]) (by kernel_rfl) ?_
               refine O.q (v := .bool true) (some 106) (Qu.eqv (u := .bool (decide (a1 ≥ 1))) (v := .bool true) (0, 0) [] (by kernel_rfl) (congrArg Value.bool hc58)) (by kernel_rfl) ?_
               refine O.pure 3 [] [1, 2, 7, 8, 16, 107, 108, 109] [] (fr' := [(1, .int .i64 a1), (2, .int .u8 a2), (7, .pointer (some ⟨p1_6, 0, none⟩)), (8, .int .i64 x1_1.2.1), (16, .int .i64 x15_2.2), (107, .bool true), (108, .int .i64 a1), (109, .int .i64 x1_1.2.1)]) (bx' := [⟨p1_6, [.slice p1_1.1 x1_1.1.f0.length p1_1.2], 24⟩]) (by kernel_rfl) ?_
               refine O.q (v := .bool true) (some 110) (Qu.eqv (u := .bool (decide (a1 ≤ x1_1.2.1))) (v := .bool true) (0, 0) [] (by kernel_rfl) (congrArg Value.bool hc59)) (by kernel_rfl) ?_
               refine O.pure 3 [] [1, 2, 7, 8, 16, 112, 113] [] (fr' := [(1, .int .i64 a1), (2, .int .u8 a2), (7, .pointer (some ⟨p1_6, 0, none⟩)), (8, .int .i64 x1_1.2.1), (16, .int .i64 x15_2.2), (112, .bool true), (113, .int .i64 x15_2.2)]) (bx' := [⟨p1_6, [.slice p1_1.1 x1_1.1.f0.length p1_1.2], 24⟩]) (by kernel_rfl) ?_
               refine O.q (v := .bool false) (some 114) (Qu.eqv (u := .bool (x15_2.2 != 6)) (v := .bool false) (0, 0) [] (by kernel_rfl) (congrArg Value.bool hc60)) (by kernel_rfl) ?_
               refine O.pure 4 [] [1, 2, 7, 8, 16, 116, 117, 118] [] (fr' := [(1, .int .i64 a1), (2, .int .u8 a2), (7, .pointer (some ⟨p1_6, 0, none⟩)), (8, .int .i64 x1_1.2.1), (16, .int .i64 x15_2.2), (116, .bool false), (117, .int .i64 a1), (118, .int .i64 x1_1.2.1)]) (bx' := [⟨p1_6, [.slice p1_1.1 x1_1.1.f0.length p1_1.2], 24⟩]) (by kernel_rfl) ?_
               refine O.q (v := .bool true) (some 119) (Qu.eqv (u := .bool (decide (a1 > x1_1.2.1))) (v := .bool true) (0, 0) [] (by kernel_rfl) (congrArg Value.bool hc61)) (by kernel_rfl) ?_
               refine O.pure 2 [] [1, 2, 7, 8, 16, 116, 120, 121] [] (fr' := [(1, .int .i64 a1), (2, .int .u8 a2), (7, .pointer (some ⟨p1_6, 0, none⟩)), (8, .int .i64 x1_1.2.1), (16, .int .i64 x15_2.2), (116, .bool false), (120, .bool true), (121, .int .i64 a1)]) (bx' := [⟨p1_6, [.slice p1_1.1 x1_1.1.f0.length p1_1.2], 24⟩]) (by kernel_rfl) ?_
               refine O.q (v := .bool false) (some 122) (Qu.eqv (u := .bool (decide (a1 ≤ 1099511627776))) (v := .bool false) (0, 0) [] (by kernel_rfl) (congrArg Value.bool hc62)) (by kernel_rfl) ?_
               refine O.pure 8 [] [1, 2, 7, 8, 16, 129, 130] [] (fr' := [(1, .int .i64 a1), (2, .int .u8 a2), (7, .pointer (some ⟨p1_6, 0, none⟩)), (8, .int .i64 x1_1.2.1), (16, .int .i64 x15_2.2), (129, .bool false), (130, .int .i64 a1)]) (bx' := [⟨p1_6, [.slice p1_1.1 x1_1.1.f0.length p1_1.2], 24⟩]) (by kernel_rfl) ?_
               refine O.q (v := .bool true) (some 131) (Qu.eqv (u := .bool (decide (a1 < 1))) (v := .bool true) (0, 0) [] (by kernel_rfl) (congrArg Value.bool hc66)) (by kernel_rfl) ?_
               refine O.pure 9 [] [2, 7, 8, 140] [] (fr' := [(2, .int .u8 a2), (7, .pointer (some ⟨p1_6, 0, none⟩)), (8, .int .i64 x1_1.2.1), (140, .bool (x15_2.2 != 1))]) (bx' := [⟨p1_6, [.slice p1_1.1 x1_1.1.f0.length p1_1.2], 24⟩]) (by kernel_rfl) ?_
               refine O.nil (by kernel_rfl) ?_
               obtain rfl := Option.some.inj H
               exact J.conv2 [2, 7, 8, 140] [3, 4] [0] [] (by kernel_rfl) (by kernel_rfl) (by kernel_rfl) (by kernel_rfl) (by decide) (hj20 ())
              ·rcases condE H with ⟨hc67, H⟩ | ⟨hc67, H⟩
               ·refine J.region (by kernel_rfl) ?_
                refine O.pure 1 [] [1, 2, 7, 8, 16, 105] [] (fr' := [(1, .int .i64 a1), (2, .int .u8 a2), (7, .pointer (some ⟨p1_6, 0, none⟩)), (8, .int .i64 x1_1.2.1), (16, .int .i64 x15_2.2), (105, .int .i64 a1)]) (bx' := [⟨p1_6, [.slice p1_1.1 x1_1.1.f0.length p1_1.2], 24⟩]) (by kernel_rfl) ?_
                refine O.q (v := .bool true) (some 106) (Qu.eqv (u := .bool (decide (a1 ≥ 1))) (v := .bool true) (0, 0) [] (by kernel_rfl) (congrArg Value.bool hc58)) (by kernel_rfl) ?_
                refine O.pure 3 [] [1, 2, 7, 8, 16, 107, 108, 109] [] (fr' := [(1, .int .i64 a1), (2, .int .u8 a2), (7, .pointer (some ⟨p1_6, 0, none⟩)), (8, .int .i64 x1_1.2.1), (16, .int .i64 x15_2.2), (107, .bool true), (108, .int .i64 a1), (109, .int .i64 x1_1.2.1)]) (bx' := [⟨p1_6, [.slice p1_1.1 x1_1.1.f0.length p1_1.2], 24⟩]) (by kernel_rfl) ?_
                refine O.q (v := .bool true) (some 110) (Qu.eqv (u := .bool (decide (a1 ≤ x1_1.2.1))) (v := .bool true) (0, 0) [] (by kernel_rfl) (congrArg Value.bool hc59)) (by kernel_rfl) ?_
                refine O.pure 3 [] [1, 2, 7, 8, 16, 112, 113] [] (fr' := [(1, .int .i64 a1), (2, .int .u8 a2), (7, .pointer (some ⟨p1_6, 0, none⟩)), (8, .int .i64 x1_1.2.1), (16, .int .i64 x15_2.2), (112, .bool true), (113, .int .i64 x15_2.2)]) (bx' := [⟨p1_6, [.slice p1_1.1 x1_1.1.f0.length p1_1.2], 24⟩]) (by kernel_rfl) ?_
                refine O.q (v := .bool false) (some 114) (Qu.eqv (u := .bool (x15_2.2 != 6)) (v := .bool false) (0, 0) [] (by kernel_rfl) (congrArg Value.bool hc60)) (by kernel_rfl) ?_
                refine O.pure 4 [] [1, 2, 7, 8, 16, 116, 117, 118] [] (fr' := [(1, .int .i64 a1), (2, .int .u8 a2), (7, .pointer (some ⟨p1_6, 0, none⟩)), (8, .int .i64 x1_1.2.1), (16, .int .i64 x15_2.2), (116, .bool false), (117, .int .i64 a1), (118, .int .i64 x1_1.2.1)]) (bx' := [⟨p1_6, [.slice p1_1.1 x1_1.1.f0.length p1_1.2], 24⟩]) (by kernel_rfl) ?_
                refine O.q (v := .bool true) (some 119) (Qu.eqv (u := .bool (decide (a1 > x1_1.2.1))) (v := .bool true) (0, 0) [] (by kernel_rfl) (congrArg Value.bool hc61)) (by kernel_rfl) ?_
                refine O.pure 2 [] [1, 2, 7, 8, 16, 116, 120, 121] [] (fr' := [(1, .int .i64 a1), (2, .int .u8 a2), (7, .pointer (some ⟨p1_6, 0, none⟩)), (8, .int .i64 x1_1.2.1), (16, .int .i64 x15_2.2), (116, .bool false), (120, .bool true), (121, .int .i64 a1)]) (bx' := [⟨p1_6, [.slice p1_1.1 x1_1.1.f0.length p1_1.2], 24⟩]) (by kernel_rfl) ?_
                refine O.q (v := .bool false) (some 122) (Qu.eqv (u := .bool (decide (a1 ≤ 1099511627776))) (v := .bool false) (0, 0) [] (by kernel_rfl) (congrArg Value.bool hc62)) (by kernel_rfl) ?_
                refine O.pure 8 [] [1, 2, 7, 8, 16, 129, 130] [] (fr' := [(1, .int .i64 a1), (2, .int .u8 a2), (7, .pointer (some ⟨p1_6, 0, none⟩)), (8, .int .i64 x1_1.2.1), (16, .int .i64 x15_2.2), (129, .bool false), (130, .int .i64 a1)]) (bx' := [⟨p1_6, [.slice p1_1.1 x1_1.1.f0.length p1_1.2], 24⟩]) (by kernel_rfl) ?_
                refine O.q (v := .bool false) (some 131) (Qu.eqv (u := .bool (decide (a1 < 1))) (v := .bool false) (0, 0) [] (by kernel_rfl) (congrArg Value.bool hc66)) (by kernel_rfl) ?_
                refine O.pure 2 [] [2, 7, 8, 16, 129, 132, 133] [] (fr' := [(2, .int .u8 a2), (7, .pointer (some ⟨p1_6, 0, none⟩)), (8, .int .i64 x1_1.2.1), (16, .int .i64 x15_2.2), (129, .bool false), (132, .bool false), (133, .int .i64 a1)]) (bx' := [⟨p1_6, [.slice p1_1.1 x1_1.1.f0.length p1_1.2], 24⟩]) (by kernel_rfl) ?_
                refine O.q (v := .bool true) (some 134) (Qu.eqv (u := .bool (decide (a1 > 1099511627776))) (v := .bool true) (0, 0) [] (by kernel_rfl) (congrArg Value.bool hc67)) (by kernel_rfl) ?_
                refine O.pure 6 [] [2, 7, 8, 140] [] (fr' := [(2, .int .u8 a2), (7, .pointer (some ⟨p1_6, 0, none⟩)), (8, .int .i64 x1_1.2.1), (140, .bool (x15_2.2 != 1))]) (bx' := [⟨p1_6, [.slice p1_1.1 x1_1.1.f0.length p1_1.2], 24⟩]) (by kernel_rfl) ?_
                refine O.nil (by kernel_rfl) ?_
                obtain rfl := Option.some.inj H
                exact J.conv2 [2, 7, 8, 140] [3, 4] [0] [] (by kernel_rfl) (by kernel_rfl) (by kernel_rfl) (by kernel_rfl) (by decide) (hj20 ())
               ·refine J.region (by kernel_rfl) ?_
                refine O.pure 1 [] [1, 2, 7, 8, 16, 105] [] (fr' := [(1, .int .i64 a1), (2, .int .u8 a2), (7, .pointer (some ⟨p1_6, 0, none⟩)), (8, .int .i64 x1_1.2.1), (16, .int .i64 x15_2.2), (105, .int .i64 a1)]) (bx' := [⟨p1_6, [.slice p1_1.1 x1_1.1.f0.length p1_1.2], 24⟩]) (by kernel_rfl) ?_
                refine O.q (v := .bool true) (some 106) (Qu.eqv (u := .bool (decide (a1 ≥ 1))) (v := .bool true) (0, 0) [] (by kernel_rfl) (congrArg Value.bool hc58)) (by kernel_rfl) ?_
                refine O.pure 3 [] [1, 2, 7, 8, 16, 107, 108, 109] [] (fr' := [(1, .int .i64 a1), (2, .int .u8 a2), (7, .pointer (some ⟨p1_6, 0, none⟩)), (8, .int .i64 x1_1.2.1), (16, .int .i64 x15_2.2), (107, .bool true), (108, .int .i64 a1), (109, .int .i64 x1_1.2.1)]) (bx' := [⟨p1_6, [.slice p1_1.1 x1_1.1.f0.length p1_1.2], 24⟩]) (by kernel_rfl) ?_
                refine O.q (v := .bool true) (some 110) (Qu.eqv (u := .bool (decide (a1 ≤ x1_1.2.1))) (v := .bool true) (0, 0) [] (by kernel_rfl) (congrArg Value.bool hc59)) (by kernel_rfl) ?_
                refine O.pure 3 [] [1, 2, 7, 8, 16, 112, 113] [] (fr' := [(1, .int .i64 a1), (2, .int .u8 a2), (7, .pointer (some ⟨p1_6, 0, none⟩)), (8, .int .i64 x1_1.2.1), (16, .int .i64 x15_2.2), (112, .bool true), (113, .int .i64 x15_2.2)]) (bx' := [⟨p1_6, [.slice p1_1.1 x1_1.1.f0.length p1_1.2], 24⟩]) (by kernel_rfl) ?_
                refine O.q (v := .bool false) (some 114) (Qu.eqv (u := .bool (x15_2.2 != 6)) (v := .bool false) (0, 0) [] (by kernel_rfl) (congrArg Value.bool hc60)) (by kernel_rfl) ?_
                refine O.pure 4 [] [1, 2, 7, 8, 16, 116, 117, 118] [] (fr' := [(1, .int .i64 a1), (2, .int .u8 a2), (7, .pointer (some ⟨p1_6, 0, none⟩)), (8, .int .i64 x1_1.2.1), (16, .int .i64 x15_2.2), (116, .bool false), (117, .int .i64 a1), (118, .int .i64 x1_1.2.1)]) (bx' := [⟨p1_6, [.slice p1_1.1 x1_1.1.f0.length p1_1.2], 24⟩]) (by kernel_rfl) ?_
                refine O.q (v := .bool true) (some 119) (Qu.eqv (u := .bool (decide (a1 > x1_1.2.1))) (v := .bool true) (0, 0) [] (by kernel_rfl) (congrArg Value.bool hc61)) (by kernel_rfl) ?_
                refine O.pure 2 [] [1, 2, 7, 8, 16, 116, 120, 121] [] (fr' := [(1, .int .i64 a1), (2, .int .u8 a2), (7, .pointer (some ⟨p1_6, 0, none⟩)), (8, .int .i64 x1_1.2.1), (16, .int .i64 x15_2.2), (116, .bool false), (120, .bool true), (121, .int .i64 a1)]) (bx' := [⟨p1_6, [.slice p1_1.1 x1_1.1.f0.length p1_1.2], 24⟩]) (by kernel_rfl) ?_
                refine O.q (v := .bool false) (some 122) (Qu.eqv (u := .bool (decide (a1 ≤ 1099511627776))) (v := .bool false) (0, 0) [] (by kernel_rfl) (congrArg Value.bool hc62)) (by kernel_rfl) ?_
                refine O.pure 8 [] [1, 2, 7, 8, 16, 129, 130] [] (fr' := [(1, .int .i64 a1), (2, .int .u8 a2), (7, .pointer (some ⟨p1_6, 0, none⟩)), (8, .int .i64 x1_1.2.1), (16, .int .i64 x15_2.2), (129, .bool false), (130, .int .i64 a1)]) (bx' := [⟨p1_6, [.slice p1_1.1 x1_1.1.f0.length p1_1.2], 24⟩]) (by kernel_rfl) ?_
                refine O.q (v := .bool false) (some 131) (Qu.eqv (u := .bool (decide (a1 < 1))) (v := .bool false) (0, 0) [] (by kernel_rfl) (congrArg Value.bool hc66)) (by kernel_rfl) ?_
                refine O.pure 2 [] [2, 7, 8, 16, 129, 132, 133] [] (fr' := [(2, .int .u8 a2), (7, .pointer (some ⟨p1_6, 0, none⟩)), (8, .int .i64 x1_1.2.1), (16, .int .i64 x15_2.2), (129, .bool false), (132, .bool false), (133, .int .i64 a1)]) (bx' := [⟨p1_6, [.slice p1_1.1 x1_1.1.f0.length p1_1.2], 24⟩]) (by kernel_rfl) ?_
                refine O.q (v := .bool false) (some 134) (Qu.eqv (u := .bool (decide (a1 > 1099511627776))) (v := .bool false) (0, 0) [] (by kernel_rfl) (congrArg Value.bool hc67)) (by kernel_rfl) ?_
                refine O.pure 6 [] [2, 7, 8, 140] [] (fr' := [(2, .int .u8 a2), (7, .pointer (some ⟨p1_6, 0, none⟩)), (8, .int .i64 x1_1.2.1), (140, .bool false)]) (bx' := [⟨p1_6, [.slice p1_1.1 x1_1.1.f0.length p1_1.2], 24⟩]) (by kernel_rfl) ?_
                refine O.nil (by kernel_rfl) ?_
                obtain rfl := Option.some.inj H
                exact J.conv2 [2, 7, 8, 140] [3, 4] [0] [] (by kernel_rfl) (by kernel_rfl) (by kernel_rfl) (by kernel_rfl) (by decide) (hj20 ())
            ·rcases condE H with ⟨hc68, H⟩ | ⟨hc68, H⟩
             ·refine J.region (by kernel_rfl) ?_
              refine O.pure 1 [] [1, 2, 7, 8, 16, 105] [] (fr' := [(1, .int .i64 a1), (2, .int .u8 a2), (7, .pointer (some ⟨p1_6, 0, none⟩)), (8, .int .i64 x1_1.2.1), (16, .int .i64 x15_2.2), (105, .int .i64 a1)]) (bx' := [⟨p1_6, [.slice p1_1.1 x1_1.1.f0.length p1_1.2], 24⟩]) (by kernel_rfl) ?_
              refine O.q (v := .bool true) (some 106) (Qu.eqv (u := .bool (decide (a1 ≥ 1))) (v := .bool true) (0, 0) [] (by kernel_rfl) (congrArg Value.bool hc58)) (by kernel_rfl) ?_
              refine O.pure 3 [] [1, 2, 7, 8, 16, 107, 108, 109] [] (fr' := [(1, .int .i64 a1), (2, .int .u8 a2), (7, .pointer (some ⟨p1_6, 0, none⟩)), (8, .int .i64 x1_1.2.1), (16, .int .i64 x15_2.2), (107, .bool true), (108, .int .i64 a1), (109, .int .i64 x1_1.2.1)]) (bx' := [⟨p1_6, [.slice p1_1.1 x1_1.1.f0.length p1_1.2], 24⟩]) (by kernel_rfl) ?_
              refine O.q (v := .bool true) (some 110) (Qu.eqv (u := .bool (decide (a1 ≤ x1_1.2.1))) (v := .bool true) (0, 0) [] (by kernel_rfl) (congrArg Value.bool hc59)) (by kernel_rfl) ?_
              refine O.pure 3 [] [1, 2, 7, 8, 16, 112, 113] [] (fr' := [(1, .int .i64 a1), (2, .int .u8 a2), (7, .pointer (some ⟨p1_6, 0, none⟩)), (8, .int .i64 x1_1.2.1), (16, .int .i64 x15_2.2), (112, .bool true), (113, .int .i64 x15_2.2)]) (bx' := [⟨p1_6, [.slice p1_1.1 x1_1.1.f0.length p1_1.2], 24⟩]) (by kernel_rfl) ?_
              refine O.q (v := .bool false) (some 114) (Qu.eqv (u := .bool (x15_2.2 != 6)) (v := .bool false) (0, 0) [] (by kernel_rfl) (congrArg Value.bool hc60)) (by kernel_rfl) ?_
              refine O.pure 4 [] [1, 2, 7, 8, 16, 116, 117, 118] [] (fr' := [(1, .int .i64 a1), (2, .int .u8 a2), (7, .pointer (some ⟨p1_6, 0, none⟩)), (8, .int .i64 x1_1.2.1), (16, .int .i64 x15_2.2), (116, .bool false), (117, .int .i64 a1), (118, .int .i64 x1_1.2.1)]) (bx' := [⟨p1_6, [.slice p1_1.1 x1_1.1.f0.length p1_1.2], 24⟩]) (by kernel_rfl) ?_
              refine O.q (v := .bool false) (some 119) (Qu.eqv (u := .bool (decide (a1 > x1_1.2.1))) (v := .bool false) (0, 0) [] (by kernel_rfl) (congrArg Value.bool hc61)) (by kernel_rfl) ?_
              refine O.pure 11 [] [1, 2, 7, 8, 16, 129, 130] [] (fr' := [(1, .int .i64 a1), (2, .int .u8 a2), (7, .pointer (some ⟨p1_6, 0, none⟩)), (8, .int .i64 x1_1.2.1), (16, .int .i64 x15_2.2), (129, .bool false), (130, .int .i64 a1)]) (bx' := [⟨p1_6, [.slice p1_1.1 x1_1.1.f0.length p1_1.2], 24⟩]) (by kernel_rfl) ?_
              refine O.q (v := .bool true) (some 131) (Qu.eqv (u := .bool (decide (a1 < 1))) (v := .bool true) (0, 0) [] (by kernel_rfl) (congrArg Value.bool hc68)) (by kernel_rfl) ?_
              refine O.pure 9 [] [2, 7, 8, 140] [] (fr' := [(2, .int .u8 a2), (7, .pointer (some ⟨p1_6, 0, none⟩)), (8, .int .i64 x1_1.2.1), (140, .bool (x15_2.2 != 1))]) (bx' := [⟨p1_6, [.slice p1_1.1 x1_1.1.f0.length p1_1.2], 24⟩]) (by kernel_rfl) ?_
              refine O.nil (by kernel_rfl) ?_
              obtain rfl := Option.some.inj H
              exact J.conv2 [2, 7, 8, 140] [3, 4] [0] [] (by kernel_rfl) (by kernel_rfl) (by kernel_rfl) (by kernel_rfl) (by decide) (hj20 ())
             ·rcases condE H with ⟨hc69, H⟩ | ⟨hc69, H⟩
              ·refine J.region (by kernel_rfl) ?_
               refine O.pure 1 [] [1, 2, 7, 8, 16, 105] [] (fr' := [(1, .int .i64 a1), (2, .int .u8 a2), (7, .pointer (some ⟨p1_6, 0, none⟩)), (8, .int .i64 x1_1.2.1), (16, .int .i64 x15_2.2), (105, .int .i64 a1)]) (bx' := [⟨p1_6, [.slice p1_1.1 x1_1.1.f0.length p1_1.2], 24⟩]) (by kernel_rfl) ?_
               refine O.q (v := .bool true) (some 106) (Qu.eqv (u := .bool (decide (a1 ≥ 1))) (v := .bool true) (0, 0) [] (by kernel_rfl) (congrArg Value.bool hc58)) (by kernel_rfl) ?_
               refine O.pure 3 [] [1, 2, 7, 8, 16, 107, 108, 109] [] (fr' := [(1, .int .i64 a1), (2, .int .u8 a2), (7, .pointer (some ⟨p1_6, 0, none⟩)), (8, .int .i64 x1_1.2.1), (16, .int .i64 x15_2.2), (107, .bool true), (108, .int .i64 a1), (109, .int .i64 x1_1.2.1)]) (bx' := [⟨p1_6, [.slice p1_1.1 x1_1.1.f0.length p1_1.2], 24⟩]) (by kernel_rfl) ?_
               refine O.q (v := .bool true) (some 110) (Qu.eqv (u := .bool (decide (a1 ≤ x1_1.2.1))) (v := .bool true) (0, 0) [] (by kernel_rfl) (congrArg Value.bool hc59)) (by kernel_rfl) ?_
               refine O.pure 3 [] [1, 2, 7, 8, 16, 112, 113] [] (fr' := [(1, .int .i64 a1), (2, .int .u8 a2), (7, .pointer (some ⟨p1_6, 0, none⟩)), (8, .int .i64 x1_1.2.1), (16, .int .i64 x15_2.2), (112, .bool true), (113, .int .i64 x15_2.2)]) (bx' := [⟨p1_6, [.slice p1_1.1 x1_1.1.f0.length p1_1.2], 24⟩]) (by kernel_rfl) ?_
               refine O.q (v := .bool false) (some 114) (Qu.eqv (u := .bool (x15_2.2 != 6)) (v := .bool false) (0, 0) [] (by kernel_rfl) (congrArg Value.bool hc60)) (by kernel_rfl) ?_
               refine O.pure 4 [] [1, 2, 7, 8, 16, 116, 117, 118] [] (fr' := [(1, .int .i64 a1), (2, .int .u8 a2), (7, .pointer (some ⟨p1_6, 0, none⟩)), (8, .int .i64 x1_1.2.1), (16, .int .i64 x15_2.2), (116, .bool false), (117, .int .i64 a1), (118, .int .i64 x1_1.2.1)]) (bx' := [⟨p1_6, [.slice p1_1.1 x1_1.1.f0.length p1_1.2], 24⟩]) (by kernel_rfl) ?_
               refine O.q (v := .bool false) (some 119) (Qu.eqv (u := .bool (decide (a1 > x1_1.2.1))) (v := .bool false) (0, 0) [] (by kernel_rfl) (congrArg Value.bool hc61)) (by kernel_rfl) ?_
               refine O.pure 11 [] [1, 2, 7, 8, 16, 129, 130] [] (fr' := [(1, .int .i64 a1), (2, .int .u8 a2), (7, .pointer (some ⟨p1_6, 0, none⟩)), (8, .int .i64 x1_1.2.1), (16, .int .i64 x15_2.2), (129, .bool false), (130, .int .i64 a1)]) (bx' := [⟨p1_6, [.slice p1_1.1 x1_1.1.f0.length p1_1.2], 24⟩]) (by kernel_rfl) ?_
               refine O.q (v := .bool false) (some 131) (Qu.eqv (u := .bool (decide (a1 < 1))) (v := .bool false) (0, 0) [] (by kernel_rfl) (congrArg Value.bool hc68)) (by kernel_rfl) ?_
               refine O.pure 2 [] [2, 7, 8, 16, 129, 132, 133] [] (fr' := [(2, .int .u8 a2), (7, .pointer (some ⟨p1_6, 0, none⟩)), (8, .int .i64 x1_1.2.1), (16, .int .i64 x15_2.2), (129, .bool false), (132, .bool false), (133, .int .i64 a1)]) (bx' := [⟨p1_6, [.slice p1_1.1 x1_1.1.f0.length p1_1.2], 24⟩]) (by kernel_rfl) ?_
               refine O.q (v := .bool true) (some 134) (Qu.eqv (u := .bool (decide (a1 > 1099511627776))) (v := .bool true) (0, 0) [] (by kernel_rfl) (congrArg Value.bool hc69)) (by kernel_rfl) ?_
               refine O.pure 6 [] [2, 7, 8, 140] [] (fr' := [(2, .int .u8 a2), (7, .pointer (some ⟨p1_6, 0, none⟩)), (8, .int .i64 x1_1.2.1), (140, .bool (x15_2.2 != 1))]) (bx' := [⟨p1_6, [.slice p1_1.1 x1_1.1.f0.length p1_1.2], 24⟩]) (by kernel_rfl) ?_
               refine O.nil (by kernel_rfl) ?_
               obtain rfl := Option.some.inj H
               exact J.conv2 [2, 7, 8, 140] [3, 4] [0] [] (by kernel_rfl) (by kernel_rfl) (by kernel_rfl) (by kernel_rfl) (by decide) (hj20 ())
              ·refine J.region (by kernel_rfl) ?_
               refine O.pure 1 [] [1, 2, 7, 8, 16, 105] [] (fr' := [(1, .int .i64 a1), (2, .int .u8 a2), (7, .pointer (some ⟨p1_6, 0, none⟩)), (8, .int .i64 x1_1.2.1), (16, .int .i64 x15_2.2), (105, .int .i64 a1)]) (bx' := [⟨p1_6, [.slice p1_1.1 x1_1.1.f0.length p1_1.2], 24⟩]) (by kernel_rfl) ?_
               refine O.q (v := .bool true) (some 106) (Qu.eqv (u := .bool (decide (a1 ≥ 1))) (v := .bool true) (0, 0) [] (by kernel_rfl) (congrArg Value.bool hc58)) (by kernel_rfl) ?_
               refine O.pure 3 [] [1, 2, 7, 8, 16, 107, 108, 109] [] (fr' := [(1, .int .i64 a1), (2, .int .u8 a2), (7, .pointer (some ⟨p1_6, 0, none⟩)), (8, .int .i64 x1_1.2.1), (16, .int .i64 x15_2.2), (107, .bool true), (108, .int .i64 a1), (109, .int .i64 x1_1.2.1)]) (bx' := [⟨p1_6, [.slice p1_1.1 x1_1.1.f0.length p1_1.2], 24⟩]) (by kernel_rfl) ?_
               refine O.q (v := .bool true) (some 110) (Qu.eqv (u := .bool (decide (a1 ≤ x1_1.2.1))) (v := .bool true) (0, 0) [] (by kernel_rfl) (congrArg Value.bool hc59)) (by kernel_rfl) ?_
               refine O.pure 3 [] [1, 2, 7, 8, 16, 112, 113] [] (fr' := [(1, .int .i64 a1), (2, .int .u8 a2), (7, .pointer (some ⟨p1_6, 0, none⟩)), (8, .int .i64 x1_1.2.1), (16, .int .i64 x15_2.2), (112, .bool true), (113, .int .i64 x15_2.2)]) (bx' := [⟨p1_6, [.slice p1_1.1 x1_1.1.f0.length p1_1.2], 24⟩]) (by kernel_rfl) ?_
               refine O.q (v := .bool false) (some 114) (Qu.eqv (u := .bool (x15_2.2 != 6)) (v := .bool false) (0, 0) [] (by kernel_rfl) (congrArg Value.bool hc60)) (by kernel_rfl) ?_
               refine O.pure 4 [] [1, 2, 7, 8, 16, 116, 117, 118] [] (fr' := [(1, .int .i64 a1), (2, .int .u8 a2), (7, .pointer (some ⟨p1_6, 0, none⟩)), (8, .int .i64 x1_1.2.1), (16, .int .i64 x15_2.2), (116, .bool false), (117, .int .i64 a1), (118, .int .i64 x1_1.2.1)]) (bx' := [⟨p1_6, [.slice p1_1.1 x1_1.1.f0.length p1_1.2], 24⟩]) (by kernel_rfl) ?_
               refine O.q (v := .bool false) (some 119) (Qu.eqv (u := .bool (decide (a1 > x1_1.2.1))) (v := .bool false) (0, 0) [] (by kernel_rfl) (congrArg Value.bool hc61)) (by kernel_rfl) ?_
               refine O.pure 11 [] [1, 2, 7, 8, 16, 129, 130] [] (fr' := [(1, .int .i64 a1), (2, .int .u8 a2), (7, .pointer (some ⟨p1_6, 0, none⟩)), (8, .int .i64 x1_1.2.1), (16, .int .i64 x15_2.2), (129, .bool false), (130, .int .i64 a1)]) (bx' := [⟨p1_6, [.slice p1_1.1 x1_1.1.f0.length p1_1.2], 24⟩]) (by kernel_rfl) ?_
               refine O.q (v := .bool false) (some 131) (Qu.eqv (u := .bool (decide (a1 < 1))) (v := .bool false) (0, 0) [] (by kernel_rfl) (congrArg Value.bool hc68)) (by kernel_rfl) ?_
               refine O.pure 2 [] [2, 7, 8, 16, 129, 132, 133] [] (fr' := [(2, .int .u8 a2), (7, .pointer (some ⟨p1_6, 0, none⟩)), (8, .int .i64 x1_1.2.1), (16, .int .i64 x15_2.2), (129, .bool false), (132, .bool false), (133, .int .i64 a1)]) (bx' := [⟨p1_6, [.slice p1_1.1 x1_1.1.f0.length p1_1.2], 24⟩]) (by kernel_rfl) ?_
               refine O.q (v := .bool false) (some 134) (Qu.eqv (u := .bool (decide (a1 > 1099511627776))) (v := .bool false) (0, 0) [] (by kernel_rfl) (congrArg Value.bool hc69)) (by kernel_rfl) ?_
               refine O.pure 6 [] [2, 7, 8, 140] [] (fr' := [(2, .int .u8 a2), (7, .pointer (some ⟨p1_6, 0, none⟩)), (8, .int .i64 x1_1.2.1), (140, .bool false)]) (bx' := [⟨p1_6, [.slice p1_1.1 x1_1.1.f0.length p1_1.2], 24⟩]) (by kernel_rfl) ?_
               refine O.nil (by kernel_rfl) ?_
               obtain rfl := Option.some.inj H
               exact J.conv2 [2, 7, 8, 140] [3, 4] [0] [] (by kernel_rfl) (by kernel_rfl) (by kernel_rfl) (by kernel_rfl) (by decide) (hj20 ())
          ·rcases condE H with ⟨hc70, H⟩ | ⟨hc70, H⟩
           ·rcases condE H with ⟨hc71, H⟩ | ⟨hc71, H⟩
            ·rcases condE H with ⟨hc72, H⟩ | ⟨hc72, H⟩
             ·refine J.region (by kernel_rfl) ?_
              refine O.pure 1 [] [1, 2, 7, 8, 16, 105] [] (fr' := [(1, .int .i64 a1), (2, .int .u8 a2), (7, .pointer (some ⟨p1_6, 0, none⟩)), (8, .int .i64 x1_1.2.1), (16, .int .i64 x15_2.2), (105, .int .i64 a1)]) (bx' := [⟨p1_6, [.slice p1_1.1 x1_1.1.f0.length p1_1.2], 24⟩]) (by kernel_rfl) ?_
              refine O.q (v := .bool true) (some 106) (Qu.eqv (u := .bool (decide (a1 ≥ 1))) (v := .bool true) (0, 0) [] (by kernel_rfl) (congrArg Value.bool hc58)) (by kernel_rfl) ?_
              refine O.pure 3 [] [1, 2, 7, 8, 16, 107, 108, 109] [] (fr' := [(1, .int .i64 a1), (2, .int .u8 a2), (7, .pointer (some ⟨p1_6, 0, none⟩)), (8, .int .i64 x1_1.2.1), (16, .int .i64 x15_2.2), (107, .bool true), (108, .int .i64 a1), (109, .int .i64 x1_1.2.1)]) (bx' := [⟨p1_6, [.slice p1_1.1 x1_1.1.f0.length p1_1.2], 24⟩]) (by kernel_rfl) ?_
              refine O.q (v := .bool false) (some 110) (Qu.eqv (u := .bool (decide (a1 ≤ x1_1.2.1))) (v := .bool false) (0, 0) [] (by kernel_rfl) (congrArg Value.bool hc59)) (by kernel_rfl) ?_
              refine O.pure 8 [] [1, 2, 7, 8, 16, 116, 117, 118] [] (fr' := [(1, .int .i64 a1), (2, .int .u8 a2), (7, .pointer (some ⟨p1_6, 0, none⟩)), (8, .int .i64 x1_1.2.1), (16, .int .i64 x15_2.2), (116, .bool false), (117, .int .i64 a1), (118, .int .i64 x1_1.2.1)]) (bx' := [⟨p1_6, [.slice p1_1.1 x1_1.1.f0.length p1_1.2], 24⟩]) (by kernel_rfl) ?_
              refine O.q (v := .bool true) (some 119) (Qu.eqv (u := .bool (decide (a1 > x1_1.2.1))) (v := .bool true) (0, 0) [] (by kernel_rfl) (congrArg Value.bool hc70)) (by kernel_rfl) ?_
              refine O.pure 2 [] [1, 2, 7, 8, 16, 116, 120, 121] [] (fr' := [(1, .int .i64 a1), (2, .int .u8 a2), (7, .pointer (some ⟨p1_6, 0, none⟩)), (8, .int .i64 x1_1.2.1), (16, .int .i64 x15_2.2), (116, .bool false), (120, .bool true), (121, .int .i64 a1)]) (bx' := [⟨p1_6, [.slice p1_1.1 x1_1.1.f0.length p1_1.2], 24⟩]) (by kernel_rfl) ?_
              refine O.q (v := .bool true) (some 122) (Qu.eqv (u := .bool (decide (a1 ≤ 1099511627776))) (v := .bool true) (0, 0) [] (by kernel_rfl) (congrArg Value.bool hc71)) (by kernel_rfl) ?_
              refine O.pure 3 [] [1, 2, 7, 8, 16, 116, 124, 125] [] (fr' := [(1, .int .i64 a1), (2, .int .u8 a2), (7, .pointer (some ⟨p1_6, 0, none⟩)), (8, .int .i64 x1_1.2.1), (16, .int .i64 x15_2.2), (116, .bool false), (124, .bool true), (125, .int .i64 x15_2.2)]) (bx' := [⟨p1_6, [.slice p1_1.1 x1_1.1.f0.length p1_1.2], 24⟩]) (by kernel_rfl) ?_
              refine O.q (v := .bool true) (some 126) (Qu.eqv (u := .bool (x15_2.2 != 0)) (v := .bool true) (0, 0) [] (by kernel_rfl) (congrArg Value.bool hc72)) (by kernel_rfl) ?_
              refine O.pure 14 [] [2, 7, 8, 140] [] (fr' := [(2, .int .u8 a2), (7, .pointer (some ⟨p1_6, 0, none⟩)), (8, .int .i64 x1_1.2.1), (140, .bool true)]) (bx' := [⟨p1_6, [.slice p1_1.1 x1_1.1.f0.length p1_1.2], 24⟩]) (by kernel_rfl) ?_
              refine O.nil (by kernel_rfl) ?_
              obtain rfl := Option.some.inj H
              exact J.conv2 [2, 7, 8, 140] [3, 4] [0] [] (by kernel_rfl) (by kernel_rfl) (by kernel_rfl) (by kernel_rfl) (by decide) (hj20 ())
             ·rcases condE H with ⟨hc73, H⟩ | ⟨hc73, H⟩
              ·refine J.region (by kernel_rfl) ?_
               refine O.pure 1 [] [1, 2, 7, 8, 16, 105] [] (fr' := [(1, .int .i64 a1), (2, .int .u8 a2), (7, .pointer (some ⟨p1_6, 0, none⟩)), (8, .int .i64 x1_1.2.1), (16, .int .i64 x15_2.2), (105, .int .i64 a1)]) (bx' := [⟨p1_6, [.slice p1_1.1 x1_1.1.f0.length p1_1.2], 24⟩]) (by kernel_rfl) ?_
               refine O.q (v := .bool true) (some 106) (Qu.eqv (u := .bool (decide (a1 ≥ 1))) (v := .bool true) (0, 0) [] (by kernel_rfl) (congrArg Value.bool hc58)) (by kernel_rfl) ?_
               refine O.pure 3 [] [1, 2, 7, 8, 16, 107, 108, 109] [] (fr' := [(1, .int .i64 a1), (2, .int .u8 a2), (7, .pointer (some ⟨p1_6, 0, none⟩)), (8, .int .i64 x1_1.2.1), (16, .int .i64 x15_2.2), (107, .bool true), (108, .int .i64 a1), (109, .int .i64 x1_1.2.1)]) (bx' := [⟨p1_6, [.slice p1_1.1 x1_1.1.f0.length p1_1.2], 24⟩]) (by kernel_rfl) ?_
               refine O.q (v := .bool false) (some 110) (Qu.eqv (u := .bool (decide (a1 ≤ x1_1.2.1))) (v := .bool false) (0, 0) [] (by kernel_rfl) (congrArg Value.bool hc59)) (by kernel_rfl) ?_
               refine O.pure 8 [] [1, 2, 7, 8, 16, 116, 117, 118] [] (fr' := [(1, .int .i64 a1), (2, .int .u8 a2), (7, .pointer (some ⟨p1_6, 0, none⟩)), (8, .int .i64 x1_1.2.1), (16, .int .i64 x15_2.2), (116, .bool false), (117, .int .i64 a1), (118, .int .i64 x1_1.2.1)]) (bx' := [⟨p1_6, [.slice p1_1.1 x1_1.1.f0.length p1_1.2], 24⟩]) (by kernel_rfl) ?_
               refine O.q (v := .bool true) (some 119) (Qu.eqv (u := .bool (decide (a1 > x1_1.2.1))) (v := .bool true) (0, 0) [] (by kernel_rfl) (congrArg Value.bool hc70)) (by kernel_rfl) ?_
               refine O.pure 2 [] [1, 2, 7, 8, 16, 116, 120, 121] [] (fr' := [(1, .int .i64 a1), (2, .int .u8 a2), (7, .pointer (some ⟨p1_6, 0, none⟩)), (8, .int .i64 x1_1.2.1), (16, .int .i64 x15_2.2), (116, .bool false), (120, .bool true), (121, .int .i64 a1)]) (bx' := [⟨p1_6, [.slice p1_1.1 x1_1.1.f0.length p1_1.2], 24⟩]) (by kernel_rfl) ?_
               refine O.q (v := .bool true) (some 122) (Qu.eqv (u := .bool (decide (a1 ≤ 1099511627776))) (v := .bool true) (0, 0) [] (by kernel_rfl) (congrArg Value.bool hc71)) (by kernel_rfl) ?_
               refine O.pure 3 [] [1, 2, 7, 8, 16, 116, 124, 125] [] (fr' := [(1, .int .i64 a1), (2, .int .u8 a2), (7, .pointer (some ⟨p1_6, 0, none⟩)), (8, .int .i64 x1_1.2.1), (16, .int .i64 x15_2.2), (116, .bool false), (124, .bool true), (125, .int .i64 x15_2.2)]) (bx' := [⟨p1_6, [.slice p1_1.1 x1_1.1.f0.length p1_1.2], 24⟩]) (by kernel_rfl) ?_
               refine O.q (v := .bool false) (some 126) (Qu.eqv (u := .bool (x15_2.2 != 0)) (v := .bool false) (0, 0) [] (by kernel_rfl) (congrArg Value.bool hc72)) (by kernel_rfl) ?_
               refine O.pure 4 [] [1, 2, 7, 8, 16, 129, 130] [] (fr' := [(1, .int .i64 a1), (2, .int .u8 a2), (7, .pointer (some ⟨p1_6, 0, none⟩)), (8, .int .i64 x1_1.2.1), (16, .int .i64 x15_2.2), (129, .bool false), (130, .int .i64 a1)]) (bx' := [⟨p1_6, [.slice p1_1.1 x1_1.1.f0.length p1_1.2], 24⟩]) (by kernel_rfl) ?_
               refine O.q (v := .bool true) (some 131) (Qu.eqv (u := .bool (decide (a1 < 1))) (v := .bool true) (0, 0) [] (by kernel_rfl) (congrArg Value.bool hc73)) (by kernel_rfl) ?_
               refine O.pure 9 [] [2, 7, 8, 140] [] (fr' := [(2, .int .u8 a2), (7, .pointer (some ⟨p1_6, 0, none⟩)), (8, .int .i64 x1_1.2.1), (140, .bool (x15_2.2 != 1))]) (bx' := [⟨p1_6, [.slice p1_1.1 x1_1.1.f0.length p1_1.2], 24⟩]) (by kernel_rfl) ?_
               refine O.nil (by kernel_rfl) ?_
               obtain rfl := Option.some.inj H
               exact J.conv2 [2, 7, 8, 140] [3, 4] [0] [] (by kernel_rfl) (by kernel_rfl) (by kernel_rfl) (by kernel_rfl) (by decide) (hj20 ())
              ·rcases condE H with ⟨hc74, H⟩ | ⟨hc74, H⟩
               ·refine J.region (by kernel_rfl) ?_
                refine O.pure 1 [] [1, 2, 7, 8, 16, 105] [] (fr' := [(1, .int .i64 a1), (2, .int .u8 a2), (7, .pointer (some ⟨p1_6, 0, none⟩)), (8, .int .i64 x1_1.2.1), (16, .int .i64 x15_2.2), (105, .int .i64 a1)]) (bx' := [⟨p1_6, [.slice p1_1.1 x1_1.1.f0.length p1_1.2], 24⟩]) (by kernel_rfl) ?_
                refine O.q (v := .bool true) (some 106) (Qu.eqv (u := .bool (decide (a1 ≥ 1))) (v := .bool true) (0, 0) [] (by kernel_rfl) (congrArg Value.bool hc58)) (by kernel_rfl) ?_
                refine O.pure 3 [] [1, 2, 7, 8, 16, 107, 108, 109] [] (fr' := [(1, .int .i64 a1), (2, .int .u8 a2), (7, .pointer (some ⟨p1_6, 0, none⟩)), (8, .int .i64 x1_1.2.1), (16, .int .i64 x15_2.2), (107, .bool true), (108, .int .i64 a1), (109, .int .i64 x1_1.2.1)]) (bx' := [⟨p1_6, [.slice p1_1.1 x1_1.1.f0.length p1_1.2], 24⟩]) (by kernel_rfl) ?_
                refine O.q (v := .bool false) (some 110) (Qu.eqv (u := .bool (decide (a1 ≤ x1_1.2.1))) (v := .bool false) (0, 0) [] (by kernel_rfl) (congrArg Value.bool hc59)) (by kernel_rfl) ?_
                refine O.pure 8 [] [1, 2, 7, 8, 16, 116, 117, 118] [] (fr' := [(1, .int .i64 a1), (2, .int .u8 a2), (7, .pointer (some ⟨p1_6, 0, none⟩)), (8, .int .i64 x1_1.2.1), (16, .int .i64 x15_2.2), (116, .bool false), (117, .int .i64 a1), (118, .int .i64 x1_1.2.1)]) (bx' := [⟨p1_6, [.slice p1_1.1 x1_1.1.f0.length p1_1.2], 24⟩]) (by kernel_rfl) ?_
                refine O.q (v := .bool true) (some 119) (Qu.eqv (u := .bool (decide (a1 > x1_1.2.1))) (v := .bool true) (0, 0) [] (by kernel_rfl) (congrArg Value.bool hc70)) (by kernel_rfl) ?_
                refine O.pure 2 [] [1, 2, 7, 8, 16, 116, 120, 121] [] (fr' := [(1, .int .i64 a1), (2, .int .u8 a2), (7, .pointer (some ⟨p1_6, 0, none⟩)), (8, .int .i64 x1_1.2.1), (16, .int .i64 x15_2.2), (116, .bool false), (120, .bool true), (121, .int .i64 a1)]) (bx' := [⟨p1_6, [.slice p1_1.1 x1_1.1.f0.length p1_1.2], 24⟩]) (by kernel_rfl) ?_
                refine O.q (v := .bool true) (some 122) (Qu.eqv (u := .bool (decide (a1 ≤ 1099511627776))) (v := .bool true) (0, 0) [] (by kernel_rfl) (congrArg Value.bool hc71)) (by kernel_rfl) ?_
                refine O.pure 3 [] [1, 2, 7, 8, 16, 116, 124, 125] [] (fr' := [(1, .int .i64 a1), (2, .int .u8 a2), (7, .pointer (some ⟨p1_6, 0, none⟩)), (8, .int .i64 x1_1.2.1), (16, .int .i64 x15_2.2), (116, .bool false), (124, .bool true), (125, .int .i64 x15_2.2)]) (bx' := [⟨p1_6, [.slice p1_1.1 x1_1.1.f0.length p1_1.2], 24⟩]) (by kernel_rfl) ?_
                refine O.q (v := .bool false) (some 126) (Qu.eqv (u := .bool (x15_2.2 != 0)) (v := .bool false) (0, 0) [] (by kernel_rfl) (congrArg Value.bool hc72)) (by kernel_rfl) ?_
                refine O.pure 4 [] [1, 2, 7, 8, 16, 129, 130] [] (fr' := [(1, .int .i64 a1), (2, .int .u8 a2), (7, .pointer (some ⟨p1_6, 0, none⟩)), (8, .int .i64 x1_1.2.1), (16, .int .i64 x15_2.2), (129, .bool false), (130, .int .i64 a1)]) (bx' := [⟨p1_6, [.slice p1_1.1 x1_1.1.f0.length p1_1.2], 24⟩]) (by kernel_rfl) ?_
                refine O.q (v := .bool false) (some 131) (Qu.eqv (u := .bool (decide (a1 < 1))) (v := .bool false) (0, 0) [] (by kernel_rfl) (congrArg Value.bool hc73)) (by kernel_rfl) ?_
                refine O.pure 2 [] [2, 7, 8, 16, 129, 132, 133] [] (fr' := [(2, .int .u8 a2), (7, .pointer (some ⟨p1_6, 0, none⟩)), (8, .int .i64 x1_1.2.1), (16, .int .i64 x15_2.2), (129, .bool false), (132, .bool false), (133, .int .i64 a1)]) (bx' := [⟨p1_6, [.slice p1_1.1 x1_1.1.f0.length p1_1.2], 24⟩]) (by kernel_rfl) ?_
                refine O.q (v := .bool true) (some 134) (Qu.eqv (u := .bool (decide (a1 > 1099511627776))) (v := .bool true) (0, 0) [] (by kernel_rfl) (congrArg Value.bool hc74)) (by kernel_rfl) ?_
                refine O.pure 6 [] [2, 7, 8, 140] [] (fr' := [(2, .int .u8 a2), (7, .pointer (some ⟨p1_6, 0, none⟩)), (8, .int .i64 x1_1.2.1), (140, .bool (x15_2.2 != 1))]) (bx' := [⟨p1_6, [.slice p1_1.1 x1_1.1.f0.length p1_1.2], 24⟩]) (by kernel_rfl) ?_
                refine O.nil (by kernel_rfl) ?_
                obtain rfl := Option.some.inj H
                exact J.conv2 [2, 7, 8, 140] [3, 4] [0] [] (by kernel_rfl) (by kernel_rfl) (by kernel_rfl) (by kernel_rfl) (by decide) (hj20 ())
               ·refine J.region (by kernel_rfl) ?_
                refine O.pure 1 [] [1, 2, 7, 8, 16, 105] [] (fr' := [(1, .int .i64 a1), (2, .int .u8 a2), (7, .pointer (some ⟨p1_6, 0, none⟩)), (8, .int .i64 x1_1.2.1), (16, .int .i64 x15_2.2), (105, .int .i64 a1)]) (bx' := [⟨p1_6, [.slice p1_1.1 x1_1.1.f0.length p1_1.2], 24⟩]) (by kernel_rfl) ?_
                refine O.q (v := .bool true) (some 106) (Qu.eqv (u := .bool (decide (a1 ≥ 1))) (v := .bool true) (0, 0) [] (by kernel_rfl) (congrArg Value.bool hc58)) (by kernel_rfl) ?_
                refine O.pure 3 [] [1, 2, 7, 8, 16, 107, 108, 109] [] (fr' := [(1, .int .i64 a1), (2, .int .u8 a2), (7, .pointer (some ⟨p1_6, 0, none⟩)), (8, .int .i64 x1_1.2.1), (16, .int .i64 x15_2.2), (107, .bool true), (108, .int .i64 a1), (109, .int .i64 x1_1.2.1)]) (bx' := [⟨p1_6, [.slice p1_1.1 x1_1.1.f0.length p1_1.2], 24⟩]) (by kernel_rfl) ?_
                refine O.q (v := .bool false) (some 110) (Qu.eqv (u := .bool (decide (a1 ≤ x1_1.2.1))) (v := .bool false) (0, 0) [] (by kernel_rfl) (congrArg Value.bool hc59)) (by kernel_rfl) ?_
                refine O.pure 8 [] [1, 2, 7, 8, 16, 116, 117, 118] [] (fr' := [(1, .int .i64 a1), (2, .int .u8 a2), (7, .pointer (some ⟨p1_6, 0, none⟩)), (8, .int .i64 x1_1.2.1), (16, .int .i64 x15_2.2), (116, .bool false), (117, .int .i64 a1), (118, .int .i64 x1_1.2.1)]) (bx' := [⟨p1_6, [.slice p1_1.1 x1_1.1.f0.length p1_1.2], 24⟩]) (by kernel_rfl) ?_
                refine O.q (v := .bool true) (some 119) (Qu.eqv (u := .bool (decide (a1 > x1_1.2.1))) (v := .bool true) (0, 0) [] (by kernel_rfl) (congrArg Value.bool hc70)) (by kernel_rfl) ?_
                refine O.pure 2 [] [1, 2, 7, 8, 16, 116, 120, 121] [] (fr' := [(1, .int .i64 a1), (2, .int .u8 a2), (7, .pointer (some ⟨p1_6, 0, none⟩)), (8, .int .i64 x1_1.2.1), (16, .int .i64 x15_2.2), (116, .bool false), (120, .bool true), (121, .int .i64 a1)]) (bx' := [⟨p1_6, [.slice p1_1.1 x1_1.1.f0.length p1_1.2], 24⟩]) (by kernel_rfl) ?_
                refine O.q (v := .bool true) (some 122) (Qu.eqv (u := .bool (decide (a1 ≤ 1099511627776))) (v := .bool true) (0, 0) [] (by kernel_rfl) (congrArg Value.bool hc71)) (by kernel_rfl) ?_
                refine O.pure 3 [] [1, 2, 7, 8, 16, 116, 124, 125] [] (fr' := [(1, .int .i64 a1), (2, .int .u8 a2), (7, .pointer (some ⟨p1_6, 0, none⟩)), (8, .int .i64 x1_1.2.1), (16, .int .i64 x15_2.2), (116, .bool false), (124, .bool true), (125, .int .i64 x15_2.2)]) (bx' := [⟨p1_6, [.slice p1_1.1 x1_1.1.f0.length p1_1.2], 24⟩]) (by kernel_rfl) ?_
                refine O.q (v := .bool false) (some 126) (Qu.eqv (u := .bool (x15_2.2 != 0)) (v := .bool false) (0, 0) [] (by kernel_rfl) (congrArg Value.bool hc72)) (by kernel_rfl) ?_
                refine O.pure 4 [] [1, 2, 7, 8, 16, 129, 130] [] (fr' := [(1, .int .i64 a1), (2, .int .u8 a2), (7, .pointer (some ⟨p1_6, 0, none⟩)), (8, .int .i64 x1_1.2.1), (16, .int .i64 x15_2.2), (129, .bool false), (130, .int .i64 a1)]) (bx' := [⟨p1_6, [.slice p1_1.1 x1_1.1.f0.length p1_1.2], 24⟩]) (by kernel_rfl) ?_
                refine O.q (v := .bool false) (some 131) (Qu.eqv (u := .bool (decide (a1 < 1))) (v := .bool false) (0, 0) [] (by kernel_rfl) (congrArg Value.bool hc73)) (by kernel_rfl) ?_
                refine O.pure 2 [] [2, 7, 8, 16, 129, 132, 133] [] (fr' := [(2, .int .u8 a2), (7, .pointer (some ⟨p1_6, 0, none⟩)), (8, .int .i64 x1_1.2.1), (16, .int .i64 x15_2.2), (129, .bool false), (132, .bool false), (133, .int .i64 a1)]) (bx' := [⟨p1_6, [.slice p1_1.1 x1_1.1.f0.length p1_1.2], 24⟩]) (by kernel_rfl) ?_
                refine O.q (v := .bool false) (some 134) (Qu.eqv (u := .bool (decide (a1 > 1099511627776))) (v := .bool false) (0, 0) [] (by kernel_rfl) (congrArg Value.bool hc74)) (by kernel_rfl) ?_
                refine O.pure 6 [] [2, 7, 8, 140] [] (fr' := [(2, .int .u8 a2), (7, .pointer (some ⟨p1_6, 0, none⟩)), (8, .int .i64 x1_1.2.1), (140, .bool false)]) (bx' := [⟨p1_6, [.slice p1_1.1 x1_1.1.f0.length p1_1.2], 24⟩]) (by kernel_rfl) ?_
                refine O.nil (by kernel_rfl) ?_
                obtain rfl := Option.some.inj H
                exact J.conv2 [2, 7, 8, 140] [3, 4] [0] [] (by kernel_rfl) (by kernel_rfl) (by kernel_rfl) (by kernel_rfl) (by decide) (hj20 ())
            ·rcases condE H with ⟨hc75, H⟩ | ⟨hc75, H⟩
             ·refine J.region (by kernel_rfl) ?_
              refine O.pure 1 [] [1, 2, 7, 8, 16, 105] [] (fr' := [(1, .int .i64 a1), (2, .int .u8 a2), (7, .pointer (some ⟨p1_6, 0, none⟩)), (8, .int .i64 x1_1.2.1), (16, .int .i64 x15_2.2), (105, .int .i64 a1)]) (bx' := [⟨p1_6, [.slice p1_1.1 x1_1.1.f0.length p1_1.2], 24⟩]) (by kernel_rfl) ?_
              refine O.q (v := .bool true) (some 106) (Qu.eqv (u := .bool (decide (a1 ≥ 1))) (v := .bool true) (0, 0) [] (by kernel_rfl) (congrArg Value.bool hc58)) (by kernel_rfl) ?_
              refine O.pure 3 [] [1, 2, 7, 8, 16, 107, 108, 109] [] (fr' := [(1, .int .i64 a1), (2, .int .u8 a2), (7, .pointer (some ⟨p1_6, 0, none⟩)), (8, .int .i64 x1_1.2.1), (16, .int .i64 x15_2.2), (107, .bool true), (108, .int .i64 a1), (109, .int .i64 x1_1.2.1)]) (bx' := [⟨p1_6, [.slice p1_1.1 x1_1.1.f0.length p1_1.2], 24⟩]) (by kernel_rfl) ?_
              refine O.q (v := .bool false) (some 110) (Qu.eqv (u := .bool (decide (a1 ≤ x1_1.2.1))) (v := .bool false) (0, 0) [] (by kernel_rfl) (congrArg Value.bool hc59)) (by kernel_rfl) ?_
              refine O.pure 8 [] [1, 2, 7, 8, 16, 116, 117, 118] [] (fr' := [(1, .int .i64 a1), (2, .int .u8 a2), (7, .pointer (some ⟨p1_6, 0, none⟩)), (8, .int .i64 x1_1.2.1), (16, .int .i64 x15_2.2), (116, .bool false), (117, .int .i64 a1), (118, .int .i64 x1_1.2.1)]) (bx' := [⟨p1_6, [.slice p1_1.1 x1_1.1.f0.length p1_1.2], 24⟩]) (by kernel_rfl) ?_
              refine O.q (v := .bool true) (some 119) (Qu.eqv (u := .bool (decide (a1 > x1_1.2.1))) (v := .bool true) (0, 0) [] (by kernel_rfl) (congrArg Value.bool hc70)) (by kernel_rfl) ?_
              refine O.pure 2 [] [1, 2, 7, 8, 16, 116, 120, 121] [] (fr' := [(1, .int .i64 a1), (2, .int .u8 a2), (7, .pointer (some ⟨p1_6, 0, none⟩)), (8, .int .i64 x1_1.2.1), (16, .int .i64 x15_2.2), (116, .bool false), (120, .bool true), (121, .int .i64 a1)]) (bx' := [⟨p1_6, [.slice p1_1.1 x1_1.1.f0.length p1_1.2], 24⟩]) (by kernel_rfl) ?_
              refine O.q (v := .bool false) (some 122) (Qu.eqv (u := .bool (decide (a1 ≤ 1099511627776))) (v := .bool false) (0, 0) [] (by kernel_rfl) (congrArg Value.bool hc71)) (by kernel_rfl) ?_
              refine O.pure 8 [] [1, 2, 7, 8, 16, 129, 130] [] (fr' := [(1, .int .i64 a1), (2, .int .u8 a2), (7, .pointer (some ⟨p1_6, 0, none⟩)), (8, .int .i64 x1_1.2.1), (16, .int .i64 x15_2.2), (129, .bool false), (130, .int .i64 a1)]) (bx' := [⟨p1_6, [.slice p1_1.1 x1_1.1.f0.length p1_1.2], 24⟩]) (by kernel_rfl) ?_
              refine O.q (v := .bool true) (some 131) (Qu.eqv (u := .bool (decide (a1 < 1))) (v := .bool true) (0, 0) [] (by kernel_rfl) (congrArg Value.bool hc75)) (by kernel_rfl) ?_
              refine O.pure 9 [] [2, 7, 8, 140] [] (fr' := [(2, .int .u8 a2), (7, .pointer (some ⟨p1_6, 0, none⟩)), (8, .int .i64 x1_1.2.1), (140, .bool (x15_2.2 != 1))]) (bx' := [⟨p1_6, [.slice p1_1.1 x1_1.1.f0.length p1_1.2], 24⟩]) (by kernel_rfl) ?_
              refine O.nil (by kernel_rfl) ?_
              obtain rfl := Option.some.inj H
              exact J.conv2 [2, 7, 8, 140] [3, 4] [0] [] (by kernel_rfl) (by kernel_rfl) (by kernel_rfl) (by kernel_rfl) (by decide) (hj20 ())
             ·rcases condE H with ⟨hc76, H⟩ | ⟨hc76, H⟩
              ·refine J.region (by kernel_rfl) ?_
               refine O.pure 1 [] [1, 2, 7, 8, 16, 105] [] (fr' := [(1, .int .i64 a1), (2, .int .u8 a2), (7, .pointer (some ⟨p1_6, 0, none⟩)), (8, .int .i64 x1_1.2.1), (16, .int .i64 x15_2.2), (105, .int .i64 a1)]) (bx' := [⟨p1_6, [.slice p1_1.1 x1_1.1.f0.length p1_1.2], 24⟩]) (by kernel_rfl) ?_
               refine O.q (v := .bool true) (some 106) (Qu.eqv (u := .bool (decide (a1 ≥ 1))) (v := .bool true) (0, 0) [] (by kernel_rfl) (congrArg Value.bool hc58)) (by kernel_rfl) ?_
               refine O.pure 3 [] [1, 2, 7, 8, 16, 107, 108, 109] [] (fr' := [(1, .int .i64 a1), (2, .int .u8 a2), (7, .pointer (some ⟨p1_6, 0, none⟩)), (8, .int .i64 x1_1.2.1), (16, .int .i64 x15_2.2), (107, .bool true), (108, .int .i64 a1), (109, .int .i64 x1_1.2.1)]) (bx' := [⟨p1_6, [.slice p1_1.1 x1_1.1.f0.length p1_1.2], 24⟩]) (by kernel_rfl) ?_
               refine O.q (v := .bool false) (some 110) (Qu.eqv (u := .bool (decide (a1 ≤ x1_1.2.1))) (v := .bool false) (0, 0) [] (by kernel_rfl) (congrArg Value.bool hc59)) (by kernel_rfl) ?_
               refine O.pure 8 [] [1, 2, 7, 8, 16, 116, 117, 118] [] (fr' := [(1, .int .i64 a1), (2, .int .u8 a2), (7, .pointer (some ⟨p1_6, 0, none⟩)), (8, .int .i64 x1_1.2.1), (16, .int .i64 x15_2.2), (116, .bool false), (117, .int .i64 a1), (118, .int .i64 x1_1.2.1)]) (bx' := [⟨p1_6, [.slice p1_1.1 x1_1.1.f0.length p1_1.2], 24⟩]) (by kernel_rfl) ?_
               refine O.q (v := .bool true) (some 119) (Qu.eqv (u := .bool (decide (a1 > x1_1.2.1))) (v := .bool true) (0, 0) [] (by kernel_rfl) (congrArg Value.bool hc70)) (by kernel_rfl) ?_
               refine O.pure 2 [] [1, 2, 7, 8, 16, 116, 120, 121] [] (fr' := [(1, .int .i64 a1), (2, .int .u8 a2), (7, .pointer (some ⟨p1_6, 0, none⟩)), (8, .int .i64 x1_1.2.1), (16, .int .i64 x15_2.2), (116, .bool false), (120, .bool true), (121, .int .i64 a1)]) (bx' := [⟨p1_6, [.slice p1_1.1 x1_1.1.f0.length p1_1.2], 24⟩]) (by kernel_rfl) ?_
               refine O.q (v := .bool false) (some 122) (Qu.eqv (u := .bool (decide (a1 ≤ 1099511627776))) (v := .bool false) (0, 0) [] (by kernel_rfl) (congrArg Value.bool hc71)) (by kernel_rfl) ?_
               refine O.pure 8 [] [1, 2, 7, 8, 16, 129, 130] [] (fr' := [(1, .int .i64 a1), (2, .int .u8 a2), (7, .pointer (some ⟨p1_6, 0, none⟩)), (8, .int .i64 x1_1.2.1), (16, .int .i64 x15_2.2), (129, .bool false), (130, .int .i64 a1)]) (bx' := [⟨p1_6, [.slice p1_1.1 x1_1.1.f0.length p1_1.2], 24⟩]) (by kernel_rfl) ?_
               refine O.q (v := .bool false) (some 131) (Qu.eqv (u := .bool (decide (a1 < 1))) (v := .bool false) (0, 0) [] (by kernel_rfl) (congrArg Value.bool hc75)) (by kernel_rfl) ?_
               refine O.pure 2 [] [2, 7, 8, 16, 129, 132, 133] [] (fr' := [(2, .int .u8 a2), (7, .pointer (some ⟨p1_6, 0, none⟩)), (8, .int .i64 x1_1.2.1), (16, .int .i64 x15_2.2), (129, .bool false), (132, .bool false), (133, .int .i64 a1)]) (bx' := [⟨p1_6, [.slice p1_1.1 x1_1.1.f0.length p1_1.2], 24⟩]) (by kernel_rfl) ?_
               refine O.q (v := .bool true) (some 134) (Qu.eqv (u := .bool (decide (a1 > 1099511627776))) (v := .bool true) (0, 0) [] (by kernel_rfl) (congrArg Value.bool hc76)) (by kernel_rfl) ?_
               refine O.pure 6 [] [2, 7, 8, 140] [] (fr' := [(2, .int .u8 a2), (7, .pointer (some ⟨p1_6, 0, none⟩)), (8, .int .i64 x1_1.2.1), (140, .bool (x15_2.2 != 1))]) (bx' := [⟨p1_6, [.slice p1_1.1 x1_1.1.f0.length p1_1.2], 24⟩]) (by kernel_rfl) ?_
               refine O.nil (by kernel_rfl) ?_
               obtain rfl := Option.some.inj H
               exact J.conv2 [2, 7, 8, 140] [3, 4] [0] [] (by kernel_rfl) (by kernel_rfl) (by kernel_rfl) (by kernel_rfl) (by decide) (hj20 ())
              ·refine J.region (by kernel_rfl) ?_
               refine O.pure 1 [] [1, 2, 7, 8, 16, 105] [] (fr' := [(1, .int .i64 a1), (2, .int .u8 a2), (7, .pointer (some ⟨p1_6, 0, none⟩)), (8, .int .i64 x1_1.2.1), (16, .int .i64 x15_2.2), (105, .int .i64 a1)]) (bx' := [⟨p1_6, [.slice p1_1.1 x1_1.1.f0.length p1_1.2], 24⟩]) (by kernel_rfl) ?_
               refine O.q (v := .bool true) (some 106) (Qu.eqv (u := .bool (decide (a1 ≥ 1))) (v := .bool true) (0, 0) [] (by kernel_rfl) (congrArg Value.bool hc58)) (by kernel_rfl) ?_
               refine O.pure 3 [] [1, 2, 7, 8, 16, 107, 108, 109] [] (fr' := [(1, .int .i64 a1), (2, .int .u8 a2), (7, .pointer (some ⟨p1_6, 0, none⟩)), (8, .int .i64 x1_1.2.1), (16, .int .i64 x15_2.2), (107, .bool true), (108, .int .i64 a1), (109, .int .i64 x1_1.2.1)]) (bx' := [⟨p1_6, [.slice p1_1.1 x1_1.1.f0.length p1_1.2], 24⟩]) (by kernel_rfl) ?_
               refine O.q (v := .bool false) (some 110) (Qu.eqv (u := .bool (decide (a1 ≤ x1_1.2.1))) (v := .bool false) (0, 0) [] (by kernel_rfl) (congrArg Value.bool hc59)) (by kernel_rfl) ?_
               refine O.pure 8 [] [1, 2, 7, 8, 16, 116, 117, 118] [] (fr' := [(1, .int .i64 a1), (2, .int .u8 a2), (7, .pointer (some ⟨p1_6, 0, none⟩)), (8, .int .i64 x1_1.2.1), (16, .int .i64 x15_2.2), (116, .bool false), (117, .int .i64 a1), (118, .int .i64 x1_1.2.1)]) (bx' := [⟨p1_6, [.slice p1_1.1 x1_1.1.f0.length p1_1.2], 24⟩]) (by kernel_rfl) ?_
               refine O.q (v := .bool true) (some 119) (Qu.eqv (u := .bool (decide (a1 > x1_1.2.1))) (v := .bool true) (0, 0) [] (by kernel_rfl) (congrArg Value.bool hc70)) (by kernel_rfl) ?_
               refine O.pure 2 [] [1, 2, 7, 8, 16, 116, 120, 121] [] (fr' := [(1, .int .i64 a1), (2, .int .u8 a2), (7, .pointer (some ⟨p1_6, 0, none⟩)), (8, .int .i64 x1_1.2.1), (16, .int .i64 x15_2.2), (116, .bool false), (120, .bool true), (121, .int .i64 a1)]) (bx' := [⟨p1_6, [.slice p1_1.1 x1_1.1.f0.length p1_1.2], 24⟩]) (by kernel_rfl) ?_
               refine O.q (v := .bool false) (some 122) (Qu.eqv (u := .bool (decide (a1 ≤ 1099511627776))) (v := .bool false) (0, 0) [] (by kernel_rfl) (congrArg Value.bool hc71)) (by kernel_rfl) ?_
               refine O.pure 8 [] [1, 2, 7, 8, 16, 129, 130] [] (fr' := [(1, .int .i64 a1), (2, .int .u8 a2), (7, .pointer (some ⟨p1_6, 0, none⟩)), (8, .int .i64 x1_1.2.1), (16, .int .i64 x15_2.2), (129, .bool false), (130, .int .i64 a1)]) (bx' := [⟨p1_6, [.slice p1_1.1 x1_1.1.f0.length p1_1.2], 24⟩]) (by kernel_rfl) ?_
               refine O.q (v := .bool false) (some 131) (Qu.eqv (u := .bool (decide (a1 < 1))) (v := .bool false) (0, 0) [] (by kernel_rfl) (congrArg Value.bool hc75)) (by kernel_rfl) ?_
               refine O.pure 2 [] [2, 7, 8, 16, 129, 132, 133] [] (fr' := [(2, .int .u8 a2), (7, .pointer (some ⟨p1_6, 0, none⟩)), (8, .int .i64 x1_1.2.1), (16, .int .i64 x15_2.2), (129, .bool false), (132, .bool false), (133, .int .i64 a1)]) (bx' := [⟨p1_6, [.slice p1_1.1 x1_1.1.f0.length p1_1.2], 24⟩]) (by kernel_rfl) ?_
               refine O.q (v := .bool false) (some 134) (Qu.eqv (u := .bool (decide (a1 > 1099511627776))) (v := .bool false) (0, 0) [] (by kernel_rfl) (congrArg Value.bool hc76)) (by kernel_rfl) ?_
               refine O.pure 6 [] [2, 7, 8, 140] [] (fr' := [(2, .int .u8 a2), (7, .pointer (some ⟨p1_6, 0, none⟩)), (8, .int .i64 x1_1.2.1), (140, .bool false)]) (bx' := [⟨p1_6, [.slice p1_1.1 x1_1.1.f0.length p1_1.2], 24⟩]) (by kernel_rfl) ?_
               refine O.nil (by kernel_rfl) ?_
               obtain rfl := Option.some.inj H
               exact J.conv2 [2, 7, 8, 140] [3, 4] [0] [] (by kernel_rfl) (by kernel_rfl) (by kernel_rfl) (by kernel_rfl) (by decide) (hj20 ())
           ·rcases condE H with ⟨hc77, H⟩ | ⟨hc77, H⟩
            ·refine J.region (by kernel_rfl) ?_
             refine O.pure 1 [] [1, 2, 7, 8, 16, 105] [] (fr' := [(1, .int .i64 a1), (2, .int .u8 a2), (7, .pointer (some ⟨p1_6, 0, none⟩)), (8, .int .i64 x1_1.2.1), (16, .int .i64 x15_2.2), (105, .int .i64 a1)]) (bx' := [⟨p1_6, [.slice p1_1.1 x1_1.1.f0.length p1_1.2], 24⟩]) (by kernel_rfl) ?_
             refine O.q (v := .bool true) (some 106) (Qu.eqv (u := .bool (decide (a1 ≥ 1))) (v := .bool true) (0, 0) [] (by kernel_rfl) (congrArg Value.bool hc58)) (by kernel_rfl) ?_
             refine O.pure 3 [] [1, 2, 7, 8, 16, 107, 108, 109] [] (fr' := [(1, .int .i64 a1), (2, .int .u8 a2), (7, .pointer (some ⟨p1_6, 0, none⟩)), (8, .int .i64 x1_1.2.1), (16, .int .i64 x15_2.2), (107, .bool true), (108, .int .i64 a1), (109, .int .i64 x1_1.2.1)]) (bx' := [⟨p1_6, [.slice p1_1.1 x1_1.1.f0.length p1_1.2], 24⟩]) (by kernel_rfl) ?_
             refine O.q (v := .bool false) (some 110) (Qu.eqv (u := .bool (decide (a1 ≤ x1_1.2.1))) (v := .bool false) (0, 0) [] (by kernel_rfl) (congrArg Value.bool hc59)) (by kernel_rfl) ?_
             refine O.pure 8 [] [1, 2, 7, 8, 16, 116, 117, 118] [] (fr' := [(1, .int .i64 a1), (2, .int .u8 a2), (7, .pointer (some ⟨p1_6, 0, none⟩)), (8, .int .i64 x1_1.2.1), (16, .int .i64 x15_2.2), (116, .bool false), (117, .int .i64 a1), (118, .int .i64 x1_1.2.1)]) (bx' := [⟨p1_6, [.slice p1_1.1 x1_1.1.f0.length p1_1.2], 24⟩]) (by kernel_rfl) ?_
             refine O.q (v := .bool false) (some 119) (Qu.eqv (u := .bool (decide (a1 > x1_1.2.1))) (v := .bool false) (0, 0) [] (by kernel_rfl) (congrArg Value.bool hc70)) (by kernel_rfl) ?_
             refine O.pure 11 [] [1, 2, 7, 8, 16, 129, 130] [] (fr' := [(1, .int .i64 a1), (2, .int .u8 a2), (7, .pointer (some ⟨p1_6, 0, none⟩)), (8, .int .i64 x1_1.2.1), (16, .int .i64 x15_2.2), (129, .bool false), (130, .int .i64 a1)]) (bx' := [⟨p1_6, [.slice p1_1.1 x1_1.1.f0.length p1_1.2], 24⟩]) (by kernel_rfl) ?_
             refine O.q (v := .bool true) (some 131) (Qu.eqv (u := .bool (decide (a1 < 1))) (v := .bool true) (0, 0) [] (by kernel_rfl) (congrArg Value.bool hc77)) (by kernel_rfl) ?_
             refine O.pure 9 [] [2, 7, 8, 140] [] (fr' := [(2, .int .u8 a2), (7, .pointer (some ⟨p1_6, 0, none⟩)), (8, .int .i64 x1_1.2.1), (140, .bool (x15_2.2 != 1))]) (bx' := [⟨p1_6, [.slice p1_1.1 x1_1.1.f0.length p1_1.2], 24⟩]) (by kernel_rfl) ?_
             refine O.nil (by kernel_rfl) ?_
             obtain rfl := Option.some.inj H
             exact J.conv2 [2, 7, 8, 140] [3, 4] [0] [] (by kernel_rfl) (by kernel_rfl) (by kernel_rfl) (by kernel_rfl) (by decide) (hj20 ())
            ·rcases condE H with ⟨hc78, H⟩ | ⟨hc78, H⟩
             ·refine J.region (by kernel_rfl) ?_
              refine O.pure 1 [] [1, 2, 7, 8, 16, 105] [] (fr' := [(1, .int .i64 a1), (2, .int .u8 a2), (7, .pointer (some ⟨p1_6, 0, none⟩)), (8, .int .i64 x1_1.2.1), (16, .int .i64 x15_2.2), (105, .int .i64 a1)]) (bx' := [⟨p1_6, [.slice p1_1.1 x1_1.1.f0.length p1_1.2], 24⟩]) (by kernel_rfl) ?_
              refine O.q (v := .bool true) (some 106) (Qu.eqv (u := .bool (decide (a1 ≥ 1))) (v := .bool true) (0, 0) [] (by kernel_rfl) (congrArg Value.bool hc58)) (by kernel_rfl) ?_
              refine O.pure 3 [] [1, 2, 7, 8, 16, 107, 108, 109] [] (fr' := [(1, .int .i64 a1), (2, .int .u8 a2), (7, .pointer (some ⟨p1_6, 0, none⟩)), (8, .int .i64 x1_1.2.1), (16, .int .i64 x15_2.2), (107, .bool true), (108, .int .i64 a1), (109, .int .i64 x1_1.2.1)]) (bx' := [⟨p1_6, [.slice p1_1.1 x1_1.1.f0.length p1_1.2], 24⟩]) (by kernel_rfl) ?_
              refine O.q (v := .bool false) (some 110) (Qu.eqv (u := .bool (decide (a1 ≤ x1_1.2.1))) (v := .bool false) (0, 0) [] (by kernel_rfl) (congrArg Value.bool hc59)) (by kernel_rfl) ?_
              refine O.pure 8 [] [1, 2, 7, 8, 16, 116, 117, 118] [] (fr' := [(1, .int .i64 a1), (2, .int .u8 a2), (7, .pointer (some ⟨p1_6, 0, none⟩)), (8, .int .i64 x1_1.2.1), (16, .int .i64 x15_2.2), (116, .bool false), (117, .int .i64 a1), (118, .int .i64 x1_1.2.1)]) (bx' := [⟨p1_6, [.slice p1_1.1 x1_1.1.f0.length p1_1.2], 24⟩]) (by kernel_rfl) ?_
              refine O.q (v := .bool false) (some 119) (Qu.eqv (u := .bool (decide (a1 > x1_1.2.1))) (v := .bool false) (0, 0) [] (by kernel_rfl) (congrArg Value.bool hc70)) (by kernel_rfl) ?_
              refine O.pure 11 [] [1, 2, 7, 8, 16, 129, 130] [] (fr' := [(1, .int .i64 a1), (2, .int .u8 a2), (7, .pointer (some ⟨p1_6, 0, none⟩)), (8, .int .i64 x1_1.2.1), (16, .int .i64 x15_2.2), (129, .bool false), (130, .int .i64 a1)]) (bx' := [⟨p1_6, [.slice p1_1.1 x1_1.1.f0.length p1_1.2], 24⟩]) (by kernel_rfl) ?_
              refine O.q (v := .bool false) (some 131) (Qu.eqv (u := .bool (decide (a1 < 1))) (v := .bool false) (0, 0) [] (by kernel_rfl) (congrArg Value.bool hc77)) (by kernel_rfl) ?_
              refine O.pure 2 [] [2, 7, 8, 16, 129, 132, 133] [] (fr' := [(2, .int .u8 a2), (7, .pointer (some ⟨p1_6, 0, none⟩)), (8, .int .i64 x1_1.2.1), (16, .int .i64 x15_2.2), (129, .bool false), (132, .bool false), (133, .int .i64 a1)]) (bx' := [⟨p1_6, [.slice p1_1.1 x1_1.1.f0.length p1_1.2], 24⟩]) (by kernel_rfl) ?_
              refine O.q (v := .bool true) (some 134) (Qu.eqv (u := .bool (decide (a1 > 1099511627776))) (v := .bool true) (0, 0) [] (by kernel_rfl) (congrArg Value.bool hc78)) (by kernel_rfl) ?_
              refine O.pure 6 [] [2, 7, 8, 140] [] (fr' := [(2, .int .u8 a2), (7, .pointer (some ⟨p1_6, 0, none⟩)), (8, .int .i64 x1_1.2.1), (140, .bool (x15_2.2 != 1))]) (bx' := [⟨p1_6, [.slice p1_1.1 x1_1.1.f0.length p1_1.2], 24⟩]) (by kernel_rfl) ?_
              refine O.nil (by kernel_rfl) ?_
              obtain rfl := Option.some.inj H
              exact J.conv2 [2, 7, 8, 140] [3, 4] [0] [] (by kernel_rfl) (by kernel_rfl) (by kernel_rfl) (by kernel_rfl) (by decide) (hj20 ())
             ·refine J.region (by kernel_rfl) ?_
              refine O.pure 1 [] [1, 2, 7, 8, 16, 105] [] (fr' := [(1, .int .i64 a1), (2, .int .u8 a2), (7, .pointer (some ⟨p1_6, 0, none⟩)), (8, .int .i64 x1_1.2.1), (16, .int .i64 x15_2.2), (105, .int .i64 a1)]) (bx' := [⟨p1_6, [.slice p1_1.1 x1_1.1.f0.length p1_1.2], 24⟩]) (by kernel_rfl) ?_
              refine O.q (v := .bool true) (some 106) (Qu.eqv (u := .bool (decide (a1 ≥ 1))) (v := .bool true) (0, 0) [] (by kernel_rfl) (congrArg Value.bool hc58)) (by kernel_rfl) ?_
              refine O.pure 3 [] [1, 2, 7, 8, 16, 107, 108, 109] [] (fr' := [(1, .int .i64 a1), (2, .int .u8 a2), (7, .pointer (some ⟨p1_6, 0, none⟩)), (8, .int .i64 x1_1.2.1), (16, .int .i64 x15_2.2), (107, .bool true), (108, .int .i64 a1), (109, .int .i64 x1_1.2.1)]) (bx' := [⟨p1_6, [.slice p1_1.1 x1_1.1.f0.length p1_1.2], 24⟩]) (by kernel_rfl) ?_
              refine O.q (v := .bool false) (some 110) (Qu.eqv (u := .bool (decide (a1 ≤ x1_1.2.1))) (v := .bool false) (0, 0) [] (by kernel_rfl) (congrArg Value.bool hc59)) (by kernel_rfl) ?_
              refine O.pure 8 [] [1, 2, 7, 8, 16, 116, 117, 118] [] (fr' := [(1, .int .i64 a1), (2, .int .u8 a2), (7, .pointer (some ⟨p1_6, 0, none⟩)), (8, .int .i64 x1_1.2.1), (16, .int .i64 x15_2.2), (116, .bool false), (117, .int .i64 a1), (118, .int .i64 x1_1.2.1)]) (bx' := [⟨p1_6, [.slice p1_1.1 x1_1.1.f0.length p1_1.2], 24⟩]) (by kernel_rfl) ?_
              refine O.q (v := .bool false) (some 119) (Qu.eqv (u := .bool (decide (a1 > x1_1.2.1))) (v := .bool false) (0, 0) [] (by kernel_rfl) (congrArg Value.bool hc70)) (by kernel_rfl) ?_
              refine O.pure 11 [] [1, 2, 7, 8, 16, 129, 130] [] (fr' := [(1, .int .i64 a1), (2, .int .u8 a2), (7, .pointer (some ⟨p1_6, 0, none⟩)), (8, .int .i64 x1_1.2.1), (16, .int .i64 x15_2.2), (129, .bool false), (130, .int .i64 a1)]) (bx' := [⟨p1_6, [.slice p1_1.1 x1_1.1.f0.length p1_1.2], 24⟩]) (by kernel_rfl) ?_
              refine O.q (v := .bool false) (some 131) (Qu.eqv (u := .bool (decide (a1 < 1))) (v := .bool false) (0, 0) [] (by kernel_rfl) (congrArg Value.bool hc77)) (by kernel_rfl) ?_
              refine O.pure 2 [] [2, 7, 8, 16, 129, 132, 133] [] (fr' := [(2, .int .u8 a2), (7, .pointer (some ⟨p1_6, 0, none⟩)), (8, .int .i64 x1_1.2.1), (16, .int .i64 x15_2.2), (129, .bool false), (132, .bool false), (133, .int .i64 a1)]) (bx' := [⟨p1_6, [.slice p1_1.1 x1_1.1.f0.length p1_1.2], 24⟩]) (by kernel_rfl) ?_
              refine O.q (v := .bool false) (some 134) (Qu.eqv (u := .bool (decide (a1 > 1099511627776))) (v := .bool false) (0, 0) [] (by kernel_rfl) (congrArg Value.bool hc78)) (by kernel_rfl) ?_
              refine O.pure 6 [] [2, 7, 8, 140] [] (fr' := [(2, .int .u8 a2), (7, .pointer (some ⟨p1_6, 0, none⟩)), (8, .int .i64 x1_1.2.1), (140, .bool false)]) (bx' := [⟨p1_6, [.slice p1_1.1 x1_1.1.f0.length p1_1.2], 24⟩]) (by kernel_rfl) ?_
              refine O.nil (by kernel_rfl) ?_
              obtain rfl := Option.some.inj H
              exact J.conv2 [2, 7, 8, 140] [3, 4] [0] [] (by kernel_rfl) (by kernel_rfl) (by kernel_rfl) (by kernel_rfl) (by decide) (hj20 ())
         ·rcases condE H with ⟨hc79, H⟩ | ⟨hc79, H⟩
          ·rcases condE H with ⟨hc80, H⟩ | ⟨hc80, H⟩
           ·rcases condE H with ⟨hc81, H⟩ | ⟨hc81, H⟩
            ·refine J.region (by kernel_rfl) ?_
             refine O.pure 1 [] [1, 2, 7, 8, 16, 105] [] (fr' := [(1, .int .i64 a1), (2, .int .u8 a2), (7, .pointer (some ⟨p1_6, 0, none⟩)), (8, .int .i64 x1_1.2.1), (16, .int .i64 x15_2.2), (105, .int .i64 a1)]) (bx' := [⟨p1_6, [.slice p1_1.1 x1_1.1.f0.length p1_1.2], 24⟩]) (by kernel_rfl) ?_
             refine O.q (v := .bool false) (some 106) (Qu.eqv (u := .bool (decide (a1 ≥ 1))) (v := .bool false) (0, 0) [] (by kernel_rfl) (congrArg Value.bool hc58)) (by kernel_rfl) ?_
             refine O.pure 12 [] [1, 2, 7, 8, 16, 116, 117, 118] [] (fr' := [(1, .int .i64 a1), (2, .int .u8 a2), (7, .pointer (some ⟨p1_6, 0, none⟩)), (8, .int .i64 x1_1.2.1), (16, .int .i64 x15_2.2), (116, .bool false), (117, .int .i64 a1), (118, .int .i64 x1_1.2.1)]) (bx' := [⟨p1_6, [.slice p1_1.1 x1_1.1.f0.length p1_1.2], 24⟩]) (by kernel_rfl) ?_
             refine O.q (v := .bool true) (some 119) (Qu.eqv (u := .bool (decide (a1 > x1_1.2.1))) (v := .bool true) (0, 0) [] (by kernel_rfl) (congrArg Value.bool hc79)) (by kernel_rfl) ?_
             refine O.pure 2 [] [1, 2, 7, 8, 16, 116, 120, 121] [] (fr' := [(1, .int .i64 a1), (2, .int .u8 a2), (7, .pointer (some ⟨p1_6, 0, none⟩)), (8, .int .i64 x1_1.2.1), (16, .int .i64 x15_2.2), (116, .bool false), (120, .bool true), (121, .int .i64 a1)]) (bx' := [⟨p1_6, [.slice p1_1.1 x1_1.1.f0.length p1_1.2], 24⟩]) (by kernel_rfl) ?_
             refine O.q (v := .bool true) (some 122) (Qu.eqv (u := .bool (decide (a1 ≤ 1099511627776))) (v := .bool true) (0, 0) [] (by kernel_rfl) (congrArg Value.bool hc80)) (by kernel_rfl) ?_
             refine O.pure 3 [] [1, 2, 7, 8, 16, 116, 124, 125] [] (fr' := [(1, .int .i64 a1), (2, .int .u8 a2), (7, .pointer (some ⟨p1_6, 0, none⟩)), (8, .int .i64 x1_1.2.1), (16, .int .i64 x15_2.2), (116, .bool false), (124, .bool true), (125, .int .i64 x15_2.2)]) (bx' := [⟨p1_6, [.slice p1_1.1 x1_1.1.f0.length p1_1.2], 24⟩]) (by kernel_rfl) ?_
             refine O.q (v := .bool true) (some 126) (Qu.eqv (u := .bool (x15_2.2 != 0)) (v := .bool true) (0, 0) [] (by kernel_rfl) (congrArg Value.bool hc81)) (by kernel_rfl) ?_
             refine O.pure 14 [] [2, 7, 8, 140] [] (fr' := [(2, .int .u8 a2), (7, .pointer (some ⟨p1_6, 0, none⟩)), (8, .int .i64 x1_1.2.1), (140, .bool true)]) (bx' := [⟨p1_6, [.slice p1_1.1 x1_1.1.f0.length p1_1.2], 24⟩]) (by kernel_rfl) ?_
             refine O.nil (by kernel_rfl) ?_
             obtain rfl := Option.some.inj H
             exact J.conv2 [2, 7, 8, 140] [3, 4] [0] [] (by kernel_rfl) (by kernel_rfl) (by kernel_rfl) (by kernel_rfl) (by decide) (hj20 ())
            ·rcases condE H with ⟨hc82, H⟩ | ⟨hc82, H⟩
             ·refine J.region (by kernel_rfl) ?_
              refine O.pure 1 [] [1, 2, 7, 8, 16, 105] [] (fr' := [(1, .int .i64 a1), (2, .int .u8 a2), (7, .pointer (some ⟨p1_6, 0, none⟩)), (8, .int .i64 x1_1.2.1), (16, .int .i64 x15_2.2), (105, .int .i64 a1)]) (bx' := [⟨p1_6, [.slice p1_1.1 x1_1.1.f0.length p1_1.2], 24⟩]) (by kernel_rfl) ?_
              refine O.q (v := .bool false) (some 106) (Qu.eqv (u := .bool (decide (a1 ≥ 1))) (v := .bool false) (0, 0) [] (by kernel_rfl) (congrArg Value.bool hc58)) (by kernel_rfl) ?_
              refine O.pure 12 [] [1, 2, 7, 8, 16, 116, 117, 118] [] (fr' := [(1, .int .i64 a1), (2, .int .u8 a2), (7, .pointer (some ⟨p1_6, 0, none⟩)), (8, .int .i64 x1_1.2.1), (16, .int .i64 x15_2.2), (116, .bool false), (117, .int .i64 a1), (118, .int .i64 x1_1.2.1)]) (bx' := [⟨p1_6, [.slice p1_1.1 x1_1.1.f0.length p1_1.2], 24⟩]) (by kernel_rfl) ?_
              refine O.q (v := .bool true) (some 119) (Qu.eqv (u := .bool (decide (a1 > x1_1.2.1))) (v := .bool true) (0, 0) [] (by kernel_rfl) (congrArg Value.bool hc79)) (by kernel_rfl) ?_
              refine O.pure 2 [] [1, 2, 7, 8, 16, 116, 120, 121] [] (fr' := [(1, .int .i64 a1), (2, .int .u8 a2), (7, .pointer (some ⟨p1_6, 0, none⟩)), (8, .int .i64 x1_1.2.1), (16, .int .i64 x15_2.2), (116, .bool false), (120, .bool true), (121, .int .i64 a1)]) (bx' := [⟨p1_6, [.slice p1_1.1 x1_1.1.f0.length p1_1.2], 24⟩]) (by kernel_rfl) ?_
              refine O.q (v := .bool true) (some 122) (Qu.eqv (u := .bool (decide (a1 ≤ 1099511627776))) (v := .bool true) (0, 0) [] (by kernel_rfl) (congrArg Value.bool hc80)) (by kernel_rfl) ?_
              refine O.pure 3 [] [1, 2, 7, 8, 16, 116, 124, 125] [] (fr' := [(1, .int .i64 a1), (2, .int .u8 a2), (7, .pointer (some ⟨p1_6, 0, none⟩)), (8, .int .i64 x1_1.2.1), (16, .int .i64 x15_2.2), (116, .bool false), (124, .bool true), (125, .int .i64 x15_2.2)]) (bx' := [⟨p1_6, [.slice p1_1.1 x1_1.1.f0.length p1_1.2], 24⟩]) (by kernel_rfl) ?_
              refine O.q (v := .bool false) (some 126) (Qu.eqv (u := .bool (x15_2.2 != 0)) (v := .bool false) (0, 0) [] (by kernel_rfl) (congrArg Value.bool hc81)) (by kernel_rfl) ?_
              refine O.pure 4 [] [1, 2, 7, 8, 16, 129, 130] [] (fr' := [(1, .int .i64 a1), (2, .int .u8 a2), (7, .pointer (some ⟨p1_6, 0, none⟩)), (8, .int .i64 x1_1.2.1), (16, .int .i64 x15_2.2), (129, .bool false), (130, .int .i64 a1)]) (bx' := [⟨p1_6, [.slice p1_1.1 x1_1.1.f0.length p1_1.2], 24⟩]) (by kernel_rfl) ?_
              refine O.q (v := .bool true) (some 131) (Qu.eqv (u := .bool (decide (a1 < 1))) (v := .bool true) (0, 0) [] (by kernel_rfl) (congrArg Value.bool hc82)) (by kernel_rfl) ?_
              refine O.pure 9 [] [2, 7, 8, 140] [] (fr' := [(2, .int .u8 a2), (7, .pointer (some ⟨p1_6, 0, none⟩)), (8, .int .i64 x1_1.2.1), (140, .bool (x15_2.2 != 1))]) (bx' := [⟨p1_6, [.slice p1_1.1 x1_1.1.f0.length p1_1.2], 24⟩]) (by kernel_rfl) ?_
              refine O.nil (by kernel_rfl) ?_
              obtain rfl := Option.some.inj H
              exact J.conv2 [2, 7, 8, 140] [3, 4] [0] [] (by kernel_rfl) (by kernel_rfl) (by kernel_rfl) (by kernel_rfl) (by decide) (hj20 ())
             ·rcases condE H with ⟨hc83, H⟩ | ⟨hc83, H⟩
              ·refine J.region (by kernel_rfl) ?_
               refine O.pure 1 [] [1, 2, 7, 8, 16, 105] [] (fr' := [(1, .int .i64 a1), (2, .int .u8 a2), (7, .pointer (some ⟨p1_6, 0, none⟩)), (8, .int .i64 x1_1.2.1), (16, .int .i64 x15_2.2), (105, .int .i64 a1)]) (bx' := [⟨p1_6, [.slice p1_1.1 x1_1.1.f0.length p1_1.2], 24⟩]) (by kernel_rfl) ?_
               refine O.q (v := .bool false) (some 106) (Qu.eqv (u := .bool (decide (a1 ≥ 1))) (v := .bool false) (0, 0) [] (by kernel_rfl) (congrArg Value.bool hc58)) (by kernel_rfl) ?_
               refine O.pure 12 [] [1, 2, 7, 8, 16, 116, 117, 118] [] (fr' := [(1, .int .i64 a1), (2, .int .u8 a2), (7, .pointer (some ⟨p1_6, 0, none⟩)), (8, .int .i64 x1_1.2.1), (16, .int .i64 x15_2.2), (116, .bool false), (117, .int .i64 a1), (118, .int .i64 x1_1.2.1)]) (bx' := [⟨p1_6, [.slice p1_1.1 x1_1.1.f0.length p1_1.2], 24⟩]) (by kernel_rfl) ?_
               refine O.q (v := .bool true) (some 119) (Qu.eqv (u := .bool (decide (a1 > x1_1.2.1))) (v := .bool true) (0, 0) [] (by kernel_rfl) (congrArg Value.bool hc79)) (by kernel_rfl) ?_
               refine O.pure 2 [] [1, 2, 7, 8, 16, 116, 120, 121] [] (fr' := [(1, .int .i64 a1), (2, .int .u8 a2), (7, .pointer (some ⟨p1_6, 0, none⟩)), (8, .int .i64 x1_1.2.1), (16, .int .i64 x15_2.2), (116, .bool false), (120, .bool true), (121, .int .i64 a1)]) (bx' := [⟨p1_6, [.slice p1_1.1 x1_1.1.f0.length p1_1.2], 24⟩]) (by kernel_rfl) ?_
               refine O.q (v := .bool true) (some 122) (Qu.eqv (u := .bool (decide (a1 ≤ 1099511627776))) (v := .bool true) (0, 0) [] (by kernel_rfl) (congrArg Value.bool hc80)) (by kernel_rfl) ?_
               refine O.pure 3 [] [1, 2, 7, 8, 16, 116, 124, 125] [] (fr' := [(1, .int .i64 a1), (2, .int .u8 a2), (7, .pointer (some ⟨p1_6, 0, none⟩)), (8, .int .i64 x1_1.2.1), (16, .int .i64 x15_2.2), (116, .bool false), (124, .bool true), (125, .int .i64 x15_2.2)]) (bx' := [⟨p1_6, [.slice p1_1.1 x1_1.1.f0.length p1_1.2], 24⟩]) (by kernel_rfl) ?_
               refine O.q (v := .bool false) (some 126) (Qu.eqv (u := .bool (x15_2.2 != 0)) (v := .bool false) (0, 0) [] (by kernel_rfl) (congrArg Value.bool hc81)) (by kernel_rfl) ?_
               refine O.pure 4 [] [1, 2, 7, 8, 16, 129, 130] [] (fr' := [(1, .int .i64 a1), (2, .int .u8 a2), (7, .pointer (some ⟨p1_6, 0, none⟩)), (8, .int .i64 x1_1.2.1), (16, .int .i64 x15_2.2), (129, .bool false), (130, .int .i64 a1)]) (bx' := [⟨p1_6, [.slice p1_1.1 x1_1.1.f0.length p1_1.2], 24⟩]) (by kernel_rfl) ?_
               refine O.q (v := .bool false) (some 131) (Qu.eqv (u := .bool (decide (a1 < 1))) (v := .bool false) (0, 0) [] (by kernel_rfl) (congrArg Value.bool hc82)) (by kernel_rfl) ?_
               refine O.pure 2 [] [2, 7, 8, 16, 129, 132, 133] [] (fr' := [(2, .int .u8 a2), (7, .pointer (some ⟨p1_6, 0, none⟩)), (8, .int .i64 x1_1.2.1), (16, .int .i64 x15_2.2), (129, .bool false), (132, .bool false), (133, .int .i64 a1)]) (bx' := [⟨p1_6, [.slice p1_1.1 x1_1.1.f0.length p1_1.2], 24⟩]) (by kernel_rfl) ?_
               refine O.q (v := .bool true) (some 134) (Qu.eqv (u := .bool (decide (a1 > 1099511627776))) (v := .bool true) (0, 0) [] (by kernel_rfl) (congrArg Value.bool hc83)) (by kernel_rfl) ?_
               refine O.pure 6 [] [2, 7, 8, 140] [] (fr' := [(2, .int .u8 a2), (7, .pointer (some ⟨p1_6, 0, none⟩)), (8, .int .i64 x1_1.2.1), (140, .bool (x15_2.2 != 1))]) (bx' := [⟨p1_6, [.slice p1_1.1 x1_1.1.f0.length p1_1.2], 24⟩]) (by kernel_rfl) ?_
               refine O.nil (by kernel_rfl) ?_
               obtain rfl := Option.some.inj H
               exact J.conv2 [2, 7, 8, 140] [3, 4] [0] [] (by kernel_rfl) (by kernel_rfl) (by kernel_rfl) (by kernel_rfl) (by decide) (hj20 ())
              ·refine J.region (by kernel_rfl) ?_
               refine O.pure 1 [] [1, 2, 7, 8, 16, 105] [] (fr' := [(1, .int .i64 a1), (2, .int .u8 a2), (7, .pointer (some ⟨p1_6, 0, none⟩)), (8, .int .i64 x1_1.2.1), (16, .int .i64 x15_2.2), (105, .int .i64 a1)]) (bx' := [⟨p1_6, [.slice p1_1.1 x1_1.1.f0.length p1_1.2], 24⟩]) (by kernel_rfl) ?_
               refine O.q (v := .bool false) (some 106) (Qu.eqv (u := .bool (decide (a1 ≥ 1))) (v := .bool false) (0, 0) [] (by kernel_rfl) (congrArg Value.bool hc58)) (by kernel_rfl) ?_
               refine O.pure 12 [] [1, 2, 7, 8, 16, 116, 117, 118] [] (fr' := [(1, .int .i64 a1), (2, .int .u8 a2), (7, .pointer (some ⟨p1_6, 0, none⟩)), (8, .int .i64 x1_1.2.1), (16, .int .i64 x15_2.2), (116, .bool false), (117, .int .i64 a1), (118, .int .i64 x1_1.2.1)]) (bx' := [⟨p1_6, [.slice p1_1.1 x1_1.1.f0.length p1_1.2], 24⟩]) (by kernel_rfl) ?_
               refine O.q (v := .bool true) (some 119) (Qu.eqv (u := .bool (decide (a1 > x1_1.2.1))) (v := .bool true) (0, 0) [] (by kernel_rfl) (congrArg Value.bool hc79)) (by kernel_rfl) ?_
               refine O.pure 2 [] [1, 2, 7, 8, 16, 116, 120, 121] [] (fr' := [(1, .int .i64 a1), (2, .int .u8 a2), (7, .pointer (some ⟨p1_6, 0, none⟩)), (8, .int .i64 x1_1.2.1), (16, .int .i64 x15_2.2), (116, .bool false), (120, .bool true), (121, .int .i64 a1)]) (bx' := [⟨p1_6, [.slice p1_1.1 x1_1.1.f0.length p1_1.2], 24⟩]) (by kernel_rfl) ?_
               refine O.q (v := .bool true) (some 122) (Qu.eqv (u := .bool (decide (a1 ≤ 1099511627776))) (v := .bool true) (0, 0) [] (by kernel_rfl) (congrArg Value.bool hc80)) (by kernel_rfl) ?_
               refine O.pure 3 [] [1, 2, 7, 8, 16, 116, 124, 125] [] (fr' := [(1, .int .i64 a1), (2, .int .u8 a2), (7, .pointer (some ⟨p1_6, 0, none⟩)), (8, .int .i64 x1_1.2.1), (16, .int .i64 x15_2.2), (116, .bool false), (124, .bool true), (125, .int .i64 x15_2.2)]) (bx' := [⟨p1_6, [.slice p1_1.1 x1_1.1.f0.length p1_1.2], 24⟩]) (by kernel_rfl) ?_
               refine O.q (v := .bool false) (some 126) (Qu.eqv (u := .bool (x15_2.2 != 0)) (v := .bool false) (0, 0) [] (by kernel_rfl) (congrArg Value.bool hc81)) (by kernel_rfl) ?_
               refine O.pure 4 [] [1, 2, 7, 8, 16, 129, 130] [] (fr' := [(1, .int .i64 a1), (2, .int .u8 a2), (7, .pointer (some ⟨p1_6, 0, none⟩)), (8, .int .i64 x1_1.2.1), (16, .int .i64 x15_2.2), (129, .bool false), (130, .int .i64 a1)]) (bx' := [⟨p1_6, [.slice p1_1.1 x1_1.1.f0.length p1_1.2], 24⟩]) (by kernel_rfl) ?_
               refine O.q (v := .bool false) (some 131) (Qu.eqv (u := .bool (decide (a1 < 1))) (v := .bool false) (0, 0) [] (by kernel_rfl) (congrArg Value.bool hc82)) (by kernel_rfl) ?_
               refine O.pure 2 [] [2, 7, 8, 16, 129, 132, 133] [] (fr' := [(2, .int .u8 a2), (7, .pointer (some ⟨p1_6, 0, none⟩)), (8, .int .i64 x1_1.2.1), (16, .int .i64 x15_2.2), (129, .bool false), (132, .bool false), (133, .int .i64 a1)]) (bx' := [⟨p1_6, [.slice p1_1.1 x1_1.1.f0.length p1_1.2], 24⟩]) (by kernel_rfl) ?_
               refine O.q (v := .bool false) (some 134) (Qu.eqv (u := .bool (decide (a1 > 1099511627776))) (v := .bool false) (0, 0) [] (by kernel_rfl) (congrArg Value.bool hc83)) (by kernel_rfl) ?_
               refine O.pure 6 [] [2, 7, 8, 140] [] (fr' := [(2, .int .u8 a2), (7, .pointer (some ⟨p1_6, 0, none⟩)), (8, .int .i64 x1_1.2.1), (140, .bool false)]) (bx' := [⟨p1_6, [.slice p1_1.1 x1_1.1.f0.length p1_1.2], 24⟩]) (by kernel_rfl) ?_
               refine O.nil (by kernel_rfl) ?_
               obtain rfl := Option.some.inj H
               exact J.conv2 [2, 7, 8, 140] [3, 4] [0] [] (by kernel_rfl) (by kernel_rfl) (by kernel_rfl) (by kernel_rfl) (by decide) (hj20 ())
           ·rcases condE H with ⟨hc84, H⟩ | ⟨hc84, H⟩
            ·refine J.region (by kernel_rfl) ?_
             refine O.pure 1 [] [1, 2, 7, 8, 16, 105] [] (fr' := [(1, .int .i64 a1), (2, .int .u8 a2), (7, .pointer (some ⟨p1_6, 0, none⟩)), (8, .int .i64 x1_1.2.1), (16, .int .i64 x15_2.2), (105, .int .i64 a1)]) (bx' := [⟨p1_6, [.slice p1_1.1 x1_1.1.f0.length p1_1.2], 24⟩]) (by kernel_rfl) ?_
             refine O.q (v := .bool false) (some 106) (Qu.eqv (u := .bool (decide (a1 ≥ 1))) (v := .bool false) (0, 0) [] (by kernel_rfl) (congrArg Value.bool hc58)) (by kernel_rfl) ?_
             refine O.pure 12 [] [1, 2, 7, 8, 16, 116, 117, 118] [] (fr' := [(1, .int .i64 a1), (2, .int .u8 a2), (7, .pointer (some ⟨p1_6, 0, none⟩)), (8, .int .i64 x1_1.2.1), (16, .int .i64 x15_2.2), (116, .bool false), (117, .int .i64 a1), (118, .int .i64 x1_1.2.1)]) (bx' := [⟨p1_6, [.slice p1_1.1 x1_1.1.f0.length p1_1.2], 24⟩]) (by kernel_rfl) ?_
             refine O.q (v := .bool true) (some 119) (Qu.eqv (u := .bool (decide (a1 > x1_1.2.1))) (v := .bool true) (0, 0) [] (by kernel_rfl) (congrArg Value.bool hc79)) (by kernel_rfl) ?_
             refine O.pure 2 [] [1, 2, 7, 8, 16, 116, 120, 121] [] (fr' := [(1, .int .i64 a1), (2, .int .u8 a2), (7, .pointer (some ⟨p1_6, 0, none⟩)), (8, .int .i64 x1_1.2.1), (16, .int .i64 x15_2.2), (116, .bool false), (120, .bool true), (121, .int .i64 a1)]) (bx' := [⟨p1_6, [.slice p1_1.1 x1_1.1.f0.length p1_1.2], 24⟩]) (by kernel_rfl) ?_
             refine O.q (v := .bool false) (some 122) (Qu.eqv (u := .bool (decide (a1 ≤ 1099511627776))) (v := .bool false) (0, 0) [] (by kernel_rfl) (congrArg Value.bool hc80)) (by kernel_rfl) ?_
             refine O.pure 8 [] [1, 2, 7, 8, 16, 129, 130] [] (fr' := [(1, .int .i64 a1), (2, .int .u8 a2), (7, .pointer (some ⟨p1_6, 0, none⟩)), (8, .int .i64 x1_1.2.1), (16, .int .i64 x15_2.2), (129, .bool false), (130, .int .i64 a1)]) (bx' := [⟨p1_6, [.slice p1_1.1 x1_1.1.f0.length p1_1.2], 24⟩]) (by kernel_rfl) ?_
             refine O.q (v := .bool true) (some 131) (Qu.eqv (u := .bool (decide (a1 < 1))) (v := .bool true) (0, 0) [] (by kernel_rfl) (congrArg Value.bool hc84)) (by kernel_rfl) ?_
             refine O.pure 9 [] [2, 7, 8, 140] [] (fr' := [(2, .int .u8 a2), (7, .pointer (some ⟨p1_6, 0, none⟩)), (8, .int .i64 x1_1.2.1), (140, .bool (x15_2.2 != 1))]) (bx' := [⟨p1_6, [.slice p1_1.1 x1_1.1.f0.length p1_1.2], 24⟩]) (by kernel_rfl) ?_
             refine O.nil (by kernel_rfl) ?_
             obtain rfl := Option.some.inj H
             exact J.conv2 [2, 7, 8, 140] [3, 4] [0] [] (by kernel_rfl) (by kernel_rfl) (by kernel_rfl) (by kernel_rfl) (by decide) (hj20 ())
            ·rcases condE H with ⟨hc85, H⟩ | ⟨hc85, H⟩
             ·refine J.region (by kernel_rfl) ?_
              refine O.pure 1 [] [1, 2, 7, 8, 16, 105] [] (fr' := [(1, .int .i64 a1), (2, .int .u8 a2), (7, .pointer (some ⟨p1_6, 0, none⟩)), (8, .int .i64 x1_1.2.1), (16, .int .i64 x15_2.2), (105, .int .i64 a1)]) (bx' := [⟨p1_6, [.slice p1_1.1 x1_1.1.f0.length p1_1.2], 24⟩]) (by kernel_rfl) ?_
              refine O.q (v := .bool false) (some 106) (Qu.eqv (u := .bool (decide (a1 ≥ 1))) (v := .bool false) (0, 0) [] (by kernel_rfl) (congrArg Value.bool hc58)) (by kernel_rfl) ?_
              refine O.pure 12 [] [1, 2, 7, 8, 16, 116, 117, 118] [] (fr' := [(1, .int .i64 a1), (2, .int .u8 a2), (7, .pointer (some ⟨p1_6, 0, none⟩)), (8, .int .i64 x1_1.2.1), (16, .int .i64 x15_2.2), (116, .bool false), (117, .int .i64 a1), (118, .int .i64 x1_1.2.1)]) (bx' := [⟨p1_6, [.slice p1_1.1 x1_1.1.f0.length p1_1.2], 24⟩]) (by kernel_rfl) ?_
              refine O.q (v := .bool true) (some 119) (Qu.eqv (u := .bool (decide (a1 > x1_1.2.1))) (v := .bool true) (0, 0) [] (by kernel_rfl) (congrArg Value.bool hc79)) (by kernel_rfl) ?_
              refine O.pure 2 [] [1, 2, 7, 8, 16, 116, 120, 121] [] (fr' := [(1, .int .i64 a1), (2, .int .u8 a2), (7, .pointer (some ⟨p1_6, 0, none⟩)), (8, .int .i64 x1_1.2.1), (16, .int .i64 x15_2.2), (116, .bool false), (120, .bool true), (121, .int .i64 a1)]) (bx' := [⟨p1_6, [.slice p1_1.1 x1_1.1.f0.length p1_1.2], 24⟩]) (by kernel_rfl) ?_
              refine O.q (v := .bool false) (some 122) (Qu.eqv (u := .bool (decide (a1 ≤ 1099511627776))) (v := .bool false) (0, 0) [] (by kernel_rfl) (congrArg Value.bool hc80)) (by kernel_rfl) ?_
              refine O.pure 8 [] [1, 2, 7, 8, 16, 129, 130] [] (fr' := [(1, .int .i64 a1), (2, .int .u8 a2), (7, .pointer (some ⟨p1_6, 0, none⟩)), (8, .int .i64 x1_1.2.1), (16, .int .i64 x15_2.2), (129, .bool false), (130, .int .i64 a1)]) (bx' := [⟨p1_6, [.slice p1_1.1 x1_1.1.f0.length p1_1.2], 24⟩]) (by kernel_rfl) ?_
              refine O.q (v := .bool false) (some 131) (Qu.eqv (u := .bool (decide (a1 < 1))) (v := .bool false) (0, 0) [] (by kernel_rfl) (congrArg Value.bool hc84)) (by kernel_rfl) ?_
              refine O.pure 2 [] [2, 7, 8, 16, 129, 132, 133] [] (fr' := [(2, .int .u8 a2), (7, .pointer (some ⟨p1_6, 0, none⟩)), (8, .int .i64 x1_1.2.1), (16, .int .i64 x15_2.2), (129, .bool false), (132, .bool false), (133, .int .i64 a1)]) (bx' := [⟨p1_6, [.slice p1_1.1 x1_1.1.f0.length p1_1.2], 24⟩]) (by kernel_rfl) ?_
              refine O.q (v := .bool true) (some 134) (Qu.eqv (u := .bool (decide (a1 > 1099511627776))) (v := .bool true) (0, 0) [] (by kernel_rfl) (congrArg Value.bool hc85)) (by kernel_rfl) ?_
              refine O.pure 6 [] [2, 7, 8, 140] [] (fr' := [(2, .int .u8 a2), (7, .pointer (some ⟨p1_6, 0, none⟩)), (8, .int .i64 x1_1.2.1), (140, .bool (x15_2.2 != 1))]) (bx' := [⟨p1_6, [.slice p1_1.1 x1_1.1.f0.length p1_1.2], 24⟩]) (by kernel_rfl) ?_
              refine O.nil (by kernel_rfl) ?_
              obtain rfl := Option.some.inj H
              exact J.conv2 [2, 7, 8, 140] [3, 4] [0] [] (by kernel_rfl) (by kernel_rfl) (by kernel_rfl) (by kernel_rfl) (by decide) (hj20 ())
             ·refine J.region (by kernel_rfl) ?_
              refine O.pure 1 [] [1, 2, 7, 8, 16, 105] [] (fr' := [(1, .int .i64 a1), (2, .int .u8 a2), (7, .pointer (some ⟨p1_6, 0, none⟩)), (8, .int .i64 x1_1.2.1), (16, .int .i64 x15_2.2), (105, .int .i64 a1)]) (bx' := [⟨p1_6, [.slice p1_1.1 x1_1.1.f0.length p1_1.2], 24⟩]) (by kernel_rfl) ?_
              refine O.q (v := .bool false) (some 106) (Qu.eqv (u := .bool (decide (a1 ≥ 1))) (v := .bool false) (0, 0) [] (by kernel_rfl) (congrArg Value.bool hc58)) (by kernel_rfl) ?_
              refine O.pure 12 [] [1, 2, 7, 8, 16, 116, 117, 118] [] (fr' := [(1, .int .i64 a1), (2, .int .u8 a2), (7, .pointer (some ⟨p1_6, 0, none⟩)), (8, .int .i64 x1_1.2.1), (16, .int .i64 x15_2.2), (116, .bool false), (117, .int .i64 a1), (118, .int .i64 x1_1.2.1)]) (bx' := [⟨p1_6, [.slice p1_1.1 x1_1.1.f0.length p1_1.2], 24⟩]) (by kernel_rfl) ?_
              refine O.q (v := .bool true) (some 119) (Qu.eqv (u := .bool (decide (a1 > x1_1.2.1))) (v := .bool true) (0, 0) [] (by kernel_rfl) (congrArg Value.bool hc79)) (by kernel_rfl) ?_
              refine O.pure 2 [] [1, 2, 7, 8, 16, 116, 120, 121] [] (fr' := [(1, .int .i64 a1), (2, .int .u8 a2), (7, .pointer (some ⟨p1_6, 0, none⟩)), (8, .int .i64 x1_1.2.1), (16, .int .i64 x15_2.2), (116, .bool false), (120, .bool true), (121, .int .i64 a1)]) (bx' := [⟨p1_6, [.slice p1_1.1 x1_1.1.f0.length p1_1.2], 24⟩]) (by kernel_rfl) ?_
              refine O.q (v := .bool false) (some 122) (Qu.eqv (u := .bool (decide (a1 ≤ 1099511627776))) (v := .bool false) (0, 0) [] (by kernel_rfl) (congrArg Value.bool hc80)) (by kernel_rfl) ?_
              refine O.pure 8 [] [1, 2, 7, 8, 16, 129, 130] [] (fr' := [(1, .int .i64 a1), (2, .int .u8 a2), (7, .pointer (some ⟨p1_6, 0, none⟩)), (8, .int .i64 x1_1.2.1), (16, .int .i64 x15_2.2), (129, .bool false), (130, .int .i64 a1)]) (bx' := [⟨p1_6, [.slice p1_1.1 x1_1.1.f0.length p1_1.2], 24⟩]) (by kernel_rfl) ?_
              refine O.q (v := .bool false) (some 131) (Qu.eqv (u := .bool (decide (a1 < 1))) (v := .bool false) (0, 0) [] (by kernel_rfl) (congrArg Value.bool hc84)) (by kernel_rfl) ?_
              refine O.pure 2 [] [2, 7, 8, 16, 129, 132, 133] [] (fr' := [(2, .int .u8 a2), (7, .pointer (some ⟨p1_6, 0, none⟩)), (8, .int .i64 x1_1.2.1), (16, .int .i64 x15_2.2), (129, .bool false), (132, .bool false), (133, .int .i64 a1)]) (bx' := [⟨p1_6, [.slice p1_1.1 x1_1.1.f0.length p1_1.2], 24⟩]) (by kernel_rfl) ?_
              refine O.q (v := .bool false) (some 134) (Qu.eqv (u := .bool (decide (a1 > 1099511627776))) (v := .bool false) (0, 0) [] (by kernel_rfl) (congrArg Value.bool hc85)) (by kernel_rfl) ?_
              refine O.pure 6 [] [2, 7, 8, 140] [] (fr' := [(2, .int .u8 a2), (7, .pointer (some ⟨p1_6, 0, none⟩)), (8, .int .i64 x1_1.2.1), (140, .bool false)]) (bx' := [⟨p1_6, [.slice p1_1.1 x1_1.1.f0.length p1_1.2], 24⟩]) (by kernel_rfl) ?_
              refine O.nil (by kernel_rfl) ?_
              obtain rfl := Option.some.inj H
              exact J.conv2 [2, 7, 8, 140] [3, 4] [0] [] (by kernel_rfl) (by kernel_rfl) (by kernel_rfl) (by kernel_rfl) (by decide) (hj20 ())
          ·rcases condE H with ⟨hc86, H⟩ | ⟨hc86, H⟩
           ·refine J.region (by kernel_rfl) ?_
            refine O.pure 1 [] [1, 2, 7, 8, 16, 105] [] (fr' := [(1, .int .i64 a1), (2, .int .u8 a2), (7, .pointer (some ⟨p1_6, 0, none⟩)), (8, .int .i64 x1_1.2.1), (16, .int .i64 x15_2.2), (105, .int .i64 a1)]) (bx' := [⟨p1_6, [.slice p1_1.1 x1_1.1.f0.length p1_1.2], 24⟩]) (by kernel_rfl) ?_
            refine O.q (v := .bool false) (some 106) (Qu.eqv (u := .bool (decide (a1 ≥ 1))) (v := .bool false) (0, 0) [] (by kernel_rfl) (congrArg Value.bool hc58)) (by kernel_rfl) ?_
            refine O.pure 12 [] [1, 2, 7, 8, 16, 116, 117, 118] [] (fr' := [(1, .int .i64 a1), (2, .int .u8 a2), (7, .pointer (some ⟨p1_6, 0, none⟩)), (8, .int .i64 x1_1.2.1), (16, .int .i64 x15_2.2), (116, .bool false), (117, .int .i64 a1), (118, .int .i64 x1_1.2.1)]) (bx' := [⟨p1_6, [.slice p1_1.1 x1_1.1.f0.length p1_1.2], 24⟩]) (by kernel_rfl) ?_
            refine O.q (v := .bool false) (some 119) (Qu.eqv (u := .bool (decide (a1 > x1_1.2.1))) (v := .bool false) (0, 0) [] (by kernel_rfl) (congrArg Value.bool hc79)) (by kernel_rfl) ?_
            refine O.pure 11 [] [1, 2, 7, 8, 16, 129, 130] [] (fr' := [(1, .int .i64 a1), (2, .int .u8 a2), (7, .pointer (some ⟨p1_6, 0, none⟩)), (8, .int .i64 x1_1.2.1), (16, .int .i64 x15_2.2), (129, .bool false), (130, .int .i64 a1)]) (bx' := [⟨p1_6, [.slice p1_1.1 x1_1.1.f0.length p1_1.2], 24⟩]) (by kernel_rfl) ?_
            refine O.q (v := .bool true) (some 131) (Qu.eqv (u := .bool (decide (a1 < 1))) (v := .bool true) (0, 0) [] (by kernel_rfl) (congrArg Value.bool hc86)) (by kernel_rfl) ?_
            refine O.pure 9 [] [2, 7, 8, 140] [] (fr' := [(2, .int .u8 a2), (7, .pointer (some ⟨p1_6, 0, none⟩)), (8, .int .i64 x1_1.2.1), (140, .bool (x15_2.2 != 1))]) (bx' := [⟨p1_6, [.slice p1_1.1 x1_1.1.f0.length p1_1.2], 24⟩]) (by kernel_rfl) ?_
            refine O.nil (by kernel_rfl) ?_
            obtain rfl := Option.some.inj H
            exact J.conv2 [2, 7, 8, 140] [3, 4] [0] [] (by kernel_rfl) (by kernel_rfl) (by kernel_rfl) (by kernel_rfl) (by decide) (hj20 ())
           ·rcases condE H with ⟨hc87, H⟩ | ⟨hc87, H⟩
            ·refine J.region (by kernel_rfl) ?_
             refine O.pure 1 [] [1, 2, 7, 8, 16, 105] [] (fr' := [(1, .int .i64 a1), (2, .int .u8 a2), (7, .pointer (some ⟨p1_6, 0, none⟩)), (8, .int .i64 x1_1.2.1), (16, .int .i64 x15_2.2), (105, .int .i64 a1)]) (bx' := [⟨p1_6, [.slice p1_1.1 x1_1.1.f0.length p1_1.2], 24⟩]) (by kernel_rfl) ?_
             refine O.q (v := .bool false) (some 106) (Qu.eqv (u := .bool (decide (a1 ≥ 1))) (v := .bool false) (0, 0) [] (by kernel_rfl) (congrArg Value.bool hc58)) (by kernel_rfl) ?_
             refine O.pure 12 [] [1, 2, 7, 8, 16, 116, 117, 118] [] (fr' := [(1, .int .i64 a1), (2, .int .u8 a2), (7, .pointer (some ⟨p1_6, 0, none⟩)), (8, .int .i64 x1_1.2.1), (16, .int .i64 x15_2.2), (116, .bool false), (117, .int .i64 a1), (118, .int .i64 x1_1.2.1)]) (bx' := [⟨p1_6, [.slice p1_1.1 x1_1.1.f0.length p1_1.2], 24⟩]) (by kernel_rfl) ?_
             refine O.q (v := .bool false) (some 119) (Qu.eqv (u := .bool (decide (a1 > x1_1.2.1))) (v := .bool false) (0, 0) [] (by kernel_rfl) (congrArg Value.bool hc79)) (by kernel_rfl) ?_
             refine O.pure 11 [] [1, 2, 7, 8, 16, 129, 130] [] (fr' := [(1, .int .i64 a1), (2, .int .u8 a2), (7, .pointer (some ⟨p1_6, 0, none⟩)), (8, .int .i64 x1_1.2.1), (16, .int .i64 x15_2.2), (129, .bool false), (130, .int .i64 a1)]) (bx' := [⟨p1_6, [.slice p1_1.1 x1_1.1.f0.length p1_1.2], 24⟩]) (by kernel_rfl) ?_
             refine O.q (v := .bool false) (some 131) (Qu.eqv (u := .bool (decide (a1 < 1))) (v := .bool false) (0, 0) [] (by kernel_rfl) (congrArg Value.bool hc86)) (by kernel_rfl) ?_
             refine O.pure 2 [] [2, 7, 8, 16, 129, 132, 133] [] (fr' := [(2, .int .u8 a2), (7, .pointer (some ⟨p1_6, 0, none⟩)), (8, .int .i64 x1_1.2.1), (16, .int .i64 x15_2.2), (129, .bool false), (132, .bool false), (133, .int .i64 a1)]) (bx' := [⟨p1_6, [.slice p1_1.1 x1_1.1.f0.length p1_1.2], 24⟩]) (by kernel_rfl) ?_
             refine O.q (v := .bool true) (some 134) (Qu.eqv (u := .bool (decide (a1 > 1099511627776))) (v := .bool true) (0, 0) [] (by kernel_rfl) (congrArg Value.bool hc87)) (by kernel_rfl) ?_
             refine O.pure 6 [] [2, 7, 8, 140] [] (fr' := [(2, .int .u8 a2), (7, .pointer (some ⟨p1_6, 0, none⟩)), (8, .int .i64 x1_1.2.1), (140, .bool (x15_2.2 != 1))]) (bx' := [⟨p1_6, [.slice p1_1.1 x1_1.1.f0.length p1_1.2], 24⟩]) (by kernel_rfl) ?_
             refine O.nil (by kernel_rfl) ?_
             obtain rfl := Option.some.inj H
             exact J.conv2 [2, 7, 8, 140] [3, 4] [0] [] (by kernel_rfl) (by kernel_rfl) (by kernel_rfl) (by kernel_rfl) (by decide) (hj20 ())
            ·refine J.region (by kernel_rfl) ?_
             refine O.pure 1 [] [1, 2, 7, 8, 16, 105] [] (fr' := [(1, .int .i64 a1), (2, .int .u8 a2), (7, .pointer (some ⟨p1_6, 0, none⟩)), (8, .int .i64 x1_1.2.1), (16, .int .i64 x15_2.2), (105, .int .i64 a1)]) (bx' := [⟨p1_6, [.slice p1_1.1 x1_1.1.f0.length p1_1.2], 24⟩]) (by kernel_rfl) ?_
             refine O.q (v := .bool false) (some 106) (Qu.eqv (u := .bool (decide (a1 ≥ 1))) (v := .bool false) (0, 0) [] (by kernel_rfl) (congrArg Value.bool hc58)) (by kernel_rfl) ?_
             refine O.pure 12 [] [1, 2, 7, 8, 16, 116, 117, 118] [] (fr' := [(1, .int .i64 a1), (2, .int .u8 a2), (7, .pointer (some ⟨p1_6, 0, none⟩)), (8, .int .i64 x1_1.2.1), (16, .int .i64 x15_2.2), (116, .bool false), (117, .int .i64 a1), (118, .int .i64 x1_1.2.1)]) (bx' := [⟨p1_6, [.slice p1_1.1 x1_1.1.f0.length p1_1.2], 24⟩]) (by kernel_rfl) ?_
             refine O.q (v := .bool false) (some 119) (Qu.eqv (u := .bool (decide (a1 > x1_1.2.1))) (v := .bool false) (0, 0) [] (by kernel_rfl) (congrArg Value.bool hc79)) (by kernel_rfl) ?_
             refine O.pure 11 [] [1, 2, 7, 8, 16, 129, 130] [] (fr' := [(1, .int .i64 a1), (2, .int .u8 a2), (7, .pointer (some ⟨p1_6, 0, none⟩)), (8, .int .i64 x1_1.2.1), (16, .int .i64 x15_2.2), (129, .bool false), (130, .int .i64 a1)]) (bx' := [⟨p1_6, [.slice p1_1.1 x1_1.1.f0.length p1_1.2], 24⟩]) (by kernel_rfl) ?_
             refine O.q (v := .bool false) (some 131) (Qu.eqv (u := .bool (decide (a1 < 1))) (v := .bool false) (0, 0) [] (by kernel_rfl) (congrArg Value.bool hc86)) (by kernel_rfl) ?_
             refine O.pure 2 [] [2, 7, 8, 16, 129, 132, 133] [] (fr' := [(2, .int .u8 a2), (7, .pointer (some ⟨p1_6, 0, none⟩)), (8, .int .i64 x1_1.2.1), (16, .int .i64 x15_2.2), (129, .bool false), (132, .bool false), (133, .int .i64 a1)]) (bx' := [⟨p1_6, [.slice p1_1.1 x1_1.1.f0.length p1_1.2], 24⟩]) (by kernel_rfl) ?_
             refine O.q (v := .bool false) (some 134) (Qu.eqv (u := .bool (decide (a1 > 1099511627776))) (v := .bool false) (0, 0) [] (by kernel_rfl) (congrArg Value.bool hc87)) (by kernel_rfl) ?_
             refine O.pure 6 [] [2, 7, 8, 140] [] (fr' := [(2, .int .u8 a2), (7, .pointer (some ⟨p1_6, 0, none⟩)), (8, .int .i64 x1_1.2.1), (140, .bool false)]) (bx' := [⟨p1_6, [.slice p1_1.1 x1_1.1.f0.length p1_1.2], 24⟩]) (by kernel_rfl) ?_
             refine O.nil (by kernel_rfl) ?_
             obtain rfl := Option.some.inj H
             exact J.conv2 [2, 7, 8, 140] [3, 4] [0] [] (by kernel_rfl) (by kernel_rfl) (by kernel_rfl) (by kernel_rfl) (by decide) (hj20 ())
   ·refine J.block (id := 0) (by kernel_rfl) ?_
    refine J.loopI (σ := (List Int) × Int) (γ := Hd) (f := fun m_ s_ => haywainlaw14_CkptLater.l88 K a0 m_ s_) (fun s88 g88 => [(0, .slice h0.1 a0.length h0.2), (1, .int .i64 a1), (2, .int .u8 a2), (7, .pointer (some ⟨p1_6, 0, none⟩)), (8, .int .i64 x1_1.2.1), (10, .int .i64 x4_1.1), (11, .slice p4_1.1 x4_1.2.1.length p4_1.2), (12, .int .i64 x4_1.2.2), (13, .slice g88.1 s88.1.length g88.2), (14, .int .i64 s88.2)]) (fun s88 g88 => St X w [] [⟨p1_6, [.slice p1_1.1 x1_1.1.f0.length p1_1.2], 24⟩] [] [] [Rd (Kd.int .u8) g88.1 g88.2 s88.1, Rd (Kd.int .u8) p4_1.1 p4_1.2 x4_1.2.1, Rd kd70 p1_1.1 p1_1.2 x1_1.1.f0, Rd (Kd.slice (Kd.int .u8)) h0.1 h0.2 a0]) K (([] : List Int), 0) (none, 0) (by kernel_rfl) H (fun _ => rfl) (fun m_ s88 H ih88 g88 => ?_) (fun h_ => ?_)
    ·unfold haywainlaw14_CkptLater.l88 at H
     refine J.seq (by kernel_rfl) ?_
     refine J.seq (by kernel_rfl) ?_
     rcases condE H with ⟨hc94, H⟩ | ⟨hc94, H⟩
     ·refine J.region (by kernel_rfl) ?_
      refine O.pure 3 [] [0, 1, 2, 7, 8, 10, 11, 12, 13, 14, 59, 61] [] (fr' := [(0, .slice h0.1 a0.length h0.2), (1, .int .i64 a1), (2, .int .u8 a2), (7, .pointer (some ⟨p1_6, 0, none⟩)), (8, .int .i64 x1_1.2.1), (10, .int .i64 x4_1.1), (11, .slice p4_1.1 x4_1.2.1.length p4_1.2), (12, .int .i64 x4_1.2.2), (13, .slice g88.1 s88.1.length g88.2), (14, .int .i64 s88.2), (59, .int .i64 s88.2), (61, .int .i64 (a0.length : Int))]) (bx' := [⟨p1_6, [.slice p1_1.1 x1_1.1.f0.length p1_1.2], 24⟩]) (by kernel_rfl) ?_
      refine O.q (v := .bool true) (some 62) (Qu.eqv (u := .bool (decide (s88.2 < (a0.length : Int)))) (v := .bool true) (0, 0) [] (by kernel_rfl) (congrArg Value.bool hc94)) (by kernel_rfl) ?_
      refine O.pure 4 [] [0, 1, 2, 7, 8, 10, 11, 12, 13, 14, 64, 65, 66] [] (fr' := [(0, .slice h0.1 a0.length h0.2), (1, .int .i64 a1), (2, .int .u8 a2), (7, .pointer (some ⟨p1_6, 0, none⟩)), (8, .int .i64 x1_1.2.1), (10, .int .i64 x4_1.1), (11, .slice p4_1.1 x4_1.2.1.length p4_1.2), (12, .int .i64 x4_1.2.2), (13, .slice g88.1 s88.1.length g88.2), (14, .int .i64 s88.2), (64, .int .i64 s88.2), (65, .bool (decide (s88.2 < 10))), (66, .bool (decide (s88.2 < 10)))]) (bx' := [⟨p1_6, [.slice p1_1.1 x1_1.1.f0.length p1_1.2], 24⟩]) (by kernel_rfl) ?_
      refine O.nil (by kernel_rfl) ?_
      rcases condE H with ⟨hc95, H⟩ | ⟨hc95, H⟩
      ·refine J.condT (x := .tmp 66) (t := (decide (s88.2 < 10))) (by kernel_rfl) (by kernel_rfl) hc95 ?_
       refine J.skip (by kernel_rfl) ?_
       refine J.seq (by kernel_rfl) ?_
       refine J.block (id := 1) (by kernel_rfl) ?_
       refine J.seq (by kernel_rfl) ?_
       obtain ⟨x11_2, hx11_2, H⟩ := bindE H
       obtain ⟨hx11_2a, hx11_2⟩ := idxE hx11_2
       refine J.region (by kernel_rfl) ?_
       refine O.pure 2 [] [0, 1, 2, 7, 8, 10, 11, 12, 13, 14, 64, 65, 69, 70] [] (fr' := [(0, .slice h0.1 a0.length h0.2), (1, .int .i64 a1), (2, .int .u8 a2), (7, .pointer (some ⟨p1_6, 0, none⟩)), (8, .int .i64 x1_1.2.1), (10, .int .i64 x4_1.1), (11, .slice p4_1.1 x4_1.2.1.length p4_1.2), (12, .int .i64 x4_1.2.2), (13, .slice g88.1 s88.1.length g88.2), (14, .int .i64 s88.2), (64, .int .i64 s88.2), (65, .bool (decide (s88.2 < 10))), (69, .slice h0.1 a0.length h0.2), (70, .int .i64 s88.2)]) (bx' := [⟨p1_6, [.slice p1_1.1 x1_1.1.f0.length p1_1.2], 24⟩]) (by kernel_rfl) ?_
       refine O.open (d := (Kd.slice (Kd.int .u8))) (h := h0) (i := s88.2) 3 rfl hx11_2 (Lay.slice _ _) (fun p11_2 hp11_2A => ?_)
       refine O.q (v := .pointer (some ⟨p11_2.1, p11_2.2.1 + s88.2.toNat * 1, none⟩)) (some 71) (Qu.idx (t := 58) (x := .tmp 69) (y := .tmp 70) (c := h0.2) (kk := .i64) (sz := 1) (by kernel_rfl) (by kernel_rfl) (by kernel_rfl) (by kernel_rfl) hx11_2a (idx_lt hx11_2) hp11_2A) (by kernel_rfl) ?_
       refine O.pure 3 [(1, 0)] [0, 1, 2, 7, 8, 10, 11, 12, 13, 14, 64, 65, 74] [p11_2.1, p11_2.2.1 + s88.2.toNat * 1] (fr' := [(0, .slice h0.1 a0.length h0.2), (1, .int .i64 a1), (2, .int .u8 a2), (7, .pointer (some ⟨p1_6, 0, none⟩)), (8, .int .i64 x1_1.2.1), (10, .int .i64 x4_1.1), (11, .slice p4_1.1 x4_1.2.1.length p4_1.2), (12, .int .i64 x4_1.2.2), (13, .slice g88.1 s88.1.length g88.2), (14, .int .i64 s88.2), (64, .int .i64 s88.2), (65, .bool (decide (s88.2 < 10))), (74, .bool (decide ((x11_2.length : Int) ≤ 500)))]) (bx' := [⟨p1_6, [.slice p1_1.1 x1_1.1.f0.length p1_1.2], 24⟩]) (by kernel_rfl) ?_
       refine O.nil (by kernel_rfl) ?_
       rcases condE H with ⟨hc96, H⟩ | ⟨hc96, H⟩
       ·refine J.condT (x := .tmp 74) (t := (decide ((x11_2.length : Int) ≤ 500))) (by kernel_rfl) (by kernel_rfl) hc96 ?_
        obtain ⟨x12_2, hx12_2, H⟩ := bindE H
        obtain ⟨hx12_2a, hx12_2⟩ := idxE hx12_2
        refine J.region (by kernel_rfl) ?_
        refine O.pure 2 [] [0, 1, 2, 7, 8, 10, 11, 12, 13, 14, 64, 65, 75, 76] [] (fr' := [(0, .slice h0.1 a0.length h0.2), (1, .int .i64 a1), (2, .int .u8 a2), (7, .pointer (some ⟨p1_6, 0, none⟩)), (8, .int .i64 x1_1.2.1), (10, .int .i64 x4_1.1), (11, .slice p4_1.1 x4_1.2.1.length p4_1.2), (12, .int .i64 x4_1.2.2), (13, .slice g88.1 s88.1.length g88.2), (14, .int .i64 s88.2), (64, .int .i64 s88.2), (65, .bool (decide (s88.2 < 10))), (75, .slice h0.1 a0.length h0.2), (76, .int .i64 s88.2)]) (bx' := [⟨p1_6, [.slice p1_1.1 x1_1.1.f0.length p1_1.2], 24⟩]) (by kernel_rfl) ?_
        refine O.open (d := (Kd.slice (Kd.int .u8))) (h := h0) (i := s88.2) 4 rfl hx12_2 (Lay.slice _ _) (fun p12_2 hp12_2A => ?_)
        refine O.q (v := .pointer (some ⟨p12_2.1, p12_2.2.1 + s88.2.toNat * 1, none⟩)) (some 77) (Qu.idx (t := 58) (x := .tmp 75) (y := .tmp 76) (c := h0.2) (kk := .i64) (sz := 1) (by kernel_rfl) (by kernel_rfl) (by kernel_rfl) (by kernel_rfl) hx12_2a (idx_lt hx12_2) hp12_2A) (by kernel_rfl) ?_
        refine O.pure 2 [(1, 0)] [0, 1, 2, 7, 8, 10, 11, 12, 13, 14, 64, 65] [p12_2.1, p12_2.2.1 + s88.2.toNat * 1] (fr' := [(0, .slice h0.1 a0.length h0.2), (1, .int .i64 a1), (2, .int .u8 a2), (7, .pointer (some ⟨p1_6, 0, none⟩)), (8, .int .i64 x1_1.2.1), (10, .int .i64 x4_1.1), (11, .slice p4_1.1 x4_1.2.1.length p4_1.2), (12, .int .i64 x4_1.2.2), (13, .slice p12_2.2.2.1 x12_2.length p12_2.2.2.2), (14, .int .i64 s88.2), (64, .int .i64 s88.2), (65, .bool (decide (s88.2 < 10)))]) (bx' := [⟨p1_6, [.slice p1_1.1 x1_1.1.f0.length p1_1.2], 24⟩]) (by kernel_rfl) ?_
        refine O.nil (by kernel_rfl) ?_
        refine J.out ?_
        refine J.region (by kernel_rfl) ?_
        refine O.pure 3 [] [0, 1, 2, 7, 8, 10, 11, 12, 13, 14, 64, 65] [] (fr' := [(0, .slice h0.1 a0.length h0.2), (1, .int .i64 a1), (2, .int .u8 a2), (7, .pointer (some ⟨p1_6, 0, none⟩)), (8, .int .i64 x1_1.2.1), (10, .int .i64 x4_1.1), (11, .slice p4_1.1 x4_1.2.1.length p4_1.2), (12, .int .i64 x4_1.2.2), (13, .slice p12_2.2.2.1 x12_2.length p12_2.2.2.2), (14, .int .i64 (IntKind.wrap .i64 (s88.2 + 1))), (64, .int .i64 s88.2), (65, .bool (decide (s88.2 < 10)))]) (bx' := [⟨p1_6, [.slice p1_1.1 x1_1.1.f0.length p1_1.2], 24⟩]) (by kernel_rfl) ?_
        refine O.nil (by kernel_rfl) ?_
        exact J.conv2 [0, 1, 2, 7, 8, 10, 11, 12, 13, 14] [0, 3, 4, 5] [0] [] (by kernel_rfl) (by kernel_rfl) (by kernel_rfl) (by kernel_rfl) (by decide) (ih88 (x12_2, (IntKind.wrap .i64 (s88.2 + 1))) p12_2.2.2 H)
       ·refine J.condF (x := .tmp 74) (t := (decide ((x11_2.length : Int) ≤ 500))) (by kernel_rfl) (by kernel_rfl) hc96 ?_
        refine J.skip (by kernel_rfl) ?_
        refine J.out ?_
        refine J.region (by kernel_rfl) ?_
        refine O.pure 3 [] [0, 1, 2, 7, 8, 10, 11, 12, 13, 14, 64, 65] [] (fr' := [(0, .slice h0.1 a0.length h0.2), (1, .int .i64 a1), (2, .int .u8 a2), (7, .pointer (some ⟨p1_6, 0, none⟩)), (8, .int .i64 x1_1.2.1), (10, .int .i64 x4_1.1), (11, .slice p4_1.1 x4_1.2.1.length p4_1.2), (12, .int .i64 x4_1.2.2), (13, .slice g88.1 s88.1.length g88.2), (14, .int .i64 (IntKind.wrap .i64 (s88.2 + 1))), (64, .int .i64 s88.2), (65, .bool (decide (s88.2 < 10)))]) (bx' := [⟨p1_6, [.slice p1_1.1 x1_1.1.f0.length p1_1.2], 24⟩]) (by kernel_rfl) ?_
        refine O.nil (by kernel_rfl) ?_
        exact J.conv2 [0, 1, 2, 7, 8, 10, 11, 12, 13, 14] [1, 2, 3, 4] [0] [] (by kernel_rfl) (by kernel_rfl) (by kernel_rfl) (by kernel_rfl) (by decide) (ih88 (s88.1, (IntKind.wrap .i64 (s88.2 + 1))) g88 H)
      ·refine J.condF (x := .tmp 66) (t := (decide (s88.2 < 10))) (by kernel_rfl) (by kernel_rfl) hc95 ?_
       refine J.exit (id := 0) (by kernel_rfl) rfl ?_
       obtain rfl := Option.some.inj H
       exact J.conv2 [1, 2, 7, 8, 10, 11, 12, 13] [0, 1, 2, 3] [0] [] (by kernel_rfl) (by kernel_rfl) (by kernel_rfl) (by kernel_rfl) (by decide) (hj6 g88)
     ·refine J.region (by kernel_rfl) ?_
      refine O.pure 3 [] [0, 1, 2, 7, 8, 10, 11, 12, 13, 14, 59, 61] [] (fr' := [(0, .slice h0.1 a0.length h0.2), (1, .int .i64 a1), (2, .int .u8 a2), (7, .pointer (some ⟨p1_6, 0, none⟩)), (8, .int .i64 x1_1.2.1), (10, .int .i64 x4_1.1), (11, .slice p4_1.1 x4_1.2.1.length p4_1.2), (12, .int .i64 x4_1.2.2), (13, .slice g88.1 s88.1.length g88.2), (14, .int .i64 s88.2), (59, .int .i64 s88.2), (61, .int .i64 (a0.length : Int))]) (bx' := [⟨p1_6, [.slice p1_1.1 x1_1.1.f0.length p1_1.2], 24⟩]) (by kernel_rfl) ?_
      refine O.q (v := .bool false) (some 62) (Qu.eqv (u := .bool (decide (s88.2 < (a0.length : Int)))) (v := .bool false) (0, 0) [] (by kernel_rfl) (congrArg Value.bool hc94)) (by kernel_rfl) ?_
      refine O.pure 4 [] [0, 1, 2, 7, 8, 10, 11, 12, 13, 14, 64, 65, 66] [] (fr' := [(0, .slice h0.1 a0.length h0.2), (1, .int .i64 a1), (2, .int .u8 a2), (7, .pointer (some ⟨p1_6, 0, none⟩)), (8, .int .i64 x1_1.2.1), (10, .int .i64 x4_1.1), (11, .slice p4_1.1 x4_1.2.1.length p4_1.2), (12, .int .i64 x4_1.2.2), (13, .slice g88.1 s88.1.length g88.2), (14, .int .i64 s88.2), (64, undef), (65, undef), (66, .bool false)]) (bx' := [⟨p1_6, [.slice p1_1.1 x1_1.1.f0.length p1_1.2], 24⟩]) (by kernel_rfl) ?_
      refine O.nil (by kernel_rfl) ?_
      refine J.cond (o := .tmp 66) false (by kernel_rfl) (by kernel_rfl) ?_
      refine J.exit (id := 0) (by kernel_rfl) rfl ?_
      obtain rfl := Option.some.inj H
      exact J.conv2 [1, 2, 7, 8, 10, 11, 12, 13] [0, 1, 2, 3] [0] [] (by kernel_rfl) (by kernel_rfl) (by kernel_rfl) (by kernel_rfl) (by decide) (hj6 g88)
    ·refine J.nilF (Kd.int .u8) ?_
     exact J.conv2 [0, 1, 2, 7, 8, 10, 11, 12, 13, 14] [0, 1, 2, 3] [0] [] (by kernel_rfl) (by kernel_rfl) (by kernel_rfl) (by kernel_rfl) (by decide) h_
def haywainlaw14_CkptLater.Pure : Prop := ∀ (a0 : List (List Int)) (a1 : Int) (a2 : Int), (a0.length * 24 ≤ 140737488351232 ∧ ∀ x_ ∈ a0, x_.length * 1 ≤ 140737488351232 ∧ ∀ x__ ∈ x_, (Lit.int .u8 x__).wf = true) → ((Lit.int .i64 a1).wf = true) → ((Lit.int .u8 a2).wf = true) → ∃ K, haywainlaw14_CkptLater.f K a0 a1 a2 = some true
end Go.Proofs.Ytkcpbehgjbionaa.G
