/- The law CkptAgain as plain Lean, with its contract; printed by a program of this session. -/
import Derived.Test.YtkcpbehgjbionaaG2
set_option linter.unusedVariables false
set_option linter.unusedSimpArgs false
namespace Go.Proofs.Ytkcpbehgjbionaa.G
open Go Go.RowKit Go.Hw
/-! ### haywain/haywainlaw14.CkptAgain: function 7 -/
def haywainlaw14_CkptAgain.f (K : Nat) (a0 : List (List Int)) (a1 : List Int) (a2 : Int) (a3 : List Int) (a4 : Int) : Option Bool := cond (decide ((a1.length : Int) > 500)) ((haywainlaw14_knows.f K).bind fun x2_0 => some (x2_0)) (cond (decide ((a3.length : Int) > 100)) ((haywainlaw14_knows.f K).bind fun x2_0 => some (x2_0)) ((haywainlaw14_kept.f K a0).bind fun x3_1 => cond (!x3_1.2.2) (some (false)) ((appO 1 ([] : List Int) a1).bind fun y6_5 => (ckpt_Save.f K x3_1.1 (IntKind.wrap .i64 (x3_1.2.1 + 1)) (([] : List Int) ++ a1)).bind fun x6_6 => (ckpt_Do.f K x3_1.1 x6_6.1 a2).bind fun x7_3 => (disk_Crash.f K x7_3.1 a3).bind fun x8_2 => (ckpt_Open.f K x8_2).bind fun x8_3 => (ckpt_Last.f K x8_3.1).bind fun x9_1 => cond (x8_3.2 != 0) (some (false)) (cond (x9_1.2.2 != 0) (cond (x9_1.2.2 != 4) (some (false)) ((remO a4 3).bind fun z12_3 => (ckpt_Save.f K x8_3.1 (IntKind.wrap .i64 ((IntKind.wrap .i64 (x9_1.1 + 1)) + (IntKind.wrap .i64 (a4.tmod 3)))) ([110, 101, 120, 116] : List Int)).bind fun x13_4 => cond (x13_4.2 != 0) (some (false)) ((ckpt_Do.f K x8_3.1 x13_4.1 (x13_4.1.length : Int)).bind fun x16_4 => (disk_Crash.f K x16_4.1 ([] : List Int)).bind fun x17_1 => (ckpt_Last.f K x17_1).bind fun x17_2 => cond (x16_4.2 != (x13_4.1.length : Int)) (some (false)) (cond (x17_2.1 != (IntKind.wrap .i64 ((IntKind.wrap .i64 (x9_1.1 + 1)) + (IntKind.wrap .i64 (a4.tmod 3))))) (some (false)) (cond (!((strOfNums x17_2.2.1).toList == (⟨#[110, 101, 120, 116]⟩ : ByteArray).toList)) (some (false)) (cond (x17_2.2.2 != 0) (some (false)) ((disk_Names.f K x16_4.1).bind fun x20_1 => cond ((x20_1.length : Int) == 2) ((idxO x20_1 0).bind fun x21_5 => (haywainref14_File.f K (IntKind.wrap .i64 ((IntKind.wrap .i64 (x9_1.1 + 1)) + (IntKind.wrap .i64 (a4.tmod 3))))).bind fun x21_8 => cond (x21_5.toList == x21_8.toList) ((idxO x20_1 1).bind fun x21_13 => cond (x21_13.toList == (⟨#[109]⟩ : ByteArray).toList) ((haywainlaw14_knows.f K).bind fun x21_18 => some (x21_18)) (some (false))) (some (false))) (some (false))))))))) ((remO a4 3).bind fun z12_3 => (ckpt_Save.f K x8_3.1 (IntKind.wrap .i64 ((IntKind.wrap .i64 (x9_1.1 + 1)) + (IntKind.wrap .i64 (a4.tmod 3)))) ([110, 101, 120, 116] : List Int)).bind fun x13_4 => cond (x13_4.2 != 0) (some (false)) ((ckpt_Do.f K x8_3.1 x13_4.1 (x13_4.1.length : Int)).bind fun x16_4 => (disk_Crash.f K x16_4.1 ([] : List Int)).bind fun x17_1 => (ckpt_Last.f K x17_1).bind fun x17_2 => cond (x16_4.2 != (x13_4.1.length : Int)) (some (false)) (cond (x17_2.1 != (IntKind.wrap .i64 ((IntKind.wrap .i64 (x9_1.1 + 1)) + (IntKind.wrap .i64 (a4.tmod 3))))) (some (false)) (cond (!((strOfNums x17_2.2.1).toList == (⟨#[110, 101, 120, 116]⟩ : ByteArray).toList)) (some (false)) (cond (x17_2.2.2 != 0) (some (false)) ((disk_Names.f K x16_4.1).bind fun x20_1 => cond ((x20_1.length : Int) == 2) ((idxO x20_1 0).bind fun x21_5 => (haywainref14_File.f K (IntKind.wrap .i64 ((IntKind.wrap .i64 (x9_1.1 + 1)) + (IntKind.wrap .i64 (a4.tmod 3))))).bind fun x21_8 => cond (x21_5.toList == x21_8.toList) ((idxO x20_1 1).bind fun x21_13 => cond (x21_13.toList == (⟨#[109]⟩ : ByteArray).toList) ((haywainlaw14_knows.f K).bind fun x21_18 => some (x21_18)) (some (false))) (some (false))) (some (false))))))))))))
set_option maxRecDepth 100000 in
set_option maxHeartbeats 1000000 in
theorem haywainlaw14_CkptAgain.con (K : Nat) (a0 : List (List Int)) (a1 : List Int) (a2 : Int) (a3 : List Int) (a4 : Int) (h0 : Hd) (h1 : Hd) (h2 : Hd) (r : Bool) (X : Nat → Nat → Prop) (w : World) (hS : St X w [] [] [] [] [Rd (Kd.slice (Kd.int .u8)) h0.1 h0.2 a0, Rd (Kd.int .u8) h1.1 h1.2 a1, Rd (Kd.int .i64) h2.1 h2.2 a3] w) (H : haywainlaw14_CkptAgain.f K a0 a1 a2 a3 a4 = some r) (hr : r = true) :
    Cn Try.prog 7 [.slice h0.1 a0.length h0.2, .slice h1.1 a1.length h1.2, .int .i64 a2, .slice h2.1 a3.length h2.2, .int .u8 a4] X w [] (fun i : Unit => .bool r) (fun i => []) (fun i => []) (fun i => []) := by
 refine Cn.of Try.func7 (by kernel_rfl) hS ?_
 unfold haywainlaw14_CkptAgain.f at H
 refine J.seq (by kernel_rfl) ?_
 refine J.region (by kernel_rfl) ?_
 refine O.pure 1 [] [0, 1, 2, 3, 4] [] (fr' := [(0, .slice h0.1 a0.length h0.2), (1, .slice h1.1 a1.length h1.2), (2, .int .i64 a2), (3, .slice h2.1 a3.length h2.2), (4, .int .u8 a4)]) (bx' := []) (by kernel_rfl) ?_
 refine O.nil (by kernel_rfl) ?_
 refine J.seq (by kernel_rfl) ?_
 refine J.seq (by kernel_rfl) ?_
 rcases condE H with ⟨hc1, H⟩ | ⟨hc1, H⟩
 ·refine J.region (by kernel_rfl) ?_
  refine O.pure 2 [] [0, 1, 2, 3, 4, 33] [] (fr' := [(0, .slice h0.1 a0.length h0.2), (1, .slice h1.1 a1.length h1.2), (2, .int .i64 a2), (3, .slice h2.1 a3.length h2.2), (4, .int .u8 a4), (33, .int .i64 (a1.length : Int))]) (bx' := []) (by kernel_rfl) ?_
  refine O.q (v := .bool true) (some 34) (Qu.eqv (u := .bool (decide ((a1.length : Int) > 500))) (v := .bool true) (0, 0) [] (by kernel_rfl) (congrArg Value.bool hc1)) (by kernel_rfl) ?_
  refine O.pure 5 [] [0, 1, 2, 3, 4, 39] [] (fr' := [(0, .slice h0.1 a0.length h0.2), (1, .slice h1.1 a1.length h1.2), (2, .int .i64 a2), (3, .slice h2.1 a3.length h2.2), (4, .int .u8 a4), (39, .bool true)]) (bx' := []) (by kernel_rfl) ?_
  refine O.nil (by kernel_rfl) ?_
  refine J.cond (o := .tmp 39) true (by kernel_rfl) (by kernel_rfl) ?_
  refine J.seq (by kernel_rfl) ?_
  obtain ⟨x2_0, hx2_0, H⟩ := bindE H
  refine J.region (by kernel_rfl) ?_
  refine O.e (some 40) (Ev.call0 (xs := []) [] (by kernel_rfl) (by kernel_rfl) (fun w hS => haywainlaw14_knows.con K  _ _ w hS hx2_0 ((Option.some.inj H).trans hr))) (by kernel_rfl) (fun _ => ?_)
  refine O.pure 1 [] [10] [] (fr' := [(10, .bool x2_0)]) (bx' := []) (by kernel_rfl) ?_
  refine O.nil (by kernel_rfl) ?_
  obtain rfl := Option.some.inj H
  exact J.doneS [] [] [] [] [] () (vs := [.bool x2_0]) (by kernel_rfl) (by kernel_rfl) (by kernel_rfl) (by kernel_rfl) (by kernel_rfl) (by decide)
 ·refine J.region (by kernel_rfl) ?_
  refine O.pure 2 [] [0, 1, 2, 3, 4, 33] [] (fr' := [(0, .slice h0.1 a0.length h0.2), (1, .slice h1.1 a1.length h1.2), (2, .int .i64 a2), (3, .slice h2.1 a3.length h2.2), (4, .int .u8 a4), (33, .int .i64 (a1.length : Int))]) (bx' := []) (by kernel_rfl) ?_
  refine O.q (v := .bool false) (some 34) (Qu.eqv (u := .bool (decide ((a1.length : Int) > 500))) (v := .bool false) (0, 0) [] (by kernel_rfl) (congrArg Value.bool hc1)) (by kernel_rfl) ?_
  refine O.pure 5 [] [0, 1, 2, 3, 4, 39] [] (fr' := [(0, .slice h0.1 a0.length h0.2), (1, .slice h1.1 a1.length h1.2), (2, .int .i64 a2), (3, .slice h2.1 a3.length h2.2), (4, .int .u8 a4), (39, .bool (decide ((a3.length : Int) > 100)))]) (bx' := []) (by kernel_rfl) ?_
  refine O.nil (by kernel_rfl) ?_
  rcases condE H with ⟨hc2, H⟩ | ⟨hc2, H⟩
  ·refine J.condT (x := .tmp 39) (t := (decide ((a3.length : Int) > 100))) (by kernel_rfl) (by kernel_rfl) hc2 ?_
   refine J.seq (by kernel_rfl) ?_
   obtain ⟨x2_0, hx2_0, H⟩ := bindE H
   refine J.region (by kernel_rfl) ?_
   refine O.e (some 40) (Ev.call0 (xs := []) [] (by kernel_rfl) (by kernel_rfl) (fun w hS => haywainlaw14_knows.con K  _ _ w hS hx2_0 ((Option.some.inj H).trans hr))) (by kernel_rfl) (fun _ => ?_)
   refine O.pure 1 [] [10] [] (fr' := [(10, .bool x2_0)]) (bx' := []) (by kernel_rfl) ?_
   refine O.nil (by kernel_rfl) ?_
   obtain rfl := Option.some.inj H
   exact J.doneS [] [] [] [] [] () (vs := [.bool x2_0]) (by kernel_rfl) (by kernel_rfl) (by kernel_rfl) (by kernel_rfl) (by kernel_rfl) (by decide)
  ·refine J.condF (x := .tmp 39) (t := (decide ((a3.length : Int) > 100))) (by kernel_rfl) (by kernel_rfl) hc2 ?_
   refine J.skip (by kernel_rfl) ?_
   refine J.seq (by kernel_rfl) ?_
   obtain ⟨x3_1, hx3_1, H⟩ := bindE H
   refine J.region (by kernel_rfl) ?_
   refine O.pure 1 [] [1, 2, 3, 4, 42] [] (fr' := [(1, .slice h1.1 a1.length h1.2), (2, .int .i64 a2), (3, .slice h2.1 a3.length h2.2), (4, .int .u8 a4), (42, .slice h0.1 a0.length h0.2)]) (bx' := []) (by kernel_rfl) ?_
   refine O.e (some 43) (Ev.call0 (xs := [.tmp 42]) [0] (by kernel_rfl) (by kernel_rfl) (fun w hS => haywainlaw14_kept.con K a0 h0  _ _ w hS hx3_1)) (by kernel_rfl) (fun p3_1 => ?_)
   refine O.pure 4 [] [1, 2, 3, 4, 44, 45, 46] [] (fr' := [(1, .slice h1.1 a1.length h1.2), (2, .int .i64 a2), (3, .slice h2.1 a3.length h2.2), (4, .int .u8 a4), (44, .agg #[.slice p3_1.1 x3_1.1.f0.length p3_1.2]), (45, .int .i64 x3_1.2.1), (46, .bool x3_1.2.2)]) (bx' := []) (by kernel_rfl) ?_
   refine O.e (some 11) (Ev.alloc (t := 24) (z := .agg #[.slice none 0 0]) (by kernel_rfl) (by kernel_rfl)) (by kernel_rfl) (fun p3_6 => ?_)
   refine O.pure 3 [(0, 0)] [1, 2, 3, 4, 11, 12, 13] [p3_6, 0] (fr' := [(1, .slice h1.1 a1.length h1.2), (2, .int .i64 a2), (3, .slice h2.1 a3.length h2.2), (4, .int .u8 a4), (11, .pointer (some ⟨p3_6, 0, none⟩)), (12, .int .i64 x3_1.2.1), (13, .bool x3_1.2.2)]) (bx' := [⟨p3_6, [.slice p3_1.1 x3_1.1.f0.length p3_1.2], 24⟩]) (by kernel_rfl) ?_
   refine O.nil (by kernel_rfl) ?_
   refine J.seq (by kernel_rfl) ?_
   refine J.seq (by kernel_rfl) ?_
   refine J.region (by kernel_rfl) ?_
   refine O.pure 2 [] [1, 2, 3, 4, 11, 12, 48] [] (fr' := [(1, .slice h1.1 a1.length h1.2), (2, .int .i64 a2), (3, .slice h2.1 a3.length h2.2), (4, .int .u8 a4), (11, .pointer (some ⟨p3_6, 0, none⟩)), (12, .int .i64 x3_1.2.1), (48, .bool (!x3_1.2.2))]) (bx' := [⟨p3_6, [.slice p3_1.1 x3_1.1.f0.length p3_1.2], 24⟩]) (by kernel_rfl) ?_
   refine O.nil (by kernel_rfl) ?_
   rcases condE H with ⟨hc3, H⟩ | ⟨hc3, H⟩
   ·obtain rfl := Option.some.inj H
    cases hr
   ·refine J.condF (x := .tmp 48) (t := (!x3_1.2.2)) (by kernel_rfl) (by kernel_rfl) hc3 ?_
    refine J.skip (by kernel_rfl) ?_
    refine J.seq (by kernel_rfl) ?_
    obtain ⟨y6_5, hy6_5, H⟩ := bindE H
    have hy6_5a := (appE hy6_5).1
    obtain ⟨x6_6, hx6_6, H⟩ := bindE H
    refine J.drawS (by kernel_rfl) [(0, some 50, .agg #[.slice p3_1.1 x3_1.1.f0.length p3_1.2]), (1, some 51, .int .i64 x3_1.2.1), (2, some 52, .int .i64 (IntKind.wrap .i64 (x3_1.2.1 + 1))), (4, some 54, .slice h1.1 a1.length h1.2)] ([0, 1, 2, 4] ++ []) (by kernel_rfl) ?_
    refine D.mid (cs := [3]) [0, 1, 2, 4] [] [(0, 0)] [p3_6, 0] (by kernel_rfl) (by kernel_rfl) trivial (by kernel_rfl) ⟨?_, trivial⟩
    refine EvStep.mk (some 53) (new := fun p6_3 => []) ([0, 1, 2, 4] ++ []) (by kernel_rfl) (Ev.lit (t := 27) (len := 0) (parts := #[]) (ps := []) (cs := []) (e := 5) (Kd.int .u8) ([] : List Int) (by kernel_rfl) (by kernel_rfl) (by kernel_rfl) (by kernel_rfl) (by kernel_rfl) (by decide) (fun w' hφ => (Els.nil _ _ _))) (fun p6_3 => by kernel_rfl) (fun p6_3 => ?_)
    refine D.mid (cs := [5]) [0, 1, 2, 4] [] [(0, 0)] [p3_6, 0] (by kernel_rfl) (by kernel_rfl) trivial (by kernel_rfl) ⟨?_, trivial⟩
    refine EvStep.mk (some 55) (new := fun p6_5 => []) ([0, 1, 2] ++ []) (by kernel_rfl) (Ev.appSl (d := (Kd.int .u8)) (ys := a1) (A := h1.1) (c := h1.2) (x := .tmp 53) (y := .tmp 54) (t := 27) (bytes := 1) 2 (by kernel_rfl) (by kernel_rfl) (by kernel_rfl) rfl (by kernel_rfl) (by decide) hy6_5a) (fun p6_5 => by kernel_rfl) (fun p6_5 => ?_)
    refine D.mid (cs := [6]) [0, 1, 2] [] [(0, 0)] [p3_6, 0] (by kernel_rfl) (by kernel_rfl) trivial (by kernel_rfl) ⟨?_, trivial⟩
    refine EvStep.mk (some 56) (new := fun p6_6 => [(7, some 49, .tuple #[.slice p6_6.1 x6_6.1.length p6_6.2, .int .i64 x6_6.2]), (8, some 57, .slice p6_6.1 x6_6.1.length p6_6.2), (9, some 58, .int .i64 x6_6.2), (10, some 14, .slice p6_6.1 x6_6.1.length p6_6.2), (11, some 15, .int .i64 x6_6.2)]) ([1, 7, 8, 9, 10, 11] ++ []) (by kernel_rfl) (Ev.mono (fun w hS => hS.freezeH (h := p6_5) (xs := (([] : List Int) ++ a1))) (Ev.call0 (xs := [.tmp 50, .tmp 52, .tmp 55]) [1, 0] (by kernel_rfl) (by kernel_rfl) (fun w hS => ckpt_Save.con K x3_1.1 (IntKind.wrap .i64 (x3_1.2.1 + 1)) (([] : List Int) ++ a1) p3_1 p6_5  _ _ w hS hx6_6))) (fun p6_6 => by kernel_rfl) (fun p6_6 => ?_)
    refine D.fin (fr' := [(2, .int .i64 a2), (3, .slice h2.1 a3.length h2.2), (4, .int .u8 a4), (11, .pointer (some ⟨p3_6, 0, none⟩)), (14, .slice p6_6.1 x6_6.1.length p6_6.2)]) [1, 7, 8, 9, 10, 11] [] [] [] [2, 3, 4, 11, 14] (by kernel_rfl) (by kernel_rfl) trivial (by kernel_rfl) ?_
    refine J.seq (by kernel_rfl) ?_
    obtain ⟨x7_3, hx7_3, H⟩ := bindE H
    refine J.region (by kernel_rfl) ?_
    refine O.pure 3 [(0, 0)] [3, 4, 60, 61, 62] [p3_6, 0] (fr' := [(3, .slice h2.1 a3.length h2.2), (4, .int .u8 a4), (60, .agg #[.slice p3_1.1 x3_1.1.f0.length p3_1.2]), (61, .slice p6_6.1 x6_6.1.length p6_6.2), (62, .int .i64 a2)]) (bx' := [⟨p3_6, [.slice p3_1.1 x3_1.1.f0.length p3_1.2], 24⟩]) (by kernel_rfl) ?_
    refine O.e (some 63) (Ev.mono (fun w hS => hS.freezeH (h := p6_6) (xs := x6_6.1)) (Ev.call0 (xs := [.tmp 60, .tmp 61, .tmp 62]) [2, 0] (by kernel_rfl) (by kernel_rfl) (fun w hS => ckpt_Do.con K x3_1.1 x6_6.1 a2 p3_1 p6_6  _ _ w hS hx7_3))) (by kernel_rfl) (fun p7_3 => ?_)
    refine O.pure 3 [] [3, 4, 64, 65] [] (fr' := [(3, .slice h2.1 a3.length h2.2), (4, .int .u8 a4), (64, .agg #[.slice p7_3.1 x7_3.1.f0.length p7_3.2]), (65, .int .i64 x7_3.2)]) (bx' := [⟨p3_6, [.slice p3_1.1 x3_1.1.f0.length p3_1.2], 24⟩]) (by kernel_rfl) ?_
    refine O.e (some 16) (Ev.alloc (t := 24) (z := .agg #[.slice none 0 0]) (by kernel_rfl) (by kernel_rfl)) (by kernel_rfl) (fun p7_7 => ?_)
    refine O.pure 2 [(0, 0)] [3, 4, 16] [p7_7, 0] (fr' := [(3, .slice h2.1 a3.length h2.2), (4, .int .u8 a4), (16, .pointer (some ⟨p7_7, 0, none⟩))]) (bx' := [⟨p7_7, [.slice p7_3.1 x7_3.1.f0.length p7_3.2], 24⟩, ⟨p3_6, [.slice p3_1.1 x3_1.1.f0.length p3_1.2], 24⟩]) (by kernel_rfl) ?_
    refine O.nil (by kernel_rfl) ?_
    refine J.seq (by kernel_rfl) ?_
    obtain ⟨x8_2, hx8_2, H⟩ := bindE H
    obtain ⟨x8_3, hx8_3, H⟩ := bindE H
    refine J.region (by kernel_rfl) ?_
    refine O.pure 2 [(0, 0)] [4, 67, 68] [p7_7, 0] (fr' := [(4, .int .u8 a4), (67, .agg #[.slice p7_3.1 x7_3.1.f0.length p7_3.2]), (68, .slice h2.1 a3.length h2.2)]) (bx' := [⟨p7_7, [.slice p7_3.1 x7_3.1.f0.length p7_3.2], 24⟩, ⟨p3_6, [.slice p3_1.1 x3_1.1.f0.length p3_1.2], 24⟩]) (by kernel_rfl) ?_
    refine O.e (some 69) (Ev.call0 (xs := [.tmp 67, .tmp 68]) [0, 6] (by kernel_rfl) (by kernel_rfl) (fun w hS => disk_Crash.con K x7_3.1 a3 p7_3 h2  _ _ w hS hx8_2)) (by kernel_rfl) (fun p8_2 => ?_)
    refine O.e (some 70) (Ev.mono (fun w hS => hS.freezeH (h := p8_2) (xs := x8_2.f0)) (Ev.call0 (xs := [.tmp 69]) [0] (by kernel_rfl) (by kernel_rfl) (fun w hS => ckpt_Open.con K x8_2 p8_2  _ _ w hS hx8_3))) (by kernel_rfl) (fun p8_3 => ?_)
    refine O.pure 3 [] [4, 71, 72] [] (fr' := [(4, .int .u8 a4), (71, .agg #[.slice p8_3.1 x8_3.1.f0.length p8_3.2]), (72, .int .i64 x8_3.2)]) (bx' := [⟨p7_7, [.slice p7_3.1 x7_3.1.f0.length p7_3.2], 24⟩, ⟨p3_6, [.slice p3_1.1 x3_1.1.f0.length p3_1.2], 24⟩]) (by kernel_rfl) ?_
    refine O.e (some 18) (Ev.alloc (t := 24) (z := .agg #[.slice none 0 0]) (by kernel_rfl) (by kernel_rfl)) (by kernel_rfl) (fun p8_7 => ?_)
    refine O.pure 2 [(0, 0)] [4, 18, 19] [p8_7, 0] (fr' := [(4, .int .u8 a4), (18, .pointer (some ⟨p8_7, 0, none⟩)), (19, .int .i64 x8_3.2)]) (bx' := [⟨p8_7, [.slice p8_3.1 x8_3.1.f0.length p8_3.2], 24⟩, ⟨p7_7, [.slice p7_3.1 x7_3.1.f0.length p7_3.2], 24⟩, ⟨p3_6, [.slice p3_1.1 x3_1.1.f0.length p3_1.2], 24⟩]) (by kernel_rfl) ?_
    refine O.nil (by kernel_rfl) ?_
    refine J.seq (by kernel_rfl) ?_
    obtain ⟨x9_1, hx9_1, H⟩ := bindE H
    refine J.region (by kernel_rfl) ?_
    refine O.pure 1 [(0, 0)] [4, 18, 19, 74] [p8_7, 0] (fr' := [(4, .int .u8 a4), (18, .pointer (some ⟨p8_7, 0, none⟩)), (19, .int .i64 x8_3.2), (74, .agg #[.slice p8_3.1 x8_3.1.f0.length p8_3.2])]) (bx' := [⟨p8_7, [.slice p8_3.1 x8_3.1.f0.length p8_3.2], 24⟩, ⟨p7_7, [.slice p7_3.1 x7_3.1.f0.length p7_3.2], 24⟩, ⟨p3_6, [.slice p3_1.1 x3_1.1.f0.length p3_1.2], 24⟩]) (by kernel_rfl) ?_
    refine O.e (some 75) (Ev.call0 (xs := [.tmp 74]) [0] (by kernel_rfl) (by kernel_rfl) (fun w hS => ckpt_Last.con K x8_3.1 p8_3  _ _ w hS hx9_1)) (by kernel_rfl) (fun p9_1 => ?_)
    refine O.pure 7 [] [4, 18, 19, 20, 22] [] (fr' := [(4, .int .u8 a4), (18, .pointer (some ⟨p8_7, 0, none⟩)), (19, .int .i64 x8_3.2), (20, .int .i64 x9_1.1), (22, .int .i64 x9_1.2.2)]) (bx' := [⟨p8_7, [.slice p8_3.1 x8_3.1.f0.length p8_3.2], 24⟩, ⟨p7_7, [.slice p7_3.1 x7_3.1.f0.length p7_3.2], 24⟩, ⟨p3_6, [.slice p3_1.1 x3_1.1.f0.length p3_1.2], 24⟩]) (by kernel_rfl) ?_
    refine O.nil (by kernel_rfl) ?_
    refine J.seq (by kernel_rfl) ?_
    refine J.seq (by kernel_rfl) ?_
    rcases condE H with ⟨hc4, H⟩ | ⟨hc4, H⟩
    ·obtain rfl := Option.some.inj H
     cases hr
    ·rcases condE H with ⟨hc5, H⟩ | ⟨hc5, H⟩
     ·refine J.region (by kernel_rfl) ?_
      refine O.pure 1 [] [4, 18, 20, 22, 79] [] (fr' := [(4, .int .u8 a4), (18, .pointer (some ⟨p8_7, 0, none⟩)), (20, .int .i64 x9_1.1), (22, .int .i64 x9_1.2.2), (79, .int .i64 x8_3.2)]) (bx' := [⟨p8_7, [.slice p8_3.1 x8_3.1.f0.length p8_3.2], 24⟩, ⟨p7_7, [.slice p7_3.1 x7_3.1.f0.length p7_3.2], 24⟩, ⟨p3_6, [.slice p3_1.1 x3_1.1.f0.length p3_1.2], 24⟩]) (by kernel_rfl) ?_
      refine O.q (v := .bool false) (some 80) (Qu.eqv (u := .bool (x8_3.2 != 0)) (v := .bool false) (0, 0) [] (by kernel_rfl) (congrArg Value.bool hc4)) (by kernel_rfl) ?_
      refine O.pure 2 [] [4, 18, 20, 22, 81, 82] [] (fr' := [(4, .int .u8 a4), (18, .pointer (some ⟨p8_7, 0, none⟩)), (20, .int .i64 x9_1.1), (22, .int .i64 x9_1.2.2), (81, .bool false), (82, .int .i64 x9_1.2.2)]) (bx' := [⟨p8_7, [.slice p8_3.1 x8_3.1.f0.length p8_3.2], 24⟩, ⟨p7_7, [.slice p7_3.1 x7_3.1.f0.length p7_3.2], 24⟩, ⟨p3_6, [.slice p3_1.1 x3_1.1.f0.length p3_1.2], 24⟩]) (by kernel_rfl) ?_
      refine O.q (v := .bool true) (some 83) (Qu.eqv (u := .bool (x9_1.2.2 != 0)) (v := .bool true) (0, 0) [] (by kernel_rfl) (congrArg Value.bool hc5)) (by kernel_rfl) ?_
      refine O.pure 5 [] [4, 18, 20, 88] [] (fr' := [(4, .int .u8 a4), (18, .pointer (some ⟨p8_7, 0, none⟩)), (20, .int .i64 x9_1.1), (88, .bool (x9_1.2.2 != 4))]) (bx' := [⟨p8_7, [.slice p8_3.1 x8_3.1.f0.length p8_3.2], 24⟩, ⟨p7_7, [.slice p7_3.1 x7_3.1.f0.length p7_3.2], 24⟩, ⟨p3_6, [.slice p3_1.1 x3_1.1.f0.length p3_1.2], 24⟩]) (by kernel_rfl) ?_
      refine O.nil (by kernel_rfl) ?_
      rcases condE H with ⟨hc6, H⟩ | ⟨hc6, H⟩
      ·obtain rfl := Option.some.inj H
       cases hr
      ·refine J.condF (x := .tmp 88) (t := (x9_1.2.2 != 4)) (by kernel_rfl) (by kernel_rfl) hc6 ?_
       refine J.skip (by kernel_rfl) ?_
       refine J.seq (by kernel_rfl) ?_
       obtain ⟨z12_3, hz12_3, H⟩ := bindE H
       have hz12_3a := (remE hz12_3).1
       refine J.region (by kernel_rfl) ?_
       refine O.pure 3 [] [18, 90, 91] [] (fr' := [(18, .pointer (some ⟨p8_7, 0, none⟩)), (90, .int .i64 (IntKind.wrap .i64 (x9_1.1 + 1))), (91, .int .u8 a4)]) (bx' := [⟨p8_7, [.slice p8_3.1 x8_3.1.f0.length p8_3.2], 24⟩, ⟨p7_7, [.slice p7_3.1 x7_3.1.f0.length p7_3.2], 24⟩, ⟨p3_6, [.slice p3_1.1 x3_1.1.f0.length p3_1.2], 24⟩]) (by kernel_rfl) ?_
       refine O.q (v := .int .u8 (a4.tmod 3)) (some 92) (Qu.rem (t := 5) (t' := 5) (x := .tmp 91) (y := .const (.int .u8 3)) (a := a4) (b := 3) (by kernel_rfl) (by kernel_rfl) (by kernel_rfl) hz12_3a) (by kernel_rfl) ?_
       refine O.pure 3 [] [18, 23] [] (fr' := [(18, .pointer (some ⟨p8_7, 0, none⟩)), (23, .int .i64 (IntKind.wrap .i64 ((IntKind.wrap .i64 (x9_1.1 + 1)) + (IntKind.wrap .i64 (a4.tmod 3)))))]) (bx' := [⟨p8_7, [.slice p8_3.1 x8_3.1.f0.length p8_3.2], 24⟩, ⟨p7_7, [.slice p7_3.1 x7_3.1.f0.length p7_3.2], 24⟩, ⟨p3_6, [.slice p3_1.1 x3_1.1.f0.length p3_1.2], 24⟩]) (by kernel_rfl) ?_
       refine O.nil (by kernel_rfl) ?_
       refine J.seq (by kernel_rfl) ?_
       obtain ⟨x13_4, hx13_4, H⟩ := bindE H
       refine J.region (by kernel_rfl) ?_
       refine O.pure 2 [(0, 0)] [18, 23, 96, 97] [p8_7, 0] (fr' := [(18, .pointer (some ⟨p8_7, 0, none⟩)), (23, .int .i64 (IntKind.wrap .i64 ((IntKind.wrap .i64 (x9_1.1 + 1)) + (IntKind.wrap .i64 (a4.tmod 3))))), (96, .agg #[.slice p8_3.1 x8_3.1.f0.length p8_3.2]), (97, .int .i64 (IntKind.wrap .i64 ((IntKind.wrap .i64 (x9_1.1 + 1)) + (IntKind.wrap .i64 (a4.tmod 3)))))]) (bx' := [⟨p8_7, [.slice p8_3.1 x8_3.1.f0.length p8_3.2], 24⟩, ⟨p7_7, [.slice p7_3.1 x7_3.1.f0.length p7_3.2], 24⟩, ⟨p3_6, [.slice p3_1.1 x3_1.1.f0.length p3_1.2], 24⟩]) (by kernel_rfl) ?_
       refine O.e (some 98) (Ev.lit (t := 27) (len := 4) (parts := #[(0, .const (.int .u8 110)), (1, .const (.int .u8 101)), (2, .const (.int .u8 120)), (3, .const (.int .u8 116))]) (ps := [(0, .int .u8 110), (1, .int .u8 101), (2, .int .u8 120), (3, .int .u8 116)]) (cs := [.int .u8 110, .int .u8 101, .int .u8 120, .int .u8 116]) (e := 5) (Kd.int .u8) ([110, 101, 120, 116] : List Int) (by kernel_rfl) (by kernel_rfl) (by kernel_rfl) (by kernel_rfl) (by kernel_rfl) (by decide) (fun w' hφ => (Els.cons (c := [.int .u8 110]) (rfl) (Els.cons (c := [.int .u8 101]) (rfl) (Els.cons (c := [.int .u8 120]) (rfl) (Els.cons (c := [.int .u8 116]) (rfl) (Els.nil _ _ _))))))) (by kernel_rfl) (fun p13_2 => ?_)
       refine O.e (some 99) (Ev.mark (t := 27) (e := 5) (x := .tmp 98) (g := p13_2) (m := 4) (c := 4) (xs := ([110, 101, 120, 116] : List Int)) (by kernel_rfl) (by kernel_rfl) (by kernel_rfl) (by kernel_rfl) rfl) (by kernel_rfl) (fun _ => ?_)
       refine O.e (some 100) (Ev.call0 (xs := [.tmp 96, .tmp 97, .tmp 99]) [2, 0] (by kernel_rfl) (by kernel_rfl) (fun w hS => ckpt_Save.con K x8_3.1 (IntKind.wrap .i64 ((IntKind.wrap .i64 (x9_1.1 + 1)) + (IntKind.wrap .i64 (a4.tmod 3)))) ([110, 101, 120, 116] : List Int) p8_3 ((some ⟨p13_2, 0, none⟩, 4) : Hd)  _ _ w hS hx13_4)) (by kernel_rfl) (fun p13_4 => ?_)
       refine O.pure 5 [] [18, 23, 24, 25] [] (fr' := [(18, .pointer (some ⟨p8_7, 0, none⟩)), (23, .int .i64 (IntKind.wrap .i64 ((IntKind.wrap .i64 (x9_1.1 + 1)) + (IntKind.wrap .i64 (a4.tmod 3))))), (24, .slice p13_4.1 x13_4.1.length p13_4.2), (25, .int .i64 x13_4.2)]) (bx' := [⟨p8_7, [.slice p8_3.1 x8_3.1.f0.length p8_3.2], 24⟩, ⟨p7_7, [.slice p7_3.1 x7_3.1.f0.length p7_3.2], 24⟩, ⟨p3_6, [.slice p3_1.1 x3_1.1.f0.length p3_1.2], 24⟩]) (by kernel_rfl) ?_
       refine O.nil (by kernel_rfl) ?_
       refine J.seq (by kernel_rfl) ?_
       refine J.seq (by kernel_rfl) ?_
       refine J.region (by kernel_rfl) ?_
       refine O.pure 2 [] [18, 23, 24, 104] [] (fr' := [(18, .pointer (some ⟨p8_7, 0, none⟩)), (23, .int .i64 (IntKind.wrap .i64 ((IntKind.wrap .i64 (x9_1.1 + 1)) + (IntKind.wrap .i64 (a4.tmod 3))))), (24, .slice p13_4.1 x13_4.1.length p13_4.2), (104, .bool (x13_4.2 != 0))]) (bx' := [⟨p8_7, [.slice p8_3.1 x8_3.1.f0.length p8_3.2], 24⟩, ⟨p7_7, [.slice p7_3.1 x7_3.1.f0.length p7_3.2], 24⟩, ⟨p3_6, [.slice p3_1.1 x3_1.1.f0.length p3_1.2], 24⟩]) (by kernel_rfl) ?_
       refine O.nil (by kernel_rfl) ?_
       rcases condE H with ⟨hc7, H⟩ | ⟨hc7, H⟩
       ·obtain rfl := Option.some.inj H
        cases hr
       ·refine J.condF (x := .tmp 104) (t := (x13_4.2 != 0)) (by kernel_rfl) (by kernel_rfl) hc7 ?_
        refine J.skip (by kernel_rfl) ?_
        refine J.seq (by kernel_rfl) ?_
        obtain ⟨x16_4, hx16_4, H⟩ := bindE H
        refine J.region (by kernel_rfl) ?_
        refine O.pure 4 [(0, 0)] [23, 24, 106, 107, 109] [p8_7, 0] (fr' := [(23, .int .i64 (IntKind.wrap .i64 ((IntKind.wrap .i64 (x9_1.1 + 1)) + (IntKind.wrap .i64 (a4.tmod 3))))), (24, .slice p13_4.1 x13_4.1.length p13_4.2), (106, .agg #[.slice p8_3.1 x8_3.1.f0.length p8_3.2]), (107, .slice p13_4.1 x13_4.1.length p13_4.2), (109, .int .i64 (x13_4.1.length : Int))]) (bx' := [⟨p8_7, [.slice p8_3.1 x8_3.1.f0.length p8_3.2], 24⟩, ⟨p7_7, [.slice p7_3.1 x7_3.1.f0.length p7_3.2], 24⟩, ⟨p3_6, [.slice p3_1.1 x3_1.1.f0.length p3_1.2], 24⟩]) (by kernel_rfl) ?_
        refine O.e (some 110) (Ev.mono (fun w hS => hS.freezeH (h := p13_4) (xs := x13_4.1)) (Ev.call0 (xs := [.tmp 106, .tmp 107, .tmp 109]) [3, 0] (by kernel_rfl) (by kernel_rfl) (fun w hS => ckpt_Do.con K x8_3.1 x13_4.1 (x13_4.1.length : Int) p8_3 p13_4  _ _ w hS hx16_4))) (by kernel_rfl) (fun p16_4 => ?_)
        refine O.pure 3 [] [23, 24, 111, 112] [] (fr' := [(23, .int .i64 (IntKind.wrap .i64 ((IntKind.wrap .i64 (x9_1.1 + 1)) + (IntKind.wrap .i64 (a4.tmod 3))))), (24, .slice p13_4.1 x13_4.1.length p13_4.2), (111, .agg #[.slice p16_4.1 x16_4.1.f0.length p16_4.2]), (112, .int .i64 x16_4.2)]) (bx' := [⟨p8_7, [.slice p8_3.1 x8_3.1.f0.length p8_3.2], 24⟩, ⟨p7_7, [.slice p7_3.1 x7_3.1.f0.length p7_3.2], 24⟩, ⟨p3_6, [.slice p3_1.1 x3_1.1.f0.length p3_1.2], 24⟩]) (by kernel_rfl) ?_
        refine O.e (some 26) (Ev.alloc (t := 24) (z := .agg #[.slice none 0 0]) (by kernel_rfl) (by kernel_rfl)) (by kernel_rfl) (fun p16_8 => ?_)
        refine O.pure 2 [(0, 0)] [23, 24, 26, 27] [p16_8, 0] (fr' := [(23, .int .i64 (IntKind.wrap .i64 ((IntKind.wrap .i64 (x9_1.1 + 1)) + (IntKind.wrap .i64 (a4.tmod 3))))), (24, .slice p13_4.1 x13_4.1.length p13_4.2), (26, .pointer (some ⟨p16_8, 0, none⟩)), (27, .int .i64 x16_4.2)]) (bx' := [⟨p16_8, [.slice p16_4.1 x16_4.1.f0.length p16_4.2], 24⟩, ⟨p8_7, [.slice p8_3.1 x8_3.1.f0.length p8_3.2], 24⟩, ⟨p7_7, [.slice p7_3.1 x7_3.1.f0.length p7_3.2], 24⟩, ⟨p3_6, [.slice p3_1.1 x3_1.1.f0.length p3_1.2], 24⟩]) (by kernel_rfl) ?_
        refine O.nil (by kernel_rfl) ?_
        refine J.seq (by kernel_rfl) ?_
        obtain ⟨x17_1, hx17_1, H⟩ := bindE H
        obtain ⟨x17_2, hx17_2, H⟩ := bindE H
        refine J.region (by kernel_rfl) ?_
        refine O.pure 1 [(0, 0)] [23, 24, 26, 27, 114] [p16_8, 0] (fr' := [(23, .int .i64 (IntKind.wrap .i64 ((IntKind.wrap .i64 (x9_1.1 + 1)) + (IntKind.wrap .i64 (a4.tmod 3))))), (24, .slice p13_4.1 x13_4.1.length p13_4.2), (26, .pointer (some ⟨p16_8, 0, none⟩)), (27, .int .i64 x16_4.2), (114, .agg #[.slice p16_4.1 x16_4.1.f0.length p16_4.2])]) (bx' := [⟨p16_8, [.slice p16_4.1 x16_4.1.f0.length p16_4.2], 24⟩, ⟨p8_7, [.slice p8_3.1 x8_3.1.f0.length p8_3.2], 24⟩, ⟨p7_7, [.slice p7_3.1 x7_3.1.f0.length p7_3.2], 24⟩, ⟨p3_6, [.slice p3_1.1 x3_1.1.f0.length p3_1.2], 24⟩]) (by kernel_rfl) ?_
        refine O.e (some 115) (Ev.mono (fun w hS => hS.add (fun w' _ => Rd.nil (Kd.int .i64) w')) (Ev.call0 (xs := [.tmp 114, .const (.slice none 0 0)]) [1, 0] (by kernel_rfl) (by kernel_rfl) (fun w hS => disk_Crash.con K x16_4.1 ([] : List Int) p16_4 (none, 0)  _ _ w hS hx17_1))) (by kernel_rfl) (fun p17_1 => ?_)
        refine O.e (some 116) (Ev.mono (fun w hS => hS.freezeH (h := p17_1) (xs := x17_1.f0)) (Ev.call0 (xs := [.tmp 115]) [0] (by kernel_rfl) (by kernel_rfl) (fun w hS => ckpt_Last.con K x17_1 p17_1  _ _ w hS hx17_2))) (by kernel_rfl) (fun p17_2 => ?_)
        refine O.pure 7 [] [23, 24, 26, 27, 28, 29, 30] [] (fr' := [(23, .int .i64 (IntKind.wrap .i64 ((IntKind.wrap .i64 (x9_1.1 + 1)) + (IntKind.wrap .i64 (a4.tmod 3))))), (24, .slice p13_4.1 x13_4.1.length p13_4.2), (26, .pointer (some ⟨p16_8, 0, none⟩)), (27, .int .i64 x16_4.2), (28, .int .i64 x17_2.1), (29, .slice p17_2.1 x17_2.2.1.length p17_2.2), (30, .int .i64 x17_2.2.2)]) (bx' := [⟨p16_8, [.slice p16_4.1 x16_4.1.f0.length p16_4.2], 24⟩, ⟨p8_7, [.slice p8_3.1 x8_3.1.f0.length p8_3.2], 24⟩, ⟨p7_7, [.slice p7_3.1 x7_3.1.f0.length p7_3.2], 24⟩, ⟨p3_6, [.slice p3_1.1 x3_1.1.f0.length p3_1.2], 24⟩]) (by kernel_rfl) ?_
        refine O.nil (by kernel_rfl) ?_
        refine J.seq (by kernel_rfl) ?_
        refine J.seq (by kernel_rfl) ?_
        rcases condE H with ⟨hc8, H⟩ | ⟨hc8, H⟩
        ·obtain rfl := Option.some.inj H
         cases hr
        ·rcases condE H with ⟨hc9, H⟩ | ⟨hc9, H⟩
         ·obtain rfl := Option.some.inj H
          cases hr
         ·rcases condE H with ⟨hc10, H⟩ | ⟨hc10, H⟩
          ·obtain rfl := Option.some.inj H
           cases hr
          ·refine J.region (by kernel_rfl) ?_
           refine O.pure 3 [] [23, 26, 28, 29, 30, 120, 122] [] (fr' := [(23, .int .i64 (IntKind.wrap .i64 ((IntKind.wrap .i64 (x9_1.1 + 1)) + (IntKind.wrap .i64 (a4.tmod 3))))), (26, .pointer (some ⟨p16_8, 0, none⟩)), (28, .int .i64 x17_2.1), (29, .slice p17_2.1 x17_2.2.1.length p17_2.2), (30, .int .i64 x17_2.2.2), (120, .int .i64 x16_4.2), (122, .int .i64 (x13_4.1.length : Int))]) (bx' := [⟨p16_8, [.slice p16_4.1 x16_4.1.f0.length p16_4.2], 24⟩, ⟨p8_7, [.slice p8_3.1 x8_3.1.f0.length p8_3.2], 24⟩, ⟨p7_7, [.slice p7_3.1 x7_3.1.f0.length p7_3.2], 24⟩, ⟨p3_6, [.slice p3_1.1 x3_1.1.f0.length p3_1.2], 24⟩]) (by kernel_rfl) ?_
           refine O.q (v := .bool false) (some 123) (Qu.eqv (u := .bool (x16_4.2 != (x13_4.1.length : Int))) (v := .bool false) (0, 0) [] (by kernel_rfl) (congrArg Value.bool hc8)) (by kernel_rfl) ?_
           refine O.pure 3 [] [23, 26, 29, 30, 124, 125, 126] [] (fr' := [(23, .int .i64 (IntKind.wrap .i64 ((IntKind.wrap .i64 (x9_1.1 + 1)) + (IntKind.wrap .i64 (a4.tmod 3))))), (26, .pointer (some ⟨p16_8, 0, none⟩)), (29, .slice p17_2.1 x17_2.2.1.length p17_2.2), (30, .int .i64 x17_2.2.2), (124, .bool false), (125, .int .i64 x17_2.1), (126, .int .i64 (IntKind.wrap .i64 ((IntKind.wrap .i64 (x9_1.1 + 1)) + (IntKind.wrap .i64 (a4.tmod 3)))))]) (bx' := [⟨p16_8, [.slice p16_4.1 x16_4.1.f0.length p16_4.2], 24⟩, ⟨p8_7, [.slice p8_3.1 x8_3.1.f0.length p8_3.2], 24⟩, ⟨p7_7, [.slice p7_3.1 x7_3.1.f0.length p7_3.2], 24⟩, ⟨p3_6, [.slice p3_1.1 x3_1.1.f0.length p3_1.2], 24⟩]) (by kernel_rfl) ?_
           refine O.q (v := .bool false) (some 127) (Qu.eqv (u := .bool (x17_2.1 != (IntKind.wrap .i64 ((IntKind.wrap .i64 (x9_1.1 + 1)) + (IntKind.wrap .i64 (a4.tmod 3)))))) (v := .bool false) (0, 0) [] (by kernel_rfl) (congrArg Value.bool hc9)) (by kernel_rfl) ?_
           refine O.pure 3 [] [23, 26, 30, 129, 130] [] (fr' := [(23, .int .i64 (IntKind.wrap .i64 ((IntKind.wrap .i64 (x9_1.1 + 1)) + (IntKind.wrap .i64 (a4.tmod 3))))), (26, .pointer (some ⟨p16_8, 0, none⟩)), (30, .int .i64 x17_2.2.2), (129, .bool false), (130, .slice p17_2.1 x17_2.2.1.length p17_2.2)]) (bx' := [⟨p16_8, [.slice p16_4.1 x16_4.1.f0.length p16_4.2], 24⟩, ⟨p8_7, [.slice p8_3.1 x8_3.1.f0.length p8_3.2], 24⟩, ⟨p7_7, [.slice p7_3.1 x7_3.1.f0.length p7_3.2], 24⟩, ⟨p3_6, [.slice p3_1.1 x3_1.1.f0.length p3_1.2], 24⟩]) (by kernel_rfl) ?_
           refine O.q (v := .string (strOfNums x17_2.2.1)) (some 131) (Qu.str (t := 27) (u := 9) (x := .tmp 130) (h := p17_2) (xs := x17_2.2.1) 0 (by kernel_rfl) (by kernel_rfl) (by kernel_rfl) (by kernel_rfl) rfl) (by kernel_rfl) ?_
           refine O.q (v := .bool false) (some 132) (Qu.eqv (u := .bool (!((strOfNums x17_2.2.1).toList == (⟨#[110, 101, 120, 116]⟩ : ByteArray).toList))) (v := .bool false) (0, 0) [] (by kernel_rfl) (congrArg Value.bool hc10)) (by kernel_rfl) ?_
           refine O.pure 5 [] [23, 26, 137] [] (fr' := [(23, .int .i64 (IntKind.wrap .i64 ((IntKind.wrap .i64 (x9_1.1 + 1)) + (IntKind.wrap .i64 (a4.tmod 3))))), (26, .pointer (some ⟨p16_8, 0, none⟩)), (137, .bool (x17_2.2.2 != 0))]) (bx' := [⟨p16_8, [.slice p16_4.1 x16_4.1.f0.length p16_4.2], 24⟩, ⟨p8_7, [.slice p8_3.1 x8_3.1.f0.length p8_3.2], 24⟩, ⟨p7_7, [.slice p7_3.1 x7_3.1.f0.length p7_3.2], 24⟩, ⟨p3_6, [.slice p3_1.1 x3_1.1.f0.length p3_1.2], 24⟩]) (by kernel_rfl) ?_
           refine O.nil (by kernel_rfl) ?_
           rcases condE H with ⟨hc11, H⟩ | ⟨hc11, H⟩
           ·obtain rfl := Option.some.inj H
            cases hr
           ·refine J.condF (x := .tmp 137) (t := (x17_2.2.2 != 0)) (by kernel_rfl) (by kernel_rfl) hc11 ?_
            refine J.skip (by kernel_rfl) ?_
            refine J.seq (by kernel_rfl) ?_
            obtain ⟨x20_1, hx20_1, H⟩ := bindE H
            refine J.region (by kernel_rfl) ?_
            refine O.pure 1 [(0, 0)] [23, 138] [p16_8, 0] (fr' := [(23, .int .i64 (IntKind.wrap .i64 ((IntKind.wrap .i64 (x9_1.1 + 1)) + (IntKind.wrap .i64 (a4.tmod 3))))), (138, .agg #[.slice p16_4.1 x16_4.1.f0.length p16_4.2])]) (bx' := [⟨p16_8, [.slice p16_4.1 x16_4.1.f0.length p16_4.2], 24⟩, ⟨p8_7, [.slice p8_3.1 x8_3.1.f0.length p8_3.2], 24⟩, ⟨p7_7, [.slice p7_3.1 x7_3.1.f0.length p7_3.2], 24⟩, ⟨p3_6, [.slice p3_1.1 x3_1.1.f0.length p3_1.2], 24⟩]) (by kernel_rfl) ?_
            refine O.e (some 139) (Ev.call0 (xs := [.tmp 138]) [3] (by kernel_rfl) (by kernel_rfl) (fun w hS => disk_Names.con K x16_4.1 p16_4  _ _ w hS hx20_1)) (by kernel_rfl) (fun p20_1 => ?_)
            refine O.pure 1 [] [23, 31] [] (fr' := [(23, .int .i64 (IntKind.wrap .i64 ((IntKind.wrap .i64 (x9_1.1 + 1)) + (IntKind.wrap .i64 (a4.tmod 3))))), (31, .slice p20_1.1 x20_1.length p20_1.2)]) (bx' := [⟨p16_8, [.slice p16_4.1 x16_4.1.f0.length p16_4.2], 24⟩, ⟨p8_7, [.slice p8_3.1 x8_3.1.f0.length p8_3.2], 24⟩, ⟨p7_7, [.slice p7_3.1 x7_3.1.f0.length p7_3.2], 24⟩, ⟨p3_6, [.slice p3_1.1 x3_1.1.f0.length p3_1.2], 24⟩]) (by kernel_rfl) ?_
            refine O.nil (by kernel_rfl) ?_
            refine J.seq (by kernel_rfl) ?_
            rcases condE H with ⟨hc12, H⟩ | ⟨hc12, H⟩
            ·obtain ⟨x21_5, hx21_5, H⟩ := bindE H
             obtain ⟨hx21_5a, hx21_5⟩ := idxE hx21_5
             obtain ⟨x21_8, hx21_8, H⟩ := bindE H
             rcases condE H with ⟨hc13, H⟩ | ⟨hc13, H⟩
             ·obtain ⟨x21_13, hx21_13, H⟩ := bindE H
              obtain ⟨hx21_13a, hx21_13⟩ := idxE hx21_13
              rcases condE H with ⟨hc14, H⟩ | ⟨hc14, H⟩
              ·obtain ⟨x21_18, hx21_18, H⟩ := bindE H
               refine J.mono (fun w hS => hS.freezeH (h := p20_1) (xs := x20_1)) ?_
               refine J.open (d := Kd.string) (h := p20_1) (i := 0) 0 rfl hx21_5 (Lay.string _) (fun p21_5 hp21_5A => ?_)
               refine J.open (d := Kd.string) (h := p20_1) (i := 1) 0 rfl hx21_13 (Lay.string _) (fun p21_13 hp21_13A => ?_)
               refine J.drawS (by kernel_rfl) [(0, some 140, .slice p20_1.1 x20_1.length p20_1.2), (1, some 141, .int .i64 (x20_1.length : Int)), (3, some 143, .bool true), (4, some 144, .slice p20_1.1 x20_1.length p20_1.2), (6, some 146, .string x21_5), (7, some 147, .int .i64 (IntKind.wrap .i64 ((IntKind.wrap .i64 (x9_1.1 + 1)) + (IntKind.wrap .i64 (a4.tmod 3))))), (2, some 142, .bool true), (5, some 145, .pointer (some ⟨p21_5.1, p21_5.2.1 + (0 : Int).toNat * 1, none⟩))] ([0, 1, 3, 4, 6, 7] ++ [2, 5]) (by kernel_rfl) ?_
               refine D.mid (cs := [8]) [0, 1, 3, 4, 6, 7] [2, 5] [(5, 0)] [p21_5.1, p21_5.2.1 + (0 : Int).toNat * 1] (by kernel_rfl) (by kernel_rfl) (⟨QuAt.mk (v := .bool true) (some 142) (by kernel_rfl) (by kernel_rfl) (Qu.eqv (u := .bool ((x20_1.length : Int) == 2)) (v := .bool true) (0, 0) [] (by kernel_rfl) (congrArg Value.bool hc12)), QuAt.mk (v := .pointer (some ⟨p21_5.1, p21_5.2.1 + (0 : Int).toNat * 1, none⟩)) (some 145) (by kernel_rfl) (by kernel_rfl) (Qu.idx (t := 64) (x := .tmp 144) (y := .const (.int .i64 0)) (c := p20_1.2) (kk := .i64) (sz := 1) (by kernel_rfl) (by kernel_rfl) (by kernel_rfl) (by kernel_rfl) hx21_5a (idx_lt hx21_5) hp21_5A), trivial⟩) (by kernel_rfl) ⟨?_, trivial⟩
               refine EvStep.mk (some 148) (new := fun _ => [(9, some 149, .bool true), (10, some 150, .bool true), (11, some 151, .bool true), (12, some 152, .slice p20_1.1 x20_1.length p20_1.2), (13, some 153, .pointer (some ⟨p21_13.1, p21_13.2.1 + (1 : Int).toNat * 1, none⟩)), (14, some 154, .string x21_13), (15, some 155, .bool true), (16, some 156, .bool true), (17, some 157, .bool true)]) ([0, 1, 4, 6, 10, 11, 12, 14, 16, 17] ++ [2, 5, 9, 13, 15]) (by kernel_rfl) (Ev.call0 (xs := [.tmp 147]) [] (by kernel_rfl) (by kernel_rfl) (fun w hS => haywainref14_File.con K (IntKind.wrap .i64 ((IntKind.wrap .i64 (x9_1.1 + 1)) + (IntKind.wrap .i64 (a4.tmod 3))))  _ _ w hS hx21_8)) (fun _ => by kernel_rfl) (fun _ => ?_)
               refine D.mid (cs := [18]) [0, 1, 4, 6, 10, 11, 12, 14, 16, 17] [2, 5, 9, 13, 15] [(5, 0), (4, 0)] [p21_5.1, p21_5.2.1 + (0 : Int).toNat * 1, p21_13.1, p21_13.2.1 + (1 : Int).toNat * 1] (by kernel_rfl) (by kernel_rfl) (⟨QuAt.mk (v := .bool true) (some 142) (by kernel_rfl) (by kernel_rfl) (Qu.eqv (u := .bool ((x20_1.length : Int) == 2)) (v := .bool true) (0, 0) [] (by kernel_rfl) (congrArg Value.bool hc12)), QuAt.mk (v := .pointer (some ⟨p21_5.1, p21_5.2.1 + (0 : Int).toNat * 1, none⟩)) (some 145) (by kernel_rfl) (by kernel_rfl) (Qu.idx (t := 64) (x := .tmp 144) (y := .const (.int .i64 0)) (c := p20_1.2) (kk := .i64) (sz := 1) (by kernel_rfl) (by kernel_rfl) (by kernel_rfl) (by kernel_rfl) hx21_5a (idx_lt hx21_5) hp21_5A), QuAt.mk (v := .bool true) (some 149) (by kernel_rfl) (by kernel_rfl) (Qu.eqv (u := .bool (x21_5.toList == x21_8.toList)) (v := .bool true) (0, 0) [] (by kernel_rfl) (congrArg Value.bool hc13)), QuAt.mk (v := .pointer (some ⟨p21_13.1, p21_13.2.1 + (1 : Int).toNat * 1, none⟩)) (some 153) (by kernel_rfl) (by kernel_rfl) (Qu.idx (t := 64) (x := .tmp 152) (y := .const (.int .i64 1)) (c := p20_1.2) (kk := .i64) (sz := 1) (by kernel_rfl) (by kernel_rfl) (by kernel_rfl) (by kernel_rfl) hx21_13a (idx_lt hx21_13) hp21_13A), QuAt.mk (v := .bool true) (some 155) (by kernel_rfl) (by kernel_rfl) (Qu.eqv (u := .bool (x21_13.toList == (⟨#[109]⟩ : ByteArray).toList)) (v := .bool true) (0, 0) [] (by kernel_rfl) (congrArg Value.bool hc14)), trivial⟩) (by kernel_rfl) ⟨?_, trivial⟩
               refine EvStep.mk (some 158) (new := fun _ => [(19, some 159, .bool x21_18), (20, some 10, .bool x21_18)]) ([0, 1, 4, 6, 10, 11, 12, 14, 16, 19, 20] ++ [2, 5, 9, 13, 15]) (by kernel_rfl) (Ev.call0 (xs := []) [] (by kernel_rfl) (by kernel_rfl) (fun w hS => haywainlaw14_knows.con K  _ _ w hS hx21_18 ((Option.some.inj H).trans hr))) (fun _ => by kernel_rfl) (fun _ => ?_)
               refine D.fin (fr' := [(10, .bool x21_18)]) [0, 1, 4, 6, 10, 11, 12, 14, 16, 19, 20] [2, 5, 9, 13, 15] [(5, 0), (4, 0)] [p21_5.1, p21_5.2.1 + (0 : Int).toNat * 1, p21_13.1, p21_13.2.1 + (1 : Int).toNat * 1] [10] (by kernel_rfl) (by kernel_rfl) (⟨QuAt.mk (v := .bool true) (some 142) (by kernel_rfl) (by kernel_rfl) (Qu.eqv (u := .bool ((x20_1.length : Int) == 2)) (v := .bool true) (0, 0) [] (by kernel_rfl) (congrArg Value.bool hc12)), QuAt.mk (v := .pointer (some ⟨p21_5.1, p21_5.2.1 + (0 : Int).toNat * 1, none⟩)) (some 145) (by kernel_rfl) (by kernel_rfl) (Qu.idx (t := 64) (x := .tmp 144) (y := .const (.int .i64 0)) (c := p20_1.2) (kk := .i64) (sz := 1) (by kernel_rfl) (by kernel_rfl) (by kernel_rfl) (by kernel_rfl) hx21_5a (idx_lt hx21_5) hp21_5A), QuAt.mk (v := .bool true) (some 149) (by kernel_rfl) (by kernel_rfl) (Qu.eqv (u := .bool (x21_5.toList == x21_8.toList)) (v := .bool true) (0, 0) [] (by kernel_rfl) (congrArg Value.bool hc13)), QuAt.mk (v := .pointer (some ⟨p21_13.1, p21_13.2.1 + (1 : Int).toNat * 1, none⟩)) (some 153) (by kernel_rfl) (by kernel_rfl) (Qu.idx (t := 64) (x := .tmp 152) (y := .const (.int .i64 1)) (c := p20_1.2) (kk := .i64) (sz := 1) (by kernel_rfl) (by kernel_rfl) (by kernel_rfl) (by kernel_rfl) hx21_13a (idx_lt hx21_13) hp21_13A), QuAt.mk (v := .bool true) (some 155) (by kernel_rfl) (by kernel_rfl) (Qu.eqv (u := .bool (x21_13.toList == (⟨#[109]⟩ : ByteArray).toList)) (v := .bool true) (0, 0) [] (by kernel_rfl) (congrArg Value.bool hc14)), trivial⟩) (by kernel_rfl) ?_
               obtain rfl := Option.some.inj H
               exact J.doneS [] [] [] [] [] () (vs := [.bool x21_18]) (by kernel_rfl) (by kernel_rfl) (by kernel_rfl) (by kernel_rfl) (by kernel_rfl) (by decide)
              ·obtain rfl := Option.some.inj H
               cases hr
             ·obtain rfl := Option.some.inj H
              cases hr
            ·obtain rfl := Option.some.inj H
             cases hr
     ·refine J.region (by kernel_rfl) ?_
      refine O.pure 1 [] [4, 18, 20, 22, 79] [] (fr' := [(4, .int .u8 a4), (18, .pointer (some ⟨p8_7, 0, none⟩)), (20, .int .i64 x9_1.1), (22, .int .i64 x9_1.2.2), (79, .int .i64 x8_3.2)]) (bx' := [⟨p8_7, [.slice p8_3.1 x8_3.1.f0.length p8_3.2], 24⟩, ⟨p7_7, [.slice p7_3.1 x7_3.1.f0.length p7_3.2], 24⟩, ⟨p3_6, [.slice p3_1.1 x3_1.1.f0.length p3_1.2], 24⟩]) (by kernel_rfl) ?_
      refine O.q (v := .bool false) (some 80) (Qu.eqv (u := .bool (x8_3.2 != 0)) (v := .bool false) (0, 0) [] (by kernel_rfl) (congrArg Value.bool hc4)) (by kernel_rfl) ?_
      refine O.pure 2 [] [4, 18, 20, 22, 81, 82] [] (fr' := [(4, .int .u8 a4), (18, .pointer (some ⟨p8_7, 0, none⟩)), (20, .int .i64 x9_1.1), (22, .int .i64 x9_1.2.2), (81, .bool false), (82, .int .i64 x9_1.2.2)]) (bx' := [⟨p8_7, [.slice p8_3.1 x8_3.1.f0.length p8_3.2], 24⟩, ⟨p7_7, [.slice p7_3.1 x7_3.1.f0.length p7_3.2], 24⟩, ⟨p3_6, [.slice p3_1.1 x3_1.1.f0.length p3_1.2], 24⟩]) (by kernel_rfl) ?_
      refine O.q (v := .bool false) (some 83) (Qu.eqv (u := .bool (x9_1.2.2 != 0)) (v := .bool false) (0, 0) [] (by kernel_rfl) (congrArg Value.bool hc5)) (by kernel_rfl) ?_
      refine O.pure 5 [] [4, 18, 20, 88] [] (fr' := [(4, .int .u8 a4), (18, .pointer (some ⟨p8_7, 0, none⟩)), (20, .int .i64 x9_1.1), (88, .bool false)]) (bx' := [⟨p8_7, [.slice p8_3.1 x8_3.1.f0.length p8_3.2], 24⟩, ⟨p7_7, [.slice p7_3.1 x7_3.1.f0.length p7_3.2], 24⟩, ⟨p3_6, [.slice p3_1.1 x3_1.1.f0.length p3_1.2], 24⟩]) (by kernel_rfl) ?_
      refine O.nil (by kernel_rfl) ?_
      refine J.cond (o := .tmp 88) false (by kernel_rfl) (by kernel_rfl) ?_
      refine J.skip (by kernel_rfl) ?_
      refine J.seq (by kernel_rfl) ?_
      obtain ⟨z12_3, hz12_3, H⟩ := bindE H
      have hz12_3a := (remE hz12_3).1
      refine J.region (by kernel_rfl) ?_
      refine O.pure 3 [] [18, 90, 91] [] (fr' := [(18, .pointer (some ⟨p8_7, 0, none⟩)), (90, .int .i64 (IntKind.wrap .i64 (x9_1.1 + 1))), (91, .int .u8 a4)]) (bx' := [⟨p8_7, [.slice p8_3.1 x8_3.1.f0.length p8_3.2], 24⟩, ⟨p7_7, [.slice p7_3.1 x7_3.1.f0.length p7_3.2], 24⟩, ⟨p3_6, [.slice p3_1.1 x3_1.1.f0.length p3_1.2], 24⟩]) (by kernel_rfl) ?_
      refine O.q (v := .int .u8 (a4.tmod 3)) (some 92) (Qu.rem (t := 5) (t' := 5) (x := .tmp 91) (y := .const (.int .u8 3)) (a := a4) (b := 3) (by kernel_rfl) (by kernel_rfl) (by kernel_rfl) hz12_3a) (by kernel_rfl) ?_
      refine O.pure 3 [] [18, 23] [] (fr' := [(18, .pointer (some ⟨p8_7, 0, none⟩)), (23, .int .i64 (IntKind.wrap .i64 ((IntKind.wrap .i64 (x9_1.1 + 1)) + (IntKind.wrap .i64 (a4.tmod 3)))))]) (bx' := [⟨p8_7, [.slice p8_3.1 x8_3.1.f0.length p8_3.2], 24⟩, ⟨p7_7, [.slice p7_3.1 x7_3.1.f0.length p7_3.2], 24⟩, ⟨p3_6, [.slice p3_1.1 x3_1.1.f0.length p3_1.2], 24⟩]) (by kernel_rfl) ?_
      refine O.nil (by kernel_rfl) ?_
      refine J.seq (by kernel_rfl) ?_
      obtain ⟨x13_4, hx13_4, H⟩ := bindE H
      refine J.region (by kernel_rfl) ?_
      refine O.pure 2 [(0, 0)] [18, 23, 96, 97] [p8_7, 0] (fr' := [(18, .pointer (some ⟨p8_7, 0, none⟩)), (23, .int .i64 (IntKind.wrap .i64 ((IntKind.wrap .i64 (x9_1.1 + 1)) + (IntKind.wrap .i64 (a4.tmod 3))))), (96, .agg #[.slice p8_3.1 x8_3.1.f0.length p8_3.2]), (97, .int .i64 (IntKind.wrap .i64 ((IntKind.wrap .i64 (x9_1.1 + 1)) + (IntKind.wrap .i64 (a4.tmod 3)))))]) (bx' := [⟨p8_7, [.slice p8_3.1 x8_3.1.f0.length p8_3.2], 24⟩, ⟨p7_7, [.slice p7_3.1 x7_3.1.f0.length p7_3.2], 24⟩, ⟨p3_6, [.slice p3_1.1 x3_1.1.f0.length p3_1.2], 24⟩]) (by kernel_rfl) ?_
      refine O.e (some 98) (Ev.lit (t := 27) (len := 4) (parts := #[(0, .const (.int .u8 110)), (1, .const (.int .u8 101)), (2, .const (.int .u8 120)), (3, .const (.int .u8 116))]) (ps := [(0, .int .u8 110), (1, .int .u8 101), (2, .int .u8 120), (3, .int .u8 116)]) (cs := [.int .u8 110, .int .u8 101, .int .u8 120, .int .u8 116]) (e := 5) (Kd.int .u8) ([110, 101, 120, 116] : List Int) (by kernel_rfl) (by kernel_rfl) (by kernel_rfl) (by kernel_rfl) (by kernel_rfl) (by decide) (fun w' hφ => (Els.cons (c := [.int .u8 110]) (rfl) (Els.cons (c := [.int .u8 101]) (rfl) (Els.cons (c := [.int .u8 120]) (rfl) (Els.cons (c := [.int .u8 116]) (rfl) (Els.nil _ _ _))))))) (by kernel_rfl) (fun p13_2 => ?_)
      refine O.e (some 99) (Ev.mark (t := 27) (e := 5) (x := .tmp 98) (g := p13_2) (m := 4) (c := 4) (xs := ([110, 101, 120, 116] : List Int)) (by kernel_rfl) (by kernel_rfl) (by kernel_rfl) (by kernel_rfl) rfl) (by kernel_rfl) (fun _ => ?_)
      refine O.e (some 100) (Ev.call0 (xs := [.tmp 96, .tmp 97, .tmp 99]) [2, 0] (by kernel_rfl) (by kernel_rfl) (fun w hS => ckpt_Save.con K x8_3.1 (IntKind.wrap .i64 ((IntKind.wrap .i64 (x9_1.1 + 1)) + (IntKind.wrap .i64 (a4.tmod 3)))) ([110, 101, 120, 116] : List Int) p8_3 ((some ⟨p13_2, 0, none⟩, 4) : Hd)  _ _ w hS hx13_4)) (by kernel_rfl) (fun p13_4 => ?_)
      refine O.pure 5 [] [18, 23, 24, 25] [] (fr' := [(18, .pointer (some ⟨p8_7, 0, none⟩)), (23, .int .i64 (IntKind.wrap .i64 ((IntKind.wrap .i64 (x9_1.1 + 1)) + (IntKind.wrap .i64 (a4.tmod 3))))), (24, .slice p13_4.1 x13_4.1.length p13_4.2), (25, .int .i64 x13_4.2)]) (bx' := [⟨p8_7, [.slice p8_3.1 x8_3.1.f0.length p8_3.2], 24⟩, ⟨p7_7, [.slice p7_3.1 x7_3.1.f0.length p7_3.2], 24⟩, ⟨p3_6, [.slice p3_1.1 x3_1.1.f0.length p3_1.2], 24⟩]) (by kernel_rfl) ?_
      refine O.nil (by kernel_rfl) ?_
      refine J.seq (by kernel_rfl) ?_
      refine J.seq (by kernel_rfl) ?_
      refine J.region (by kernel_rfl) ?_
      refine O.pure 2 [] [18, 23, 24, 104] [] (fr' := [(18, .pointer (some ⟨p8_7, 0, none⟩)), (23, .int .i64 (IntKind.wrap .i64 ((IntKind.wrap .i64 (x9_1.1 + 1)) + (IntKind.wrap .i64 (a4.tmod 3))))), (24, .slice p13_4.1 x13_4.1.length p13_4.2), (104, .bool (x13_4.2 != 0))]) (bx' := [⟨p8_7, [.slice p8_3.1 x8_3.1.f0.length p8_3.2], 24⟩, ⟨p7_7, [.slice p7_3.1 x7_3.1.f0.length p7_3.2], 24⟩, ⟨p3_6, [.slice p3_1.1 x3_1.1.f0.length p3_1.2], 24⟩]) (by kernel_rfl) ?_
      refine O.nil (by kernel_rfl) ?_
      rcases condE H with ⟨hc15, H⟩ | ⟨hc15, H⟩
      ·obtain rfl := Option.some.inj H
       cases hr
      ·refine J.condF (x := .tmp 104) (t := (x13_4.2 != 0)) (by kernel_rfl) (by kernel_rfl) hc15 ?_
       refine J.skip (by kernel_rfl) ?_
       refine J.seq (by kernel_rfl) ?_
       obtain ⟨x16_4, hx16_4, H⟩ := bindE H
       refine J.region (by kernel_rfl) ?_
       refine O.pure 4 [(0, 0)] [23, 24, 106, 107, 109] [p8_7, 0] (fr' := [(23, .int .i64 (IntKind.wrap .i64 ((IntKind.wrap .i64 (x9_1.1 + 1)) + (IntKind.wrap .i64 (a4.tmod 3))))), (24, .slice p13_4.1 x13_4.1.length p13_4.2), (106, .agg #[.slice p8_3.1 x8_3.1.f0.length p8_3.2]), (107, .slice p13_4.1 x13_4.1.length p13_4.2), (109, .int .i64 (x13_4.1.length : Int))]) (bx' := [⟨p8_7, [.slice p8_3.1 x8_3.1.f0.length p8_3.2], 24⟩, ⟨p7_7, [.slice p7_3.1 x7_3.1.f0.length p7_3.2], 24⟩, ⟨p3_6, [.slice p3_1.1 x3_1.1.f0.length p3_1.2], 24⟩]) (by kernel_rfl) ?_
       refine O.e (some 110) (Ev.mono (fun w hS => hS.freezeH (h := p13_4) (xs := x13_4.1)) (Ev.call0 (xs := [.tmp 106, .tmp 107, .tmp 109]) [3, 0] (by kernel_rfl) (by kernel_rfl) (fun w hS => ckpt_Do.con K x8_3.1 x13_4.1 (x13_4.1.length : Int) p8_3 p13_4  _ _ w hS hx16_4))) (by kernel_rfl) (fun p16_4 => ?_)
       refine O.pure 3 [] [23, 24, 111, 112] [] (fr' := [(23, .int .i64 (IntKind.wrap .i64 ((IntKind.wrap .i64 (x9_1.1 + 1)) + (IntKind.wrap .i64 (a4.tmod 3))))), (24, .slice p13_4.1 x13_4.1.length p13_4.2), (111, .agg #[.slice p16_4.1 x16_4.1.f0.length p16_4.2]), (112, .int .i64 x16_4.2)]) (bx' := [⟨p8_7, [.slice p8_3.1 x8_3.1.f0.length p8_3.2], 24⟩, ⟨p7_7, [.slice p7_3.1 x7_3.1.f0.length p7_3.2], 24⟩, ⟨p3_6, [.slice p3_1.1 x3_1.1.f0.length p3_1.2], 24⟩]) (by kernel_rfl) ?_
       refine O.e (some 26) (Ev.alloc (t := 24) (z := .agg #[.slice none 0 0]) (by kernel_rfl) (by kernel_rfl)) (by kernel_rfl) (fun p16_8 => ?_)
       refine O.pure 2 [(0, 0)] [23, 24, 26, 27] [p16_8, 0] (fr' := [(23, .int .i64 (IntKind.wrap .i64 ((IntKind.wrap .i64 (x9_1.1 + 1)) + (IntKind.wrap .i64 (a4.tmod 3))))), (24, .slice p13_4.1 x13_4.1.length p13_4.2), (26, .pointer (some ⟨p16_8, 0, none⟩)), (27, .int .i64 x16_4.2)]) (bx' := [⟨p16_8, [.slice p16_4.1 x16_4.1.f0.length p16_4.2], 24⟩, ⟨p8_7, [.slice p8_3.1 x8_3.1.f0.length p8_3.2], 24⟩, ⟨p7_7, [.slice p7_3.1 x7_3.1.f0.length p7_3.2], 24⟩, ⟨p3_6, [.slice p3_1.1 x3_1.1.f0.length p3_1.2], 24⟩]) (by kernel_rfl) ?_
       refine O.nil (by kernel_rfl) ?_
       refine J.seq (by kernel_rfl) ?_
       obtain ⟨x17_1, hx17_1, H⟩ := bindE H
       obtain ⟨x17_2, hx17_2, H⟩ := bindE H
       refine J.region (by kernel_rfl) ?_
       refine O.pure 1 [(0, 0)] [23, 24, 26, 27, 114] [p16_8, 0] (fr' := [(23, .int .i64 (IntKind.wrap .i64 ((IntKind.wrap .i64 (x9_1.1 + 1)) + (IntKind.wrap .i64 (a4.tmod 3))))), (24, .slice p13_4.1 x13_4.1.length p13_4.2), (26, .pointer (some ⟨p16_8, 0, none⟩)), (27, .int .i64 x16_4.2), (114, .agg #[.slice p16_4.1 x16_4.1.f0.length p16_4.2])]) (bx' := [⟨p16_8, [.slice p16_4.1 x16_4.1.f0.length p16_4.2], 24⟩, ⟨p8_7, [.slice p8_3.1 x8_3.1.f0.length p8_3.2], 24⟩, ⟨p7_7, [.slice p7_3.1 x7_3.1.f0.length p7_3.2], 24⟩, ⟨p3_6, [.slice p3_1.1 x3_1.1.f0.length p3_1.2], 24⟩]) (by kernel_rfl) ?_
       refine O.e (some 115) (Ev.mono (fun w hS => hS.add (fun w' _ => Rd.nil (Kd.int .i64) w')) (Ev.call0 (xs := [.tmp 114, .const (.slice none 0 0)]) [1, 0] (by kernel_rfl) (by kernel_rfl) (fun w hS => disk_Crash.con K x16_4.1 ([] : List Int) p16_4 (none, 0)  _ _ w hS hx17_1))) (by kernel_rfl) (fun p17_1 => ?_)
       refine O.e (some 116) (Ev.mono (fun w hS => hS.freezeH (h := p17_1) (xs := x17_1.f0)) (Ev.call0 (xs := [.tmp 115]) [0] (by kernel_rfl) (by kernel_rfl) (fun w hS => ckpt_Last.con K x17_1 p17_1  _ _ w hS hx17_2))) (by kernel_rfl) (fun p17_2 => ?_)
       refine O.pure 7 [] [23, 24, 26, 27, 28, 29, 30] [] (fr' := [(23, .int .i64 (IntKind.wrap .i64 ((IntKind.wrap .i64 (x9_1.1 + 1)) + (IntKind.wrap .i64 (a4.tmod 3))))), (24, .slice p13_4.1 x13_4.1.length p13_4.2), (26, .pointer (some ⟨p16_8, 0, none⟩)), (27, .int .i64 x16_4.2), (28, .int .i64 x17_2.1), (29, .slice p17_2.1 x17_2.2.1.length p17_2.2), (30, .int .i64 x17_2.2.2)]) (bx' := [⟨p16_8, [.slice p16_4.1 x16_4.1.f0.length p16_4.2], 24⟩, ⟨p8_7, [.slice p8_3.1 x8_3.1.f0.length p8_3.2], 24⟩, ⟨p7_7, [.slice p7_3.1 x7_3.1.f0.length p7_3.2], 24⟩, ⟨p3_6, [.slice p3_1.1 x3_1.1.f0.length p3_1.2], 24⟩]) (by kernel_rfl) ?_
       refine O.nil (by kernel_rfl) ?_
       refine J.seq (by kernel_rfl) ?_
       refine J.seq (by kernel_rfl) ?_
       rcases condE H with ⟨hc16, H⟩ | ⟨hc16, H⟩
       ·obtain rfl := Option.some.inj H
        cases hr
       ·rcases condE H with ⟨hc17, H⟩ | ⟨hc17, H⟩
        ·obtain rfl := Option.some.inj H
         cases hr
        ·rcases condE H with ⟨hc18, H⟩ | ⟨hc18, H⟩
         ·obtain rfl := Option.some.inj H
          cases hr
         ·refine J.region (by kernel_rfl) ?_
          refine O.pure 3 [] [23, 26, 28, 29, 30, 120, 122] [] (fr' := [(23, .int .i64 (IntKind.wrap .i64 ((IntKind.wrap .i64 (x9_1.1 + 1)) + (IntKind.wrap .i64 (a4.tmod 3))))), (26, .pointer (some ⟨p16_8, 0, none⟩)), (28, .int .i64 x17_2.1), (29, .slice p17_2.1 x17_2.2.1.length p17_2.2), (30, .int .i64 x17_2.2.2), (120, .int .i64 x16_4.2), (122, .int .i64 (x13_4.1.length : Int))]) (bx' := [⟨p16_8, [.slice p16_4.1 x16_4.1.f0.length p16_4.2], 24⟩, ⟨p8_7, [.slice p8_3.1 x8_3.1.f0.length p8_3.2], 24⟩, ⟨p7_7, [.slice p7_3.1 x7_3.1.f0.length p7_3.2], 24⟩, ⟨p3_6, [.slice p3_1.1 x3_1.1.f0.length p3_1.2], 24⟩]) (by kernel_rfl) ?_
          refine O.q (v := .bool false) (some 123) (Qu.eqv (u := .bool (x16_4.2 != (x13_4.1.length : Int))) (v := .bool false) (0, 0) [] (by kernel_rfl) (congrArg Value.bool hc16)) (by kernel_rfl) ?_
          refine O.pure 3 [] [23, 26, 29, 30, 124, 125, 126] [] (fr' := [(23, .int .i64 (IntKind.wrap .i64 ((IntKind.wrap .i64 (x9_1.1 + 1)) + (IntKind.wrap .i64 (a4.tmod 3))))), (26, .pointer (some ⟨p16_8, 0, none⟩)), (29, .slice p17_2.1 x17_2.2.1.length p17_2.2), (30, .int .i64 x17_2.2.2), (124, .bool false), (125, .int .i64 x17_2.1), (126, .int .i64 (IntKind.wrap .i64 ((IntKind.wrap .i64 (x9_1.1 + 1)) + (IntKind.wrap .i64 (a4.tmod 3)))))]) (bx' := [⟨p16_8, [.slice p16_4.1 x16_4.1.f0.length p16_4.2], 24⟩, ⟨p8_7, [.slice p8_3.1 x8_3.1.f0.length p8_3.2], 24⟩, ⟨p7_7, [.slice p7_3.1 x7_3.1.f0.length p7_3.2], 24⟩, ⟨p3_6, [.slice p3_1.1 x3_1.1.f0.length p3_1.2], 24⟩]) (by kernel_rfl) ?_
          refine O.q (v := .bool false) (some 127) (Qu.eqv (u := .bool (x17_2.1 != (IntKind.wrap .i64 ((IntKind.wrap .i64 (x9_1.1 + 1)) + (IntKind.wrap .i64 (a4.tmod 3)))))) (v := .bool false) (0, 0) [] (by kernel_rfl) (congrArg Value.bool hc17)) (by kernel_rfl) ?_
          refine O.pure 3 [] [23, 26, 30, 129, 130] [] (fr' := [(23, .int .i64 (IntKind.wrap .i64 ((IntKind.wrap .i64 (x9_1.1 + 1)) + (IntKind.wrap .i64 (a4.tmod 3))))), (26, .pointer (some ⟨p16_8, 0, none⟩)), (30, .int .i64 x17_2.2.2), (129, .bool false), (130, .slice p17_2.1 x17_2.2.1.length p17_2.2)]) (bx' := [⟨p16_8, [.slice p16_4.1 x16_4.1.f0.length p16_4.2], 24⟩, ⟨p8_7, [.slice p8_3.1 x8_3.1.f0.length p8_3.2], 24⟩, ⟨p7_7, [.slice p7_3.1 x7_3.1.f0.length p7_3.2], 24⟩, ⟨p3_6, [.slice p3_1.1 x3_1.1.f0.length p3_1.2], 24⟩]) (by kernel_rfl) ?_
          refine O.q (v := .string (strOfNums x17_2.2.1)) (some 131) (Qu.str (t := 27) (u := 9) (x := .tmp 130) (h := p17_2) (xs := x17_2.2.1) 0 (by kernel_rfl) (by kernel_rfl) (by kernel_rfl) (by kernel_rfl) rfl) (by kernel_rfl) ?_
          refine O.q (v := .bool false) (some 132) (Qu.eqv (u := .bool (!((strOfNums x17_2.2.1).toList == (⟨#[110, 101, 120, 116]⟩ : ByteArray).toList))) (v := .bool false) (0, 0) [] (by kernel_rfl) (congrArg Value.bool hc18)) (by kernel_rfl) ?_
          refine O.pure 5 [] [23, 26, 137] [] (fr' := [(23, .int .i64 (IntKind.wrap .i64 ((IntKind.wrap .i64 (x9_1.1 + 1)) + (IntKind.wrap .i64 (a4.tmod 3))))), (26, .pointer (some ⟨p16_8, 0, none⟩)), (137, .bool (x17_2.2.2 != 0))]) (bx' := [⟨p16_8, [.slice p16_4.1 x16_4.1.f0.length p16_4.2], 24⟩, ⟨p8_7, [.slice p8_3.1 x8_3.1.f0.length p8_3.2], 24⟩, ⟨p7_7, [.slice p7_3.1 x7_3.1.f0.length p7_3.2], 24⟩, ⟨p3_6, [.slice p3_1.1 x3_1.1.f0.length p3_1.2], 24⟩]) (by kernel_rfl) ?_
          refine O.nil (by kernel_rfl) ?_
          rcases condE H with ⟨hc19, H⟩ | ⟨hc19, H⟩
          ·obtain rfl := Option.some.inj H
           cases hr
          ·refine J.condF (x := .tmp 137) (t := (x17_2.2.2 != 0)) (by kernel_rfl) (by kernel_rfl) hc19 ?_
           refine J.skip (by kernel_rfl) ?_
           refine J.seq (by kernel_rfl) ?_
           obtain ⟨x20_1, hx20_1, H⟩ := bindE H
           refine J.region (by kernel_rfl) ?_
           refine O.pure 1 [(0, 0)] [23, 138] [p16_8, 0] (fr' := [(23, .int .i64 (IntKind.wrap .i64 ((IntKind.wrap .i64 (x9_1.1 + 1)) + (IntKind.wrap .i64 (a4.tmod 3))))), (138, .agg #[.slice p16_4.1 x16_4.1.f0.length p16_4.2])]) (bx' := [⟨p16_8, [.slice p16_4.1 x16_4.1.f0.length p16_4.2], 24⟩, ⟨p8_7, [.slice p8_3.1 x8_3.1.f0.length p8_3.2], 24⟩, ⟨p7_7, [.slice p7_3.1 x7_3.1.f0.length p7_3.2], 24⟩, ⟨p3_6, [.slice p3_1.1 x3_1.1.f0.length p3_1.2], 24⟩]) (by kernel_rfl) ?_
           refine O.e (some 139) (Ev.call0 (xs := [.tmp 138]) [3] (by kernel_rfl) (by kernel_rfl) (fun w hS => disk_Names.con K x16_4.1 p16_4  _ _ w hS hx20_1)) (by kernel_rfl) (fun p20_1 => ?_)
           refine O.pure 1 [] [23, 31] [] (fr' := [(23, .int .i64 (IntKind.wrap .i64 ((IntKind.wrap .i64 (x9_1.1 + 1)) + (IntKind.wrap .i64 (a4.tmod 3))))), (31, .slice p20_1.1 x20_1.length p20_1.2)]) (bx' := [⟨p16_8, [.slice p16_4.1 x16_4.1.f0.length p16_4.2], 24⟩, ⟨p8_7, [.slice p8_3.1 x8_3.1.f0.length p8_3.2], 24⟩, ⟨p7_7, [.slice p7_3.1 x7_3.1.f0.length p7_3.2], 24⟩, ⟨p3_6, [.slice p3_1.1 x3_1.1.f0.length p3_1.2], 24⟩]) (by kernel_rfl) ?_
           refine O.nil (by kernel_rfl) ?_
           refine J.seq (by kernel_rfl) ?_
           rcases condE H with ⟨hc20, H⟩ | ⟨hc20, H⟩
           ·obtain ⟨x21_5, hx21_5, H⟩ := bindE H
            obtain ⟨hx21_5a, hx21_5⟩ := idxE hx21_5
            obtain ⟨x21_8, hx21_8, H⟩ := bindE H
            rcases condE H with ⟨hc21, H⟩ | ⟨hc21, H⟩
            ·obtain ⟨x21_13, hx21_13, H⟩ := bindE H
             obtain ⟨hx21_13a, hx21_13⟩ := idxE hx21_13
             rcases condE H with ⟨hc22, H⟩ | ⟨hc22, H⟩
             ·obtain ⟨x21_18, hx21_18, H⟩ := bindE H
              refine J.mono (fun w hS => hS.freezeH (h := p20_1) (xs := x20_1)) ?_
              refine J.open (d := Kd.string) (h := p20_1) (i := 0) 0 rfl hx21_5 (Lay.string _) (fun p21_5 hp21_5A => ?_)
              refine J.open (d := Kd.string) (h := p20_1) (i := 1) 0 rfl hx21_13 (Lay.string _) (fun p21_13 hp21_13A => ?_)
              refine J.drawS (by kernel_rfl) [(0, some 140, .slice p20_1.1 x20_1.length p20_1.2), (1, some 141, .int .i64 (x20_1.length : Int)), (3, some 143, .bool true), (4, some 144, .slice p20_1.1 x20_1.length p20_1.2), (6, some 146, .string x21_5), (7, some 147, .int .i64 (IntKind.wrap .i64 ((IntKind.wrap .i64 (x9_1.1 + 1)) + (IntKind.wrap .i64 (a4.tmod 3))))), (2, some 142, .bool true), (5, some 145, .pointer (some ⟨p21_5.1, p21_5.2.1 + (0 : Int).toNat * 1, none⟩))] ([0, 1, 3, 4, 6, 7] ++ [2, 5]) (by kernel_rfl) ?_
              refine D.mid (cs := [8]) [0, 1, 3, 4, 6, 7] [2, 5] [(5, 0)] [p21_5.1, p21_5.2.1 + (0 : Int).toNat * 1] (by kernel_rfl) (by kernel_rfl) (⟨QuAt.mk (v := .bool true) (some 142) (by kernel_rfl) (by kernel_rfl) (Qu.eqv (u := .bool ((x20_1.length : Int) == 2)) (v := .bool true) (0, 0) [] (by kernel_rfl) (congrArg Value.bool hc20)), QuAt.mk (v := .pointer (some ⟨p21_5.1, p21_5.2.1 + (0 : Int).toNat * 1, none⟩)) (some 145) (by kernel_rfl) (by kernel_rfl) (Qu.idx (t := 64) (x := .tmp 144) (y := .const (.int .i64 0)) (c := p20_1.2) (kk := .i64) (sz := 1) (by kernel_rfl) (by kernel_rfl) (by kernel_rfl) (by kernel_rfl) hx21_5a (idx_lt hx21_5) hp21_5A), trivial⟩) (by kernel_rfl) ⟨?_, trivial⟩
              refine EvStep.mk (some 148) (new := fun _ => [(9, some 149, .bool true), (10, some 150, .bool true), (11, some 151, .bool true), (12, some 152, .slice p20_1.1 x20_1.length p20_1.2), (13, some 153, .pointer (some ⟨p21_13.1, p21_13.2.1 + (1 : Int).toNat * 1, none⟩)), (14, some 154, .string x21_13), (15, some 155, .bool true), (16, some 156, .bool true), (17, some 157, .bool true)]) ([0, 1, 4, 6, 10, 11, 12, 14, 16, 17] ++ [2, 5, 9, 13, 15]) (by kernel_rfl) (Ev.call0 (xs := [.tmp 147]) [] (by kernel_rfl) (by kernel_rfl) (fun w hS => haywainref14_File.con K (IntKind.wrap .i64 ((IntKind.wrap .i64 (x9_1.1 + 1)) + (IntKind.wrap .i64 (a4.tmod 3))))  _ _ w hS hx21_8)) (fun _ => by kernel_rfl) (fun _ => ?_)
              refine D.mid (cs := [18]) [0, 1, 4, 6, 10, 11, 12, 14, 16, 17] [2, 5, 9, 13, 15] [(5, 0), (4, 0)] [p21_5.1, p21_5.2.1 + (0 : Int).toNat * 1, p21_13.1, p21_13.2.1 + (1 : Int).toNat * 1] (by kernel_rfl) (by kernel_rfl) (⟨QuAt.mk (v := .bool true) (some 142) (by kernel_rfl) (by kernel_rfl) (Qu.eqv (u := .bool ((x20_1.length : Int) == 2)) (v := .bool true) (0, 0) [] (by kernel_rfl) (congrArg Value.bool hc20)), QuAt.mk (v := .pointer (some ⟨p21_5.1, p21_5.2.1 + (0 : Int).toNat * 1, none⟩)) (some 145) (by kernel_rfl) (by kernel_rfl) (Qu.idx (t := 64) (x := .tmp 144) (y := .const (.int .i64 0)) (c := p20_1.2) (kk := .i64) (sz := 1) (by kernel_rfl) (by kernel_rfl) (by kernel_rfl) (by kernel_rfl) hx21_5a (idx_lt hx21_5) hp21_5A), QuAt.mk (v := .bool true) (some 149) (by kernel_rfl) (by kernel_rfl) (Qu.eqv (u := .bool (x21_5.toList == x21_8.toList)) (v := .bool true) (0, 0) [] (by kernel_rfl) (congrArg Value.bool hc21)), QuAt.mk (v := .pointer (some ⟨p21_13.1, p21_13.2.1 + (1 : Int).toNat * 1, none⟩)) (some 153) (by kernel_rfl) (by kernel_rfl) (Qu.idx (t := 64) (x := .tmp 152) (y := .const (.int .i64 1)) (c := p20_1.2) (kk := .i64) (sz := 1) (by kernel_rfl) (by kernel_rfl) (by kernel_rfl) (by kernel_rfl) hx21_13a (idx_lt hx21_13) hp21_13A), QuAt.mk (v := .bool true) (some 155) (by kernel_rfl) (by kernel_rfl) (Qu.eqv (u := .bool (x21_13.toList == (⟨#[109]⟩ : ByteArray).toList)) (v := .bool true) (0, 0) [] (by kernel_rfl) (congrArg Value.bool hc22)), trivial⟩) (by kernel_rfl) ⟨?_, trivial⟩
              refine EvStep.mk (some 158) (new := fun _ => [(19, some 159, .bool x21_18), (20, some 10, .bool x21_18)]) ([0, 1, 4, 6, 10, 11, 12, 14, 16, 19, 20] ++ [2, 5, 9, 13, 15]) (by kernel_rfl) (Ev.call0 (xs := []) [] (by kernel_rfl) (by kernel_rfl) (fun w hS => haywainlaw14_knows.con K  _ _ w hS hx21_18 ((Option.some.inj H).trans hr))) (fun _ => by kernel_rfl) (fun _ => ?_)
              refine D.fin (fr' := [(10, .bool x21_18)]) [0, 1, 4, 6, 10, 11, 12, 14, 16, 19, 20] [2, 5, 9, 13, 15] [(5, 0), (4, 0)] [p21_5.1, p21_5.2.1 + (0 : Int).toNat * 1, p21_13.1, p21_13.2.1 + (1 : Int).toNat * 1] [10] (by kernel_rfl) (by kernel_rfl) (⟨QuAt.mk (v := .bool true) (some 142) (by kernel_rfl) (by kernel_rfl) (Qu.eqv (u := .bool ((x20_1.length : Int) == 2)) (v := .bool true) (0, 0) [] (by kernel_rfl) (congrArg Value.bool hc20)), QuAt.mk (v := .pointer (some ⟨p21_5.1, p21_5.2.1 + (0 : Int).toNat * 1, none⟩)) (some 145) (by kernel_rfl) (by kernel_rfl) (Qu.idx (t := 64) (x := .tmp 144) (y := .const (.int .i64 0)) (c := p20_1.2) (kk := .i64) (sz := 1) (by kernel_rfl) (by kernel_rfl) (by kernel_rfl) (by kernel_rfl) hx21_5a (idx_lt hx21_5) hp21_5A), QuAt.mk (v := .bool true) (some 149) (by kernel_rfl) (by kernel_rfl) (Qu.eqv (u := .bool (x21_5.toList == x21_8.toList)) (v := .bool true) (0, 0) [] (by kernel_rfl) (congrArg Value.bool hc21)), QuAt.mk (v := .pointer (some ⟨p21_13.1, p21_13.2.1 + (1 : Int).toNat * 1, none⟩)) (some 153) (by kernel_rfl) (by kernel_rfl) (Qu.idx (t := 64) (x := .tmp 152) (y := .const (.int .i64 1)) (c := p20_1.2) (kk := .i64) (sz := 1) (by kernel_rfl) (by kernel_rfl) (by kernel_rfl) (by kernel_rfl) hx21_13a (idx_lt hx21_13) hp21_13A), QuAt.mk (v := .bool true) (some 155) (by kernel_rfl) (by kernel_rfl) (Qu.eqv (u := .bool (x21_13.toList == (⟨#[109]⟩ : ByteArray).toList)) (v := .bool true) (0, 0) [] (by kernel_rfl) (congrArg Value.bool hc22)), trivial⟩) (by kernel_rfl) ?_
              obtain rfl := Option.some.inj H
              exact J.doneS [] [] [] [] [] () (vs := [.bool x21_18]) (by kernel_rfl) (by kernel_rfl) (by kernel_rfl) (by kernel_rfl) (by kernel_rfl) (by decide)
             ·obtain rfl := Option.some.inj H
              cases hr
            ·obtain rfl := Option.some.inj H
             cases hr
           ·obtain rfl := Option.some.inj H
            cases hr
def haywainlaw14_CkptAgain.Pure : Prop := ∀ (a0 : List (List Int)) (a1 : List Int) (a2 : Int) (a3 : List Int) (a4 : Int), (a0.length * 24 ≤ 140737488351232 ∧ ∀ x_ ∈ a0, x_.length * 1 ≤ 140737488351232 ∧ ∀ x__ ∈ x_, (Lit.int .u8 x__).wf = true) → (a1.length * 1 ≤ 140737488351232 ∧ ∀ x_ ∈ a1, (Lit.int .u8 x_).wf = true) → ((Lit.int .i64 a2).wf = true) → (a3.length * 8 ≤ 140737488351232 ∧ ∀ x_ ∈ a3, (Lit.int .i64 x_).wf = true) → ((Lit.int .u8 a4).wf = true) → ∃ K, haywainlaw14_CkptAgain.f K a0 a1 a2 a3 a4 = some true
end Go.Proofs.Ytkcpbehgjbionaa.G
