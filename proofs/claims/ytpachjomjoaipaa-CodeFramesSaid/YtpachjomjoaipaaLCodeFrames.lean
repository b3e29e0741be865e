/- The law CodeFrames as plain Lean, with its contract; printed by a program of this session. -/
import Derived.Test.YtpachjomjoaipaaG0
set_option linter.unusedVariables false
set_option linter.unusedSimpArgs false
namespace Go.Proofs.Ytpachjomjoaipaa.G
open Go Go.RowKit Go.Hw
/-! ### haywain/haywainlaw02.CodeFrames: function 5 -/
def haywainlaw02_CodeFrames.f (K : Nat) (a0 : List Int) (a1 : List Int) : Option Bool := (haywainlaw02_great.f K a0).bind fun x1_1 => cond x1_1 ((haywainlaw02_knows.f K).bind fun x2_0 => some (x2_0)) ((haywainlaw02_great.f K a1).bind fun x1_4 => cond x1_4 ((haywainlaw02_knows.f K).bind fun x2_0 => some (x2_0)) ((appO 1 ([] : List Int) a0).bind fun y3_2 => (code_Frame.f K (([] : List Int) ++ a0)).bind fun x3_3 => (cond (decide ((a0.length : Int) > 4000)) (cond ((x3_3.1.length : Int) != 0) (some (.inr (false))) (cond (x3_3.2 != 3) (some (.inr (false))) (some (.inl ())))) ((haywainref02_Frame.f K a0).bind fun x7_3 => cond (!((strOfNums x3_3.1).toList == (strOfNums x7_3).toList)) (some (.inr (false))) (cond (x3_3.2 != 0) (some (.inr (false))) (some (.inl ())))) : Option (Unit ⊕ Bool)).bind (Sum.elim (fun o3 : Unit => (appO 1 ([] : List Int) a1).bind fun y9_2 => (code_TakeFrame.f K (([] : List Int) ++ a1)).bind fun x9_3 => (haywainref02_TakeFrame.f K a1).bind fun x10_1 => cond (x9_3.2.2 != x10_1.2.2) (some (false)) (cond (!((strOfNums x9_3.1).toList == (strOfNums x10_1.1).toList)) (some (false)) (cond (x9_3.2.2 == 0) ((cutO a1 x10_1.2.1 (a1.length : Int)).bind fun y13_7 => cond ((strOfNums x9_3.2.1).toList == (strOfNums (cutL a1 ((x10_1.2.1 : Int).toNat) (((a1.length : Int) : Int).toNat))).toList) ((haywainlaw02_knows.f K).bind fun x13_21 => some (x13_21)) (cond (x9_3.2.2 != 0) (cond ((x9_3.2.1.length : Int) == 0) ((haywainlaw02_knows.f K).bind fun x13_21 => some (x13_21)) (some (false))) (some (false)))) (cond (x9_3.2.2 != 0) (cond ((x9_3.2.1.length : Int) == 0) ((haywainlaw02_knows.f K).bind fun x13_21 => some (x13_21)) (some (false))) (some (false)))))) some)))
set_option maxRecDepth 100000 in
set_option maxHeartbeats 1000000 in
theorem haywainlaw02_CodeFrames.con (K : Nat) (a0 : List Int) (a1 : List Int) (h0 : Hd) (h1 : Hd) (r : Bool) (X : Nat → Nat → Prop) (w : World) (hS : St X w [] [] [] [] [Rd (Kd.int .u8) h0.1 h0.2 a0, Rd (Kd.int .u8) h1.1 h1.2 a1] w) (H : haywainlaw02_CodeFrames.f K a0 a1 = some r) :
    Cn Try.prog 5 [.slice h0.1 a0.length h0.2, .slice h1.1 a1.length h1.2] X w [] (fun i : Unit => .bool r) (fun i => []) (fun i => []) (fun i => []) := by
  refine Cn.of Try.func5 (by kernel_rfl) hS ?_
  unfold haywainlaw02_CodeFrames.f at H
  refine J.seq (by kernel_rfl) ?_
  refine J.region (by kernel_rfl) ?_
  refine O.pure 1 [] [0, 1] [] (fr' := [(0, .slice h0.1 a0.length h0.2), (1, .slice h1.1 a1.length h1.2)]) (bx' := []) (by kernel_rfl) ?_
  refine O.nil (by kernel_rfl) ?_
  refine J.seq (by kernel_rfl) ?_
  refine J.seq (by kernel_rfl) ?_
  obtain ⟨x1_1, hx1_1, H⟩ := bindE H
  rcases condE H with ⟨hc1, H⟩ | ⟨hc1, H⟩
  · refine J.region (by kernel_rfl) ?_
    refine O.pure 1 [] [0, 1, 13] [] (fr' := [(0, .slice h0.1 a0.length h0.2), (1, .slice h1.1 a1.length h1.2), (13, .slice h0.1 a0.length h0.2)]) (bx' := []) (by kernel_rfl) ?_
    refine O.e (some 14) (Ev.call0 (xs := [.tmp 13]) [0] (by kernel_rfl) (by kernel_rfl) (fun w hS => haywainlaw02_great.con K a0 h0  _ _ w hS hx1_1)) (by kernel_rfl) (fun _ => ?_)
    refine O.q (v := .bool true) (some 15) (Qu.eqv (u := .bool x1_1) (v := .bool true) (0, 0) [] (by kernel_rfl) (congrArg Value.bool hc1)) (by kernel_rfl) ?_
    refine O.pure 3 [] [0, 1, 18] [] (fr' := [(0, .slice h0.1 a0.length h0.2), (1, .slice h1.1 a1.length h1.2), (18, .bool true)]) (bx' := []) (by kernel_rfl) ?_
    refine O.nil (by kernel_rfl) ?_
    refine J.cond (o := .tmp 18) true (by kernel_rfl) (by kernel_rfl) ?_
    refine J.seq (by kernel_rfl) ?_
    obtain ⟨x2_0, hx2_0, H⟩ := bindE H
    refine J.region (by kernel_rfl) ?_
    refine O.e (some 19) (Ev.call0 (xs := []) [] (by kernel_rfl) (by kernel_rfl) (fun w hS => haywainlaw02_knows.con K  _ _ w hS hx2_0)) (by kernel_rfl) (fun _ => ?_)
    refine O.pure 1 [] [4] [] (fr' := [(4, .bool x2_0)]) (bx' := []) (by kernel_rfl) ?_
    refine O.nil (by kernel_rfl) ?_
    obtain rfl := Option.some.inj H
    exact J.doneS [] [] [] [] [] () (vs := [.bool x2_0]) (by kernel_rfl) (by kernel_rfl) (by kernel_rfl) (by kernel_rfl) (by kernel_rfl) (by decide)
  · obtain ⟨x1_4, hx1_4, H⟩ := bindE H
    refine J.region (by kernel_rfl) ?_
    refine O.pure 1 [] [0, 1, 13] [] (fr' := [(0, .slice h0.1 a0.length h0.2), (1, .slice h1.1 a1.length h1.2), (13, .slice h0.1 a0.length h0.2)]) (bx' := []) (by kernel_rfl) ?_
    refine O.e (some 14) (Ev.call0 (xs := [.tmp 13]) [0] (by kernel_rfl) (by kernel_rfl) (fun w hS => haywainlaw02_great.con K a0 h0  _ _ w hS hx1_1)) (by kernel_rfl) (fun _ => ?_)
    refine O.q (v := .bool false) (some 15) (Qu.eqv (u := .bool x1_1) (v := .bool false) (0, 0) [] (by kernel_rfl) (congrArg Value.bool hc1)) (by kernel_rfl) ?_
    refine O.pure 1 [] [0, 1, 15, 16] [] (fr' := [(0, .slice h0.1 a0.length h0.2), (1, .slice h1.1 a1.length h1.2), (15, .bool false), (16, .slice h1.1 a1.length h1.2)]) (bx' := []) (by kernel_rfl) ?_
    refine O.e (some 17) (Ev.call0 (xs := [.tmp 16]) [1] (by kernel_rfl) (by kernel_rfl) (fun w hS => haywainlaw02_great.con K a1 h1  _ _ w hS hx1_4)) (by kernel_rfl) (fun _ => ?_)
    refine O.pure 1 [] [0, 1, 18] [] (fr' := [(0, .slice h0.1 a0.length h0.2), (1, .slice h1.1 a1.length h1.2), (18, .bool x1_4)]) (bx' := []) (by kernel_rfl) ?_
    refine O.nil (by kernel_rfl) ?_
    rcases condE H with ⟨hc2, H⟩ | ⟨hc2, H⟩
    · refine J.condT (x := .tmp 18) (t := x1_4) (by kernel_rfl) (by kernel_rfl) hc2 ?_
      refine J.seq (by kernel_rfl) ?_
      obtain ⟨x2_0, hx2_0, H⟩ := bindE H
      refine J.region (by kernel_rfl) ?_
      refine O.e (some 19) (Ev.call0 (xs := []) [] (by kernel_rfl) (by kernel_rfl) (fun w hS => haywainlaw02_knows.con K  _ _ w hS hx2_0)) (by kernel_rfl) (fun _ => ?_)
      refine O.pure 1 [] [4] [] (fr' := [(4, .bool x2_0)]) (bx' := []) (by kernel_rfl) ?_
      refine O.nil (by kernel_rfl) ?_
      obtain rfl := Option.some.inj H
      exact J.doneS [] [] [] [] [] () (vs := [.bool x2_0]) (by kernel_rfl) (by kernel_rfl) (by kernel_rfl) (by kernel_rfl) (by kernel_rfl) (by decide)
    · refine J.condF (x := .tmp 18) (t := x1_4) (by kernel_rfl) (by kernel_rfl) hc2 ?_
      refine J.skip (by kernel_rfl) ?_
      refine J.seq (by kernel_rfl) ?_
      obtain ⟨y3_2, hy3_2, H⟩ := bindE H
      have hy3_2a := (appE hy3_2).1
      obtain ⟨x3_3, hx3_3, H⟩ := bindE H
      refine J.region (by kernel_rfl) ?_
      refine O.e (some 21) (Ev.lit (t := 22) (len := 0) (parts := #[]) (ps := []) (cs := []) (e := 5) (Kd.int .u8) ([] : List Int) (by kernel_rfl) (by kernel_rfl) (by kernel_rfl) (by kernel_rfl) (by kernel_rfl) (by decide) (fun w' hφ => (Els.nil _ _ _))) (by kernel_rfl) (fun p3_0 => ?_)
      refine O.pure 1 [] [0, 1, 21, 22] [] (fr' := [(0, .slice h0.1 a0.length h0.2), (1, .slice h1.1 a1.length h1.2), (21, .slice ((some ⟨p3_0, 0, none⟩, 0) : Hd).1 ([] : List Int).length ((some ⟨p3_0, 0, none⟩, 0) : Hd).2), (22, .slice h0.1 a0.length h0.2)]) (bx' := []) (by kernel_rfl) ?_
      refine O.e (some 23) (Ev.appSl (d := (Kd.int .u8)) (ys := a0) (A := h0.1) (c := h0.2) (x := .tmp 21) (y := .tmp 22) (t := 22) (bytes := 1) 0 (by kernel_rfl) (by kernel_rfl) (by kernel_rfl) rfl (by kernel_rfl) (by decide) hy3_2a) (by kernel_rfl) (fun p3_2 => ?_)
      refine O.e (some 24) (Ev.callL (hh := p3_2) (xs := (([] : List Int) ++ a0)) (m := (([] : List Int) ++ a0).length) (xs1 := [.tmp 23]) [0] rfl (by kernel_rfl) (by kernel_rfl) (fun _ q hq _ _ _ h => by obtain rfl := List.mem_singleton.1 hq; exact h) (fun w hS => code_Frame.con K (([] : List Int) ++ a0) p3_2  _ _ w hS hx3_3)) (by kernel_rfl) (fun p3_3 => ?_)
      refine O.pure 5 [] [0, 1, 5, 6] [] (fr' := [(0, .slice h0.1 a0.length h0.2), (1, .slice h1.1 a1.length h1.2), (5, .slice p3_3.1 x3_3.1.length p3_3.2), (6, .int .i64 x3_3.2)]) (bx' := []) (by kernel_rfl) ?_
      refine O.nil (by kernel_rfl) ?_
      refine J.seq (by kernel_rfl) ?_
      refine J.seq (by kernel_rfl) ?_
      refine J.region (by kernel_rfl) ?_
      refine O.pure 3 [] [0, 1, 5, 6, 29] [] (fr' := [(0, .slice h0.1 a0.length h0.2), (1, .slice h1.1 a1.length h1.2), (5, .slice p3_3.1 x3_3.1.length p3_3.2), (6, .int .i64 x3_3.2), (29, .bool (decide ((a0.length : Int) > 4000)))]) (bx' := []) (by kernel_rfl) ?_
      refine O.nil (by kernel_rfl) ?_
      refine J.joinS (α := Unit) (γ := Unit) (fun o3 q3 => [(1, .slice h1.1 a1.length h1.2)]) (fun o3 q3 => St X w [] [] [] [] [Rd (Kd.int .u8) h0.1 h0.2 a0, Rd (Kd.int .u8) h1.1 h1.2 a1]) H (fun o3 q3 H => ?_) (fun o3 H hj3 => ?_)
      · refine J.seq (by kernel_rfl) ?_
        obtain ⟨y9_2, hy9_2, H⟩ := bindE H
        have hy9_2a := (appE hy9_2).1
        obtain ⟨x9_3, hx9_3, H⟩ := bindE H
        refine J.region (by kernel_rfl) ?_
        refine O.e (some 48) (Ev.lit (t := 22) (len := 0) (parts := #[]) (ps := []) (cs := []) (e := 5) (Kd.int .u8) ([] : List Int) (by kernel_rfl) (by kernel_rfl) (by kernel_rfl) (by kernel_rfl) (by kernel_rfl) (by decide) (fun w' hφ => (Els.nil _ _ _))) (by kernel_rfl) (fun p9_0 => ?_)
        refine O.pure 1 [] [1, 48, 49] [] (fr' := [(1, .slice h1.1 a1.length h1.2), (48, .slice ((some ⟨p9_0, 0, none⟩, 0) : Hd).1 ([] : List Int).length ((some ⟨p9_0, 0, none⟩, 0) : Hd).2), (49, .slice h1.1 a1.length h1.2)]) (bx' := []) (by kernel_rfl) ?_
        refine O.e (some 50) (Ev.appSl (d := (Kd.int .u8)) (ys := a1) (A := h1.1) (c := h1.2) (x := .tmp 48) (y := .tmp 49) (t := 22) (bytes := 1) 1 (by kernel_rfl) (by kernel_rfl) (by kernel_rfl) rfl (by kernel_rfl) (by decide) hy9_2a) (by kernel_rfl) (fun p9_2 => ?_)
        refine O.e (some 51) (Ev.mono (fun w hS => hS.freezeH (h := p9_2) (xs := (([] : List Int) ++ a1))) (Ev.call0 (xs := [.tmp 50]) [0] (by kernel_rfl) (by kernel_rfl) (fun w hS => code_TakeFrame.con K (([] : List Int) ++ a1) p9_2  _ _ w hS hx9_3))) (by kernel_rfl) (fun p9_3 => ?_)
        refine O.pure 7 [] [1, 7, 8, 9] [] (fr' := [(1, .slice h1.1 a1.length h1.2), (7, .slice p9_3.1.1 x9_3.1.length p9_3.1.2), (8, .slice p9_3.2.1 x9_3.2.1.length p9_3.2.2), (9, .int .i64 x9_3.2.2)]) (bx' := []) (by kernel_rfl) ?_
        refine O.nil (by kernel_rfl) ?_
        refine J.seq (by kernel_rfl) ?_
        obtain ⟨x10_1, hx10_1, H⟩ := bindE H
        refine J.region (by kernel_rfl) ?_
        refine O.pure 1 [] [1, 7, 8, 9, 56] [] (fr' := [(1, .slice h1.1 a1.length h1.2), (7, .slice p9_3.1.1 x9_3.1.length p9_3.1.2), (8, .slice p9_3.2.1 x9_3.2.1.length p9_3.2.2), (9, .int .i64 x9_3.2.2), (56, .slice h1.1 a1.length h1.2)]) (bx' := []) (by kernel_rfl) ?_
        refine O.e (some 57) (Ev.call0 (xs := [.tmp 56]) [3] (by kernel_rfl) (by kernel_rfl) (fun w hS => haywainref02_TakeFrame.con K a1 h1  _ _ w hS hx10_1)) (by kernel_rfl) (fun p10_1 => ?_)
        refine O.pure 7 [] [1, 7, 8, 9, 10, 11, 12] [] (fr' := [(1, .slice h1.1 a1.length h1.2), (7, .slice p9_3.1.1 x9_3.1.length p9_3.1.2), (8, .slice p9_3.2.1 x9_3.2.1.length p9_3.2.2), (9, .int .i64 x9_3.2.2), (10, .slice p10_1.1 x10_1.1.length p10_1.2), (11, .int .i64 x10_1.2.1), (12, .int .i64 x10_1.2.2)]) (bx' := []) (by kernel_rfl) ?_
        refine O.nil (by kernel_rfl) ?_
        refine J.seq (by kernel_rfl) ?_
        refine J.seq (by kernel_rfl) ?_
        rcases condE H with ⟨hc9, H⟩ | ⟨hc9, H⟩
        · refine J.region (by kernel_rfl) ?_
          refine O.pure 2 [] [1, 7, 8, 9, 10, 11, 61, 62] [] (fr' := [(1, .slice h1.1 a1.length h1.2), (7, .slice p9_3.1.1 x9_3.1.length p9_3.1.2), (8, .slice p9_3.2.1 x9_3.2.1.length p9_3.2.2), (9, .int .i64 x9_3.2.2), (10, .slice p10_1.1 x10_1.1.length p10_1.2), (11, .int .i64 x10_1.2.1), (61, .int .i64 x9_3.2.2), (62, .int .i64 x10_1.2.2)]) (bx' := []) (by kernel_rfl) ?_
          refine O.q (v := .bool true) (some 63) (Qu.eqv (u := .bool (x9_3.2.2 != x10_1.2.2)) (v := .bool true) (0, 0) [] (by kernel_rfl) (congrArg Value.bool hc9)) (by kernel_rfl) ?_
          refine O.pure 7 [] [1, 8, 9, 11, 70] [] (fr' := [(1, .slice h1.1 a1.length h1.2), (8, .slice p9_3.2.1 x9_3.2.1.length p9_3.2.2), (9, .int .i64 x9_3.2.2), (11, .int .i64 x10_1.2.1), (70, .bool true)]) (bx' := []) (by kernel_rfl) ?_
          refine O.nil (by kernel_rfl) ?_
          refine J.cond (o := .tmp 70) true (by kernel_rfl) (by kernel_rfl) ?_
          refine J.seq (by kernel_rfl) ?_
          refine J.region (by kernel_rfl) ?_
          refine O.pure 1 [] [4] [] (fr' := [(4, .bool false)]) (bx' := []) (by kernel_rfl) ?_
          refine O.nil (by kernel_rfl) ?_
          obtain rfl := Option.some.inj H
          exact J.doneS [] [] [] [] [] () (vs := [.bool false]) (by kernel_rfl) (by kernel_rfl) (by kernel_rfl) (by kernel_rfl) (by kernel_rfl) (by decide)
        · refine J.region (by kernel_rfl) ?_
          refine O.pure 2 [] [1, 7, 8, 9, 10, 11, 61, 62] [] (fr' := [(1, .slice h1.1 a1.length h1.2), (7, .slice p9_3.1.1 x9_3.1.length p9_3.1.2), (8, .slice p9_3.2.1 x9_3.2.1.length p9_3.2.2), (9, .int .i64 x9_3.2.2), (10, .slice p10_1.1 x10_1.1.length p10_1.2), (11, .int .i64 x10_1.2.1), (61, .int .i64 x9_3.2.2), (62, .int .i64 x10_1.2.2)]) (bx' := []) (by kernel_rfl) ?_
          refine O.q (v := .bool false) (some 63) (Qu.eqv (u := .bool (x9_3.2.2 != x10_1.2.2)) (v := .bool false) (0, 0) [] (by kernel_rfl) (congrArg Value.bool hc9)) (by kernel_rfl) ?_
          refine O.pure 2 [] [1, 8, 9, 10, 11, 64, 65] [] (fr' := [(1, .slice h1.1 a1.length h1.2), (8, .slice p9_3.2.1 x9_3.2.1.length p9_3.2.2), (9, .int .i64 x9_3.2.2), (10, .slice p10_1.1 x10_1.1.length p10_1.2), (11, .int .i64 x10_1.2.1), (64, .bool false), (65, .slice p9_3.1.1 x9_3.1.length p9_3.1.2)]) (bx' := []) (by kernel_rfl) ?_
          refine O.q (v := .string (strOfNums x9_3.1)) (some 66) (Qu.str (t := 22) (u := 9) (x := .tmp 65) (h := p9_3.1) (xs := x9_3.1) 1 (by kernel_rfl) (by kernel_rfl) (by kernel_rfl) (by kernel_rfl) rfl) (by kernel_rfl) ?_
          refine O.pure 1 [] [1, 8, 9, 11, 64, 66, 67] [] (fr' := [(1, .slice h1.1 a1.length h1.2), (8, .slice p9_3.2.1 x9_3.2.1.length p9_3.2.2), (9, .int .i64 x9_3.2.2), (11, .int .i64 x10_1.2.1), (64, .bool false), (66, .string (strOfNums x9_3.1)), (67, .slice p10_1.1 x10_1.1.length p10_1.2)]) (bx' := []) (by kernel_rfl) ?_
          refine O.q (v := .string (strOfNums x10_1.1)) (some 68) (Qu.str (t := 22) (u := 9) (x := .tmp 67) (h := p10_1) (xs := x10_1.1) 0 (by kernel_rfl) (by kernel_rfl) (by kernel_rfl) (by kernel_rfl) rfl) (by kernel_rfl) ?_
          refine O.pure 2 [] [1, 8, 9, 11, 70] [] (fr' := [(1, .slice h1.1 a1.length h1.2), (8, .slice p9_3.2.1 x9_3.2.1.length p9_3.2.2), (9, .int .i64 x9_3.2.2), (11, .int .i64 x10_1.2.1), (70, .bool (!((strOfNums x9_3.1).toList == (strOfNums x10_1.1).toList)))]) (bx' := []) (by kernel_rfl) ?_
          refine O.nil (by kernel_rfl) ?_
          rcases condE H with ⟨hc10, H⟩ | ⟨hc10, H⟩
          · refine J.condT (x := .tmp 70) (t := (!((strOfNums x9_3.1).toList == (strOfNums x10_1.1).toList))) (by kernel_rfl) (by kernel_rfl) hc10 ?_
            refine J.seq (by kernel_rfl) ?_
            refine J.region (by kernel_rfl) ?_
            refine O.pure 1 [] [4] [] (fr' := [(4, .bool false)]) (bx' := []) (by kernel_rfl) ?_
            refine O.nil (by kernel_rfl) ?_
            obtain rfl := Option.some.inj H
            exact J.doneS [] [] [] [] [] () (vs := [.bool false]) (by kernel_rfl) (by kernel_rfl) (by kernel_rfl) (by kernel_rfl) (by kernel_rfl) (by decide)
          · refine J.condF (x := .tmp 70) (t := (!((strOfNums x9_3.1).toList == (strOfNums x10_1.1).toList))) (by kernel_rfl) (by kernel_rfl) hc10 ?_
            refine J.skip (by kernel_rfl) ?_
            refine J.seq (by kernel_rfl) ?_
            rcases condE H with ⟨hc11, H⟩ | ⟨hc11, H⟩
            · obtain ⟨y13_7, hy13_7, H⟩ := bindE H
              obtain ⟨hy13_7a, hy13_7b, hy13_7c, -⟩ := cutE hy13_7
              rcases condE H with ⟨hc12, H⟩ | ⟨hc12, H⟩
              · obtain ⟨x13_21, hx13_21, H⟩ := bindE H
                refine J.mono (fun w hS => hS.freezeH (h := p9_3.2) (xs := x9_3.2.1)) ?_
                refine J.drawS (by kernel_rfl) [(0, some 71, .int .i64 x9_3.2.2), (2, some 73, .bool true), (3, some 74, .slice p9_3.2.1 x9_3.2.1.length p9_3.2.2), (5, some 76, .slice h1.1 a1.length h1.2), (6, some 77, .int .i64 x10_1.2.1), (1, some 72, .bool true), (4, some 75, .string (strOfNums x9_3.2.1))] ([0, 2, 3, 5, 6] ++ [1, 4]) (by kernel_rfl) ?_
                refine D.mid (cs := [7]) [0, 2, 3, 5, 6] [1, 4] [] [] (by kernel_rfl) (by kernel_rfl) (⟨QuAt.mk (v := .bool true) (some 72) (by kernel_rfl) (by kernel_rfl) (Qu.eqv (u := .bool (x9_3.2.2 == 0)) (v := .bool true) (0, 0) [] (by kernel_rfl) (congrArg Value.bool hc11)), QuAt.mk (v := .string (strOfNums x9_3.2.1)) (some 75) (by kernel_rfl) (by kernel_rfl) (Qu.str (t := 22) (u := 9) (x := .tmp 74) (h := p9_3.2) (xs := x9_3.2.1) 0 (by kernel_rfl) (by kernel_rfl) (by kernel_rfl) (by kernel_rfl) rfl), trivial⟩) (by kernel_rfl) ⟨?_, trivial⟩
                refine EvStep.mk (some 78) (new := fun p13_7 => [(8, some 79, .string (strOfNums (cutL a1 ((x10_1.2.1 : Int).toNat) (((a1.length : Int) : Int).toNat)))), (9, some 80, .bool true), (10, some 81, .bool true), (11, some 82, .bool true), (12, some 83, undef), (13, some 84, undef), (14, some 85, undef), (15, some 86, undef), (16, some 87, undef), (17, some 88, undef), (18, some 89, undef), (19, some 90, .bool true), (20, some 91, .bool true)]) ([0, 3, 10, 11, 12, 13, 14, 15, 16, 17, 18, 19, 20] ++ [1, 4, 8, 9]) (by kernel_rfl) (Ev.cut (d := (Kd.int .u8)) (xs := a1) (t := 22) (x := .tmp 76) (lo := (some (.tmp 77))) (hi := none) (vlo := (some (.int .i64 x10_1.2.1))) (vhi := none) (A := h1.1) (c := h1.2) (l := (x10_1.2.1 : Int).toNat) (h := ((a1.length : Int) : Int).toNat) 5 (by kernel_rfl) (by kernel_rfl) (by kernel_rfl) (by kernel_rfl) (by kernel_rfl) (Bd.val _ _ _ (by omega)) (Bd.dflt _) (by omega) (by omega) rfl) (fun p13_7 => by kernel_rfl) (fun p13_7 => ?_)
                refine D.mid (cs := [21]) [0, 3, 10, 11, 12, 13, 14, 15, 16, 17, 18, 19, 20] [1, 4, 8, 9] [] [] (by kernel_rfl) (by kernel_rfl) (⟨QuAt.mk (v := .bool true) (some 72) (by kernel_rfl) (by kernel_rfl) (Qu.eqv (u := .bool (x9_3.2.2 == 0)) (v := .bool true) (0, 0) [] (by kernel_rfl) (congrArg Value.bool hc11)), QuAt.mk (v := .string (strOfNums x9_3.2.1)) (some 75) (by kernel_rfl) (by kernel_rfl) (Qu.str (t := 22) (u := 9) (x := .tmp 74) (h := p9_3.2) (xs := x9_3.2.1) 1 (by kernel_rfl) (by kernel_rfl) (by kernel_rfl) (by kernel_rfl) rfl), QuAt.mk (v := .string (strOfNums (cutL a1 ((x10_1.2.1 : Int).toNat) (((a1.length : Int) : Int).toNat)))) (some 79) (by kernel_rfl) (by kernel_rfl) (Qu.str (t := 22) (u := 9) (x := .tmp 78) (h := p13_7) (xs := (cutL a1 ((x10_1.2.1 : Int).toNat) (((a1.length : Int) : Int).toNat))) 0 (by kernel_rfl) (by kernel_rfl) (by kernel_rfl) (by kernel_rfl) rfl), QuAt.mk (v := .bool true) (some 80) (by kernel_rfl) (by kernel_rfl) (Qu.eqv (u := .bool ((strOfNums x9_3.2.1).toList == (strOfNums (cutL a1 ((x10_1.2.1 : Int).toNat) (((a1.length : Int) : Int).toNat))).toList)) (v := .bool true) (0, 0) [] (by kernel_rfl) (congrArg Value.bool hc12)), trivial⟩) (by kernel_rfl) ⟨?_, trivial⟩
                refine EvStep.mk (some 92) (new := fun _ => [(22, some 93, .bool x13_21), (23, some 4, .bool x13_21)]) ([0, 3, 10, 11, 12, 13, 14, 15, 16, 17, 18, 19, 22, 23] ++ [1, 4, 8, 9]) (by kernel_rfl) (Ev.call0 (xs := []) [] (by kernel_rfl) (by kernel_rfl) (fun w hS => haywainlaw02_knows.con K  _ _ w hS hx13_21)) (fun _ => by kernel_rfl) (fun _ => ?_)
                refine D.fin (fr' := [(4, .bool x13_21)]) [0, 3, 10, 11, 12, 13, 14, 15, 16, 17, 18, 19, 22, 23] [1, 4, 8, 9] [] [] [4] (by kernel_rfl) (by kernel_rfl) (⟨QuAt.mk (v := .bool true) (some 72) (by kernel_rfl) (by kernel_rfl) (Qu.eqv (u := .bool (x9_3.2.2 == 0)) (v := .bool true) (0, 0) [] (by kernel_rfl) (congrArg Value.bool hc11)), QuAt.mk (v := .string (strOfNums x9_3.2.1)) (some 75) (by kernel_rfl) (by kernel_rfl) (Qu.str (t := 22) (u := 9) (x := .tmp 74) (h := p9_3.2) (xs := x9_3.2.1) 1 (by kernel_rfl) (by kernel_rfl) (by kernel_rfl) (by kernel_rfl) rfl), QuAt.mk (v := .string (strOfNums (cutL a1 ((x10_1.2.1 : Int).toNat) (((a1.length : Int) : Int).toNat)))) (some 79) (by kernel_rfl) (by kernel_rfl) (Qu.str (t := 22) (u := 9) (x := .tmp 78) (h := p13_7) (xs := (cutL a1 ((x10_1.2.1 : Int).toNat) (((a1.length : Int) : Int).toNat))) 0 (by kernel_rfl) (by kernel_rfl) (by kernel_rfl) (by kernel_rfl) rfl), QuAt.mk (v := .bool true) (some 80) (by kernel_rfl) (by kernel_rfl) (Qu.eqv (u := .bool ((strOfNums x9_3.2.1).toList == (strOfNums (cutL a1 ((x10_1.2.1 : Int).toNat) (((a1.length : Int) : Int).toNat))).toList)) (v := .bool true) (0, 0) [] (by kernel_rfl) (congrArg Value.bool hc12)), trivial⟩) (by kernel_rfl) ?_
                obtain rfl := Option.some.inj H
                exact J.doneS [] [] [] [] [] () (vs := [.bool x13_21]) (by kernel_rfl) (by kernel_rfl) (by kernel_rfl) (by kernel_rfl) (by kernel_rfl) (by decide)
              · rcases condE H with ⟨hc13, H⟩ | ⟨hc13, H⟩
                · rcases condE H with ⟨hc14, H⟩ | ⟨hc14, H⟩
                  · obtain ⟨x13_21, hx13_21, H⟩ := bindE H
                    refine J.mono (fun w hS => hS.freezeH (h := p9_3.2) (xs := x9_3.2.1)) ?_
                    refine J.drawS (by kernel_rfl) [(0, some 71, .int .i64 x9_3.2.2), (2, some 73, .bool true), (3, some 74, .slice p9_3.2.1 x9_3.2.1.length p9_3.2.2), (5, some 76, .slice h1.1 a1.length h1.2), (6, some 77, .int .i64 x10_1.2.1), (1, some 72, .bool true), (4, some 75, .string (strOfNums x9_3.2.1))] ([0, 2, 3, 5, 6] ++ [1, 4]) (by kernel_rfl) ?_
                    refine D.mid (cs := [7]) [0, 2, 3, 5, 6] [1, 4] [] [] (by kernel_rfl) (by kernel_rfl) (⟨QuAt.mk (v := .bool true) (some 72) (by kernel_rfl) (by kernel_rfl) (Qu.eqv (u := .bool (x9_3.2.2 == 0)) (v := .bool true) (0, 0) [] (by kernel_rfl) (congrArg Value.bool hc11)), QuAt.mk (v := .string (strOfNums x9_3.2.1)) (some 75) (by kernel_rfl) (by kernel_rfl) (Qu.str (t := 22) (u := 9) (x := .tmp 74) (h := p9_3.2) (xs := x9_3.2.1) 0 (by kernel_rfl) (by kernel_rfl) (by kernel_rfl) (by kernel_rfl) rfl), trivial⟩) (by kernel_rfl) ⟨?_, trivial⟩
                    refine EvStep.mk (some 78) (new := fun p13_7 => [(8, some 79, .string (strOfNums (cutL a1 ((x10_1.2.1 : Int).toNat) (((a1.length : Int) : Int).toNat)))), (9, some 80, .bool false), (10, some 81, .bool false), (11, some 82, .bool false), (12, some 83, .int .i64 x9_3.2.2), (13, some 84, .bool true), (14, some 85, .bool true), (15, some 86, .slice p9_3.2.1 x9_3.2.1.length p9_3.2.2), (16, some 87, .int .i64 (x9_3.2.1.length : Int)), (17, some 88, .bool true), (18, some 89, .bool true), (19, some 90, .bool true), (20, some 91, .bool true)]) ([0, 3, 10, 11, 12, 14, 15, 16, 18, 19, 20] ++ [1, 4, 8, 9, 13, 17]) (by kernel_rfl) (Ev.cut (d := (Kd.int .u8)) (xs := a1) (t := 22) (x := .tmp 76) (lo := (some (.tmp 77))) (hi := none) (vlo := (some (.int .i64 x10_1.2.1))) (vhi := none) (A := h1.1) (c := h1.2) (l := (x10_1.2.1 : Int).toNat) (h := ((a1.length : Int) : Int).toNat) 5 (by kernel_rfl) (by kernel_rfl) (by kernel_rfl) (by kernel_rfl) (by kernel_rfl) (Bd.val _ _ _ (by omega)) (Bd.dflt _) (by omega) (by omega) rfl) (fun p13_7 => by kernel_rfl) (fun p13_7 => ?_)
                    refine D.mid (cs := [21]) [0, 3, 10, 11, 12, 14, 15, 16, 18, 19, 20] [1, 4, 8, 9, 13, 17] [] [] (by kernel_rfl) (by kernel_rfl) (⟨QuAt.mk (v := .bool true) (some 72) (by kernel_rfl) (by kernel_rfl) (Qu.eqv (u := .bool (x9_3.2.2 == 0)) (v := .bool true) (0, 0) [] (by kernel_rfl) (congrArg Value.bool hc11)), QuAt.mk (v := .string (strOfNums x9_3.2.1)) (some 75) (by kernel_rfl) (by kernel_rfl) (Qu.str (t := 22) (u := 9) (x := .tmp 74) (h := p9_3.2) (xs := x9_3.2.1) 1 (by kernel_rfl) (by kernel_rfl) (by kernel_rfl) (by kernel_rfl) rfl), QuAt.mk (v := .string (strOfNums (cutL a1 ((x10_1.2.1 : Int).toNat) (((a1.length : Int) : Int).toNat)))) (some 79) (by kernel_rfl) (by kernel_rfl) (Qu.str (t := 22) (u := 9) (x := .tmp 78) (h := p13_7) (xs := (cutL a1 ((x10_1.2.1 : Int).toNat) (((a1.length : Int) : Int).toNat))) 0 (by kernel_rfl) (by kernel_rfl) (by kernel_rfl) (by kernel_rfl) rfl), QuAt.mk (v := .bool false) (some 80) (by kernel_rfl) (by kernel_rfl) (Qu.eqv (u := .bool ((strOfNums x9_3.2.1).toList == (strOfNums (cutL a1 ((x10_1.2.1 : Int).toNat) (((a1.length : Int) : Int).toNat))).toList)) (v := .bool false) (0, 0) [] (by kernel_rfl) (congrArg Value.bool hc12)), QuAt.mk (v := .bool true) (some 84) (by kernel_rfl) (by kernel_rfl) (Qu.eqv (u := .bool (x9_3.2.2 != 0)) (v := .bool true) (0, 0) [] (by kernel_rfl) (congrArg Value.bool hc13)), QuAt.mk (v := .bool true) (some 88) (by kernel_rfl) (by kernel_rfl) (Qu.eqv (u := .bool ((x9_3.2.1.length : Int) == 0)) (v := .bool true) (0, 0) [] (by kernel_rfl) (congrArg Value.bool hc14)), trivial⟩) (by kernel_rfl) ⟨?_, trivial⟩
                    refine EvStep.mk (some 92) (new := fun _ => [(22, some 93, .bool x13_21), (23, some 4, .bool x13_21)]) ([0, 3, 10, 11, 12, 14, 15, 16, 18, 19, 22, 23] ++ [1, 4, 8, 9, 13, 17]) (by kernel_rfl) (Ev.call0 (xs := []) [] (by kernel_rfl) (by kernel_rfl) (fun w hS => haywainlaw02_knows.con K  _ _ w hS hx13_21)) (fun _ => by kernel_rfl) (fun _ => ?_)
                    refine D.fin (fr' := [(4, .bool x13_21)]) [0, 3, 10, 11, 12, 14, 15, 16, 18, 19, 22, 23] [1, 4, 8, 9, 13, 17] [] [] [4] (by kernel_rfl) (by kernel_rfl) (⟨QuAt.mk (v := .bool true) (some 72) (by kernel_rfl) (by kernel_rfl) (Qu.eqv (u := .bool (x9_3.2.2 == 0)) (v := .bool true) (0, 0) [] (by kernel_rfl) (congrArg Value.bool hc11)), QuAt.mk (v := .string (strOfNums x9_3.2.1)) (some 75) (by kernel_rfl) (by kernel_rfl) (Qu.str (t := 22) (u := 9) (x := .tmp 74) (h := p9_3.2) (xs := x9_3.2.1) 1 (by kernel_rfl) (by kernel_rfl) (by kernel_rfl) (by kernel_rfl) rfl), QuAt.mk (v := .string (strOfNums (cutL a1 ((x10_1.2.1 : Int).toNat) (((a1.length : Int) : Int).toNat)))) (some 79) (by kernel_rfl) (by kernel_rfl) (Qu.str (t := 22) (u := 9) (x := .tmp 78) (h := p13_7) (xs := (cutL a1 ((x10_1.2.1 : Int).toNat) (((a1.length : Int) : Int).toNat))) 0 (by kernel_rfl) (by kernel_rfl) (by kernel_rfl) (by kernel_rfl) rfl), QuAt.mk (v := .bool false) (some 80) (by kernel_rfl) (by kernel_rfl) (Qu.eqv (u := .bool ((strOfNums x9_3.2.1).toList == (strOfNums (cutL a1 ((x10_1.2.1 : Int).toNat) (((a1.length : Int) : Int).toNat))).toList)) (v := .bool false) (0, 0) [] (by kernel_rfl) (congrArg Value.bool hc12)), QuAt.mk (v := .bool true) (some 84) (by kernel_rfl) (by kernel_rfl) (Qu.eqv (u := .bool (x9_3.2.2 != 0)) (v := .bool true) (0, 0) [] (by kernel_rfl) (congrArg Value.bool hc13)), QuAt.mk (v := .bool true) (some 88) (by kernel_rfl) (by kernel_rfl) (Qu.eqv (u := .bool ((x9_3.2.1.length : Int) == 0)) (v := .bool true) (0, 0) [] (by kernel_rfl) (congrArg Value.bool hc14)), trivial⟩) (by kernel_rfl) ?_
                    obtain rfl := Option.some.inj H
                    exact J.doneS [] [] [] [] [] () (vs := [.bool x13_21]) (by kernel_rfl) (by kernel_rfl) (by kernel_rfl) (by kernel_rfl) (by kernel_rfl) (by decide)
                  · refine J.mono (fun w hS => hS.freezeH (h := p9_3.2) (xs := x9_3.2.1)) ?_
                    refine J.drawS (by kernel_rfl) [(0, some 71, .int .i64 x9_3.2.2), (2, some 73, .bool true), (3, some 74, .slice p9_3.2.1 x9_3.2.1.length p9_3.2.2), (5, some 76, .slice h1.1 a1.length h1.2), (6, some 77, .int .i64 x10_1.2.1), (1, some 72, .bool true), (4, some 75, .string (strOfNums x9_3.2.1))] ([0, 2, 3, 5, 6] ++ [1, 4]) (by kernel_rfl) ?_
                    refine D.mid (cs := [7]) [0, 2, 3, 5, 6] [1, 4] [] [] (by kernel_rfl) (by kernel_rfl) (⟨QuAt.mk (v := .bool true) (some 72) (by kernel_rfl) (by kernel_rfl) (Qu.eqv (u := .bool (x9_3.2.2 == 0)) (v := .bool true) (0, 0) [] (by kernel_rfl) (congrArg Value.bool hc11)), QuAt.mk (v := .string (strOfNums x9_3.2.1)) (some 75) (by kernel_rfl) (by kernel_rfl) (Qu.str (t := 22) (u := 9) (x := .tmp 74) (h := p9_3.2) (xs := x9_3.2.1) 0 (by kernel_rfl) (by kernel_rfl) (by kernel_rfl) (by kernel_rfl) rfl), trivial⟩) (by kernel_rfl) ⟨?_, trivial⟩
                    refine EvStep.mk (some 78) (new := fun p13_7 => [(8, some 79, .string (strOfNums (cutL a1 ((x10_1.2.1 : Int).toNat) (((a1.length : Int) : Int).toNat)))), (9, some 80, .bool false), (10, some 81, .bool false), (11, some 82, .bool false), (12, some 83, .int .i64 x9_3.2.2), (13, some 84, .bool true), (14, some 85, .bool true), (15, some 86, .slice p9_3.2.1 x9_3.2.1.length p9_3.2.2), (16, some 87, .int .i64 (x9_3.2.1.length : Int)), (17, some 88, .bool false), (18, some 89, .bool false), (19, some 90, .bool false), (20, some 91, .bool false), (21, some 92, undef), (22, some 93, .bool false), (23, some 4, .bool false)]) ([0, 3, 10, 11, 12, 14, 15, 16, 18, 19, 20, 21, 22, 23] ++ [1, 4, 8, 9, 13, 17]) (by kernel_rfl) (Ev.cut (d := (Kd.int .u8)) (xs := a1) (t := 22) (x := .tmp 76) (lo := (some (.tmp 77))) (hi := none) (vlo := (some (.int .i64 x10_1.2.1))) (vhi := none) (A := h1.1) (c := h1.2) (l := (x10_1.2.1 : Int).toNat) (h := ((a1.length : Int) : Int).toNat) 5 (by kernel_rfl) (by kernel_rfl) (by kernel_rfl) (by kernel_rfl) (by kernel_rfl) (Bd.val _ _ _ (by omega)) (Bd.dflt _) (by omega) (by omega) rfl) (fun p13_7 => by kernel_rfl) (fun p13_7 => ?_)
                    refine D.fin (fr' := [(4, .bool false)]) [0, 3, 10, 11, 12, 14, 15, 16, 18, 19, 20, 21, 22, 23] [1, 4, 8, 9, 13, 17] [] [] [4] (by kernel_rfl) (by kernel_rfl) (⟨QuAt.mk (v := .bool true) (some 72) (by kernel_rfl) (by kernel_rfl) (Qu.eqv (u := .bool (x9_3.2.2 == 0)) (v := .bool true) (0, 0) [] (by kernel_rfl) (congrArg Value.bool hc11)), QuAt.mk (v := .string (strOfNums x9_3.2.1)) (some 75) (by kernel_rfl) (by kernel_rfl) (Qu.str (t := 22) (u := 9) (x := .tmp 74) (h := p9_3.2) (xs := x9_3.2.1) 1 (by kernel_rfl) (by kernel_rfl) (by kernel_rfl) (by kernel_rfl) rfl), QuAt.mk (v := .string (strOfNums (cutL a1 ((x10_1.2.1 : Int).toNat) (((a1.length : Int) : Int).toNat)))) (some 79) (by kernel_rfl) (by kernel_rfl) (Qu.str (t := 22) (u := 9) (x := .tmp 78) (h := p13_7) (xs := (cutL a1 ((x10_1.2.1 : Int).toNat) (((a1.length : Int) : Int).toNat))) 0 (by kernel_rfl) (by kernel_rfl) (by kernel_rfl) (by kernel_rfl) rfl), QuAt.mk (v := .bool false) (some 80) (by kernel_rfl) (by kernel_rfl) (Qu.eqv (u := .bool ((strOfNums x9_3.2.1).toList == (strOfNums (cutL a1 ((x10_1.2.1 : Int).toNat) (((a1.length : Int) : Int).toNat))).toList)) (v := .bool false) (0, 0) [] (by kernel_rfl) (congrArg Value.bool hc12)), QuAt.mk (v := .bool true) (some 84) (by kernel_rfl) (by kernel_rfl) (Qu.eqv (u := .bool (x9_3.2.2 != 0)) (v := .bool true) (0, 0) [] (by kernel_rfl) (congrArg Value.bool hc13)), QuAt.mk (v := .bool false) (some 88) (by kernel_rfl) (by kernel_rfl) (Qu.eqv (u := .bool ((x9_3.2.1.length : Int) == 0)) (v := .bool false) (0, 0) [] (by kernel_rfl) (congrArg Value.bool hc14)), trivial⟩) (by kernel_rfl) ?_
                    obtain rfl := Option.some.inj H
                    exact J.doneS [] [] [] [] [] () (vs := [.bool false]) (by kernel_rfl) (by kernel_rfl) (by kernel_rfl) (by kernel_rfl) (by kernel_rfl) (by decide)
                · refine J.mono (fun w hS => hS.freezeH (h := p9_3.2) (xs := x9_3.2.1)) ?_
                  refine J.drawS (by kernel_rfl) [(0, some 71, .int .i64 x9_3.2.2), (2, some 73, .bool true), (3, some 74, .slice p9_3.2.1 x9_3.2.1.length p9_3.2.2), (5, some 76, .slice h1.1 a1.length h1.2), (6, some 77, .int .i64 x10_1.2.1), (1, some 72, .bool true), (4, some 75, .string (strOfNums x9_3.2.1))] ([0, 2, 3, 5, 6] ++ [1, 4]) (by kernel_rfl) ?_
                  refine D.mid (cs := [7]) [0, 2, 3, 5, 6] [1, 4] [] [] (by kernel_rfl) (by kernel_rfl) (⟨QuAt.mk (v := .bool true) (some 72) (by kernel_rfl) (by kernel_rfl) (Qu.eqv (u := .bool (x9_3.2.2 == 0)) (v := .bool true) (0, 0) [] (by kernel_rfl) (congrArg Value.bool hc11)), QuAt.mk (v := .string (strOfNums x9_3.2.1)) (some 75) (by kernel_rfl) (by kernel_rfl) (Qu.str (t := 22) (u := 9) (x := .tmp 74) (h := p9_3.2) (xs := x9_3.2.1) 0 (by kernel_rfl) (by kernel_rfl) (by kernel_rfl) (by kernel_rfl) rfl), trivial⟩) (by kernel_rfl) ⟨?_, trivial⟩
                  refine EvStep.mk (some 78) (new := fun p13_7 => [(8, some 79, .string (strOfNums (cutL a1 ((x10_1.2.1 : Int).toNat) (((a1.length : Int) : Int).toNat)))), (9, some 80, .bool false), (10, some 81, .bool false), (11, some 82, .bool false), (12, some 83, .int .i64 x9_3.2.2), (13, some 84, .bool false), (14, some 85, .bool false), (15, some 86, undef), (16, some 87, undef), (17, some 88, undef), (18, some 89, .bool false), (19, some 90, .bool false), (20, some 91, .bool false), (21, some 92, undef), (22, some 93, .bool false), (23, some 4, .bool false)]) ([0, 3, 10, 11, 12, 14, 15, 16, 17, 18, 19, 20, 21, 22, 23] ++ [1, 4, 8, 9, 13]) (by kernel_rfl) (Ev.cut (d := (Kd.int .u8)) (xs := a1) (t := 22) (x := .tmp 76) (lo := (some (.tmp 77))) (hi := none) (vlo := (some (.int .i64 x10_1.2.1))) (vhi := none) (A := h1.1) (c := h1.2) (l := (x10_1.2.1 : Int).toNat) (h := ((a1.length : Int) : Int).toNat) 5 (by kernel_rfl) (by kernel_rfl) (by kernel_rfl) (by kernel_rfl) (by kernel_rfl) (Bd.val _ _ _ (by omega)) (Bd.dflt _) (by omega) (by omega) rfl) (fun p13_7 => by kernel_rfl) (fun p13_7 => ?_)
                  refine D.fin (fr' := [(4, .bool false)]) [0, 3, 10, 11, 12, 14, 15, 16, 17, 18, 19, 20, 21, 22, 23] [1, 4, 8, 9, 13] [] [] [4] (by kernel_rfl) (by kernel_rfl) (⟨QuAt.mk (v := .bool true) (some 72) (by kernel_rfl) (by kernel_rfl) (Qu.eqv (u := .bool (x9_3.2.2 == 0)) (v := .bool true) (0, 0) [] (by kernel_rfl) (congrArg Value.bool hc11)), QuAt.mk (v := .string (strOfNums x9_3.2.1)) (some 75) (by kernel_rfl) (by kernel_rfl) (Qu.str (t := 22) (u := 9) (x := .tmp 74) (h := p9_3.2) (xs := x9_3.2.1) 1 (by kernel_rfl) (by kernel_rfl) (by kernel_rfl) (by kernel_rfl) rfl), QuAt.mk (v := .string (strOfNums (cutL a1 ((x10_1.2.1 : Int).toNat) (((a1.length : Int) : Int).toNat)))) (some 79) (by kernel_rfl) (by kernel_rfl) (Qu.str (t := 22) (u := 9) (x := .tmp 78) (h := p13_7) (xs := (cutL a1 ((x10_1.2.1 : Int).toNat) (((a1.length : Int) : Int).toNat))) 0 (by kernel_rfl) (by kernel_rfl) (by kernel_rfl) (by kernel_rfl) rfl), QuAt.mk (v := .bool false) (some 80) (by kernel_rfl) (by kernel_rfl) (Qu.eqv (u := .bool ((strOfNums x9_3.2.1).toList == (strOfNums (cutL a1 ((x10_1.2.1 : Int).toNat) (((a1.length : Int) : Int).toNat))).toList)) (v := .bool false) (0, 0) [] (by kernel_rfl) (congrArg Value.bool hc12)), QuAt.mk (v := .bool false) (some 84) (by kernel_rfl) (by kernel_rfl) (Qu.eqv (u := .bool (x9_3.2.2 != 0)) (v := .bool false) (0, 0) [] (by kernel_rfl) (congrArg Value.bool hc13)), trivial⟩) (by kernel_rfl) ?_
                  obtain rfl := Option.some.inj H
                  exact J.doneS [] [] [] [] [] () (vs := [.bool false]) (by kernel_rfl) (by kernel_rfl) (by kernel_rfl) (by kernel_rfl) (by kernel_rfl) (by decide)
            · rcases condE H with ⟨hc15, H⟩ | ⟨hc15, H⟩
              · rcases condE H with ⟨hc16, H⟩ | ⟨hc16, H⟩
                · obtain ⟨x13_21, hx13_21, H⟩ := bindE H
                  refine J.drawS (by kernel_rfl) [(0, some 71, .int .i64 x9_3.2.2), (2, some 73, .bool false), (3, some 74, undef), (4, some 75, undef), (5, some 76, undef), (6, some 77, undef), (7, some 78, undef), (8, some 79, undef), (9, some 80, undef), (10, some 81, .bool false), (11, some 82, .bool false), (12, some 83, .int .i64 x9_3.2.2), (14, some 85, .bool true), (15, some 86, .slice p9_3.2.1 x9_3.2.1.length p9_3.2.2), (16, some 87, .int .i64 (x9_3.2.1.length : Int)), (18, some 89, .bool true), (19, some 90, .bool true), (20, some 91, .bool true), (1, some 72, .bool false), (13, some 84, .bool true), (17, some 88, .bool true)] ([0, 2, 3, 4, 5, 6, 7, 8, 9, 10, 11, 12, 14, 15, 16, 18, 19, 20] ++ [1, 13, 17]) (by kernel_rfl) ?_
                  refine D.mid (cs := [21]) [0, 2, 3, 4, 5, 6, 7, 8, 9, 10, 11, 12, 14, 15, 16, 18, 19, 20] [1, 13, 17] [] [] (by kernel_rfl) (by kernel_rfl) (⟨QuAt.mk (v := .bool false) (some 72) (by kernel_rfl) (by kernel_rfl) (Qu.eqv (u := .bool (x9_3.2.2 == 0)) (v := .bool false) (0, 0) [] (by kernel_rfl) (congrArg Value.bool hc11)), QuAt.mk (v := .bool true) (some 84) (by kernel_rfl) (by kernel_rfl) (Qu.eqv (u := .bool (x9_3.2.2 != 0)) (v := .bool true) (0, 0) [] (by kernel_rfl) (congrArg Value.bool hc15)), QuAt.mk (v := .bool true) (some 88) (by kernel_rfl) (by kernel_rfl) (Qu.eqv (u := .bool ((x9_3.2.1.length : Int) == 0)) (v := .bool true) (0, 0) [] (by kernel_rfl) (congrArg Value.bool hc16)), trivial⟩) (by kernel_rfl) ⟨?_, trivial⟩
                  refine EvStep.mk (some 92) (new := fun _ => [(22, some 93, .bool x13_21), (23, some 4, .bool x13_21)]) ([0, 2, 3, 4, 5, 6, 7, 8, 9, 10, 11, 12, 14, 15, 16, 18, 19, 22, 23] ++ [1, 13, 17]) (by kernel_rfl) (Ev.call0 (xs := []) [] (by kernel_rfl) (by kernel_rfl) (fun w hS => haywainlaw02_knows.con K  _ _ w hS hx13_21)) (fun _ => by kernel_rfl) (fun _ => ?_)
                  refine D.fin (fr' := [(4, .bool x13_21)]) [0, 2, 3, 4, 5, 6, 7, 8, 9, 10, 11, 12, 14, 15, 16, 18, 19, 22, 23] [1, 13, 17] [] [] [4] (by kernel_rfl) (by kernel_rfl) (⟨QuAt.mk (v := .bool false) (some 72) (by kernel_rfl) (by kernel_rfl) (Qu.eqv (u := .bool (x9_3.2.2 == 0)) (v := .bool false) (0, 0) [] (by kernel_rfl) (congrArg Value.bool hc11)), QuAt.mk (v := .bool true) (some 84) (by kernel_rfl) (by kernel_rfl) (Qu.eqv (u := .bool (x9_3.2.2 != 0)) (v := .bool true) (0, 0) [] (by kernel_rfl) (congrArg Value.bool hc15)), QuAt.mk (v := .bool true) (some 88) (by kernel_rfl) (by kernel_rfl) (Qu.eqv (u := .bool ((x9_3.2.1.length : Int) == 0)) (v := .bool true) (0, 0) [] (by kernel_rfl) (congrArg Value.bool hc16)), trivial⟩) (by kernel_rfl) ?_
                  obtain rfl := Option.some.inj H
                  exact J.doneS [] [] [] [] [] () (vs := [.bool x13_21]) (by kernel_rfl) (by kernel_rfl) (by kernel_rfl) (by kernel_rfl) (by kernel_rfl) (by decide)
                · refine J.drawS (by kernel_rfl) [(0, some 71, .int .i64 x9_3.2.2), (2, some 73, .bool false), (3, some 74, undef), (4, some 75, undef), (5, some 76, undef), (6, some 77, undef), (7, some 78, undef), (8, some 79, undef), (9, some 80, undef), (10, some 81, .bool false), (11, some 82, .bool false), (12, some 83, .int .i64 x9_3.2.2), (14, some 85, .bool true), (15, some 86, .slice p9_3.2.1 x9_3.2.1.length p9_3.2.2), (16, some 87, .int .i64 (x9_3.2.1.length : Int)), (18, some 89, .bool false), (19, some 90, .bool false), (20, some 91, .bool false), (21, some 92, undef), (22, some 93, .bool false), (23, some 4, .bool false), (1, some 72, .bool false), (13, some 84, .bool true), (17, some 88, .bool false)] ([0, 2, 3, 4, 5, 6, 7, 8, 9, 10, 11, 12, 14, 15, 16, 18, 19, 20, 21, 22, 23] ++ [1, 13, 17]) (by kernel_rfl) ?_
                  refine D.fin (fr' := [(4, .bool false)]) [0, 2, 3, 4, 5, 6, 7, 8, 9, 10, 11, 12, 14, 15, 16, 18, 19, 20, 21, 22, 23] [1, 13, 17] [] [] [4] (by kernel_rfl) (by kernel_rfl) (⟨QuAt.mk (v := .bool false) (some 72) (by kernel_rfl) (by kernel_rfl) (Qu.eqv (u := .bool (x9_3.2.2 == 0)) (v := .bool false) (0, 0) [] (by kernel_rfl) (congrArg Value.bool hc11)), QuAt.mk (v := .bool true) (some 84) (by kernel_rfl) (by kernel_rfl) (Qu.eqv (u := .bool (x9_3.2.2 != 0)) (v := .bool true) (0, 0) [] (by kernel_rfl) (congrArg Value.bool hc15)), QuAt.mk (v := .bool false) (some 88) (by kernel_rfl) (by kernel_rfl) (Qu.eqv (u := .bool ((x9_3.2.1.length : Int) == 0)) (v := .bool false) (0, 0) [] (by kernel_rfl) (congrArg Value.bool hc16)), trivial⟩) (by kernel_rfl) ?_
                  obtain rfl := Option.some.inj H
                  exact J.doneS [] [] [] [] [] () (vs := [.bool false]) (by kernel_rfl) (by kernel_rfl) (by kernel_rfl) (by kernel_rfl) (by kernel_rfl) (by decide)
              · refine J.drawS (by kernel_rfl) [(0, some 71, .int .i64 x9_3.2.2), (2, some 73, .bool false), (3, some 74, undef), (4, some 75, undef), (5, some 76, undef), (6, some 77, undef), (7, some 78, undef), (8, some 79, undef), (9, some 80, undef), (10, some 81, .bool false), (11, some 82, .bool false), (12, some 83, .int .i64 x9_3.2.2), (14, some 85, .bool false), (15, some 86, undef), (16, some 87, undef), (17, some 88, undef), (18, some 89, .bool false), (19, some 90, .bool false), (20, some 91, .bool false), (21, some 92, undef), (22, some 93, .bool false), (23, some 4, .bool false), (1, some 72, .bool false), (13, some 84, .bool false)] ([0, 2, 3, 4, 5, 6, 7, 8, 9, 10, 11, 12, 14, 15, 16, 17, 18, 19, 20, 21, 22, 23] ++ [1, 13]) (by kernel_rfl) ?_
                refine D.fin (fr' := [(4, .bool false)]) [0, 2, 3, 4, 5, 6, 7, 8, 9, 10, 11, 12, 14, 15, 16, 17, 18, 19, 20, 21, 22, 23] [1, 13] [] [] [4] (by kernel_rfl) (by kernel_rfl) (⟨QuAt.mk (v := .bool false) (some 72) (by kernel_rfl) (by kernel_rfl) (Qu.eqv (u := .bool (x9_3.2.2 == 0)) (v := .bool false) (0, 0) [] (by kernel_rfl) (congrArg Value.bool hc11)), QuAt.mk (v := .bool false) (some 84) (by kernel_rfl) (by kernel_rfl) (Qu.eqv (u := .bool (x9_3.2.2 != 0)) (v := .bool false) (0, 0) [] (by kernel_rfl) (congrArg Value.bool hc15)), trivial⟩) (by kernel_rfl) ?_
                obtain rfl := Option.some.inj H
                exact J.doneS [] [] [] [] [] () (vs := [.bool false]) (by kernel_rfl) (by kernel_rfl) (by kernel_rfl) (by kernel_rfl) (by kernel_rfl) (by decide)
      · rcases condE H with ⟨hc17, H⟩ | ⟨hc17, H⟩
        · refine J.condT (x := .tmp 29) (t := (decide ((a0.length : Int) > 4000))) (by kernel_rfl) (by kernel_rfl) hc17 ?_
          refine J.seq (by kernel_rfl) ?_
          rcases condE H with ⟨hc18, H⟩ | ⟨hc18, H⟩
          · refine J.region (by kernel_rfl) ?_
            refine O.pure 2 [] [1, 6, 31] [] (fr' := [(1, .slice h1.1 a1.length h1.2), (6, .int .i64 x3_3.2), (31, .int .i64 (x3_3.1.length : Int))]) (bx' := []) (by kernel_rfl) ?_
            refine O.q (v := .bool true) (some 32) (Qu.eqv (u := .bool ((x3_3.1.length : Int) != 0)) (v := .bool true) (0, 0) [] (by kernel_rfl) (congrArg Value.bool hc18)) (by kernel_rfl) ?_
            refine O.pure 4 [] [1, 36] [] (fr' := [(1, .slice h1.1 a1.length h1.2), (36, .bool true)]) (bx' := []) (by kernel_rfl) ?_
            refine O.nil (by kernel_rfl) ?_
            refine J.cond (o := .tmp 36) true (by kernel_rfl) (by kernel_rfl) ?_
            refine J.seq (by kernel_rfl) ?_
            refine J.region (by kernel_rfl) ?_
            refine O.pure 1 [] [4] [] (fr' := [(4, .bool false)]) (bx' := []) (by kernel_rfl) ?_
            refine O.nil (by kernel_rfl) ?_
            obtain rfl := Option.some.inj H
            obtain rfl := hj3.2 _ rfl
            exact J.doneS [] [] [] [] [] () (vs := [.bool false]) (by kernel_rfl) (by kernel_rfl) (by kernel_rfl) (by kernel_rfl) (by kernel_rfl) (by decide)
          · refine J.region (by kernel_rfl) ?_
            refine O.pure 2 [] [1, 6, 31] [] (fr' := [(1, .slice h1.1 a1.length h1.2), (6, .int .i64 x3_3.2), (31, .int .i64 (x3_3.1.length : Int))]) (bx' := []) (by kernel_rfl) ?_
            refine O.q (v := .bool false) (some 32) (Qu.eqv (u := .bool ((x3_3.1.length : Int) != 0)) (v := .bool false) (0, 0) [] (by kernel_rfl) (congrArg Value.bool hc18)) (by kernel_rfl) ?_
            refine O.pure 4 [] [1, 36] [] (fr' := [(1, .slice h1.1 a1.length h1.2), (36, .bool (x3_3.2 != 3))]) (bx' := []) (by kernel_rfl) ?_
            refine O.nil (by kernel_rfl) ?_
            rcases condE H with ⟨hc19, H⟩ | ⟨hc19, H⟩
            · refine J.condT (x := .tmp 36) (t := (x3_3.2 != 3)) (by kernel_rfl) (by kernel_rfl) hc19 ?_
              refine J.seq (by kernel_rfl) ?_
              refine J.region (by kernel_rfl) ?_
              refine O.pure 1 [] [4] [] (fr' := [(4, .bool false)]) (bx' := []) (by kernel_rfl) ?_
              refine O.nil (by kernel_rfl) ?_
              obtain rfl := Option.some.inj H
              obtain rfl := hj3.2 _ rfl
              exact J.doneS [] [] [] [] [] () (vs := [.bool false]) (by kernel_rfl) (by kernel_rfl) (by kernel_rfl) (by kernel_rfl) (by kernel_rfl) (by decide)
            · refine J.condF (x := .tmp 36) (t := (x3_3.2 != 3)) (by kernel_rfl) (by kernel_rfl) hc19 ?_
              refine J.skip (by kernel_rfl) ?_
              obtain rfl := Option.some.inj H
              exact J.conv2 [1] [0, 1] [] [] (by kernel_rfl) (by kernel_rfl) (by kernel_rfl) (by kernel_rfl) (by decide) (hj3.1 _ rfl ())
        · refine J.condF (x := .tmp 29) (t := (decide ((a0.length : Int) > 4000))) (by kernel_rfl) (by kernel_rfl) hc17 ?_
          refine J.seq (by kernel_rfl) ?_
          obtain ⟨x7_3, hx7_3, H⟩ := bindE H
          rcases condE H with ⟨hc20, H⟩ | ⟨hc20, H⟩
          · refine J.mono (fun w hS => hS.freezeH (h := p3_3) (xs := x3_3.1)) ?_
            refine J.drawS (by kernel_rfl) [(0, some 37, .slice p3_3.1 x3_3.1.length p3_3.2), (2, some 39, .slice h0.1 a0.length h0.2), (1, some 38, .string (strOfNums x3_3.1))] ([0, 2] ++ [1]) (by kernel_rfl) ?_
            refine D.mid (cs := [3]) [0, 2] [1] [] [] (by kernel_rfl) (by kernel_rfl) (⟨QuAt.mk (v := .string (strOfNums x3_3.1)) (some 38) (by kernel_rfl) (by kernel_rfl) (Qu.str (t := 22) (u := 9) (x := .tmp 37) (h := p3_3) (xs := x3_3.1) 0 (by kernel_rfl) (by kernel_rfl) (by kernel_rfl) (by kernel_rfl) rfl), trivial⟩) (by kernel_rfl) ⟨?_, trivial⟩
            refine EvStep.mk (some 40) (new := fun p7_3 => [(4, some 41, .string (strOfNums x7_3)), (5, some 42, .bool true), (6, some 43, .bool true), (7, some 44, undef), (8, some 45, undef), (9, some 46, .bool true)]) ([0, 6, 7, 8, 9] ++ [1, 4, 5]) (by kernel_rfl) (Ev.call0 (xs := [.tmp 39]) [1] (by kernel_rfl) (by kernel_rfl) (fun w hS => haywainref02_Frame.con K a0 h0  _ _ w hS hx7_3)) (fun p7_3 => by kernel_rfl) (fun p7_3 => ?_)
            refine D.mono (fun w hS => hS.freezeH (h := p7_3) (xs := x7_3)) ?_
            refine D.fin (fr' := [(1, .slice h1.1 a1.length h1.2), (46, .bool true)]) [0, 6, 7, 8, 9] [1, 4, 5] [] [] [1, 46] (by kernel_rfl) (by kernel_rfl) (⟨QuAt.mk (v := .string (strOfNums x3_3.1)) (some 38) (by kernel_rfl) (by kernel_rfl) (Qu.str (t := 22) (u := 9) (x := .tmp 37) (h := p3_3) (xs := x3_3.1) 1 (by kernel_rfl) (by kernel_rfl) (by kernel_rfl) (by kernel_rfl) rfl), QuAt.mk (v := .string (strOfNums x7_3)) (some 41) (by kernel_rfl) (by kernel_rfl) (Qu.str (t := 22) (u := 9) (x := .tmp 40) (h := p7_3) (xs := x7_3) 0 (by kernel_rfl) (by kernel_rfl) (by kernel_rfl) (by kernel_rfl) rfl), QuAt.mk (v := .bool true) (some 42) (by kernel_rfl) (by kernel_rfl) (Qu.eqv (u := .bool (!((strOfNums x3_3.1).toList == (strOfNums x7_3).toList))) (v := .bool true) (0, 0) [] (by kernel_rfl) (congrArg Value.bool hc20)), trivial⟩) (by kernel_rfl) ?_
            refine J.cond (o := .tmp 46) true (by kernel_rfl) (by kernel_rfl) ?_
            refine J.seq (by kernel_rfl) ?_
            refine J.region (by kernel_rfl) ?_
            refine O.pure 1 [] [4] [] (fr' := [(4, .bool false)]) (bx' := []) (by kernel_rfl) ?_
            refine O.nil (by kernel_rfl) ?_
            obtain rfl := Option.some.inj H
            obtain rfl := hj3.2 _ rfl
            exact J.doneS [] [] [] [] [] () (vs := [.bool false]) (by kernel_rfl) (by kernel_rfl) (by kernel_rfl) (by kernel_rfl) (by kernel_rfl) (by decide)
          · refine J.mono (fun w hS => hS.freezeH (h := p3_3) (xs := x3_3.1)) ?_
            refine J.drawS (by kernel_rfl) [(0, some 37, .slice p3_3.1 x3_3.1.length p3_3.2), (2, some 39, .slice h0.1 a0.length h0.2), (1, some 38, .string (strOfNums x3_3.1))] ([0, 2] ++ [1]) (by kernel_rfl) ?_
            refine D.mid (cs := [3]) [0, 2] [1] [] [] (by kernel_rfl) (by kernel_rfl) (⟨QuAt.mk (v := .string (strOfNums x3_3.1)) (some 38) (by kernel_rfl) (by kernel_rfl) (Qu.str (t := 22) (u := 9) (x := .tmp 37) (h := p3_3) (xs := x3_3.1) 0 (by kernel_rfl) (by kernel_rfl) (by kernel_rfl) (by kernel_rfl) rfl), trivial⟩) (by kernel_rfl) ⟨?_, trivial⟩
            refine EvStep.mk (some 40) (new := fun p7_3 => [(4, some 41, .string (strOfNums x7_3)), (5, some 42, .bool false), (6, some 43, .bool false), (7, some 44, .int .i64 x3_3.2), (8, some 45, .bool (x3_3.2 != 0)), (9, some 46, .bool (x3_3.2 != 0))]) ([0, 6, 7, 8, 9] ++ [1, 4, 5]) (by kernel_rfl) (Ev.call0 (xs := [.tmp 39]) [1] (by kernel_rfl) (by kernel_rfl) (fun w hS => haywainref02_Frame.con K a0 h0  _ _ w hS hx7_3)) (fun p7_3 => by kernel_rfl) (fun p7_3 => ?_)
            refine D.mono (fun w hS => hS.freezeH (h := p7_3) (xs := x7_3)) ?_
            refine D.fin (fr' := [(1, .slice h1.1 a1.length h1.2), (46, .bool (x3_3.2 != 0))]) [0, 6, 7, 8, 9] [1, 4, 5] [] [] [1, 46] (by kernel_rfl) (by kernel_rfl) (⟨QuAt.mk (v := .string (strOfNums x3_3.1)) (some 38) (by kernel_rfl) (by kernel_rfl) (Qu.str (t := 22) (u := 9) (x := .tmp 37) (h := p3_3) (xs := x3_3.1) 1 (by kernel_rfl) (by kernel_rfl) (by kernel_rfl) (by kernel_rfl) rfl), QuAt.mk (v := .string (strOfNums x7_3)) (some 41) (by kernel_rfl) (by kernel_rfl) (Qu.str (t := 22) (u := 9) (x := .tmp 40) (h := p7_3) (xs := x7_3) 0 (by kernel_rfl) (by kernel_rfl) (by kernel_rfl) (by kernel_rfl) rfl), QuAt.mk (v := .bool false) (some 42) (by kernel_rfl) (by kernel_rfl) (Qu.eqv (u := .bool (!((strOfNums x3_3.1).toList == (strOfNums x7_3).toList))) (v := .bool false) (0, 0) [] (by kernel_rfl) (congrArg Value.bool hc20)), trivial⟩) (by kernel_rfl) ?_
            rcases condE H with ⟨hc21, H⟩ | ⟨hc21, H⟩
            · refine J.condT (x := .tmp 46) (t := (x3_3.2 != 0)) (by kernel_rfl) (by kernel_rfl) hc21 ?_
              refine J.seq (by kernel_rfl) ?_
              refine J.region (by kernel_rfl) ?_
              refine O.pure 1 [] [4] [] (fr' := [(4, .bool false)]) (bx' := []) (by kernel_rfl) ?_
              refine O.nil (by kernel_rfl) ?_
              obtain rfl := Option.some.inj H
              obtain rfl := hj3.2 _ rfl
              exact J.doneS [] [] [] [] [] () (vs := [.bool false]) (by kernel_rfl) (by kernel_rfl) (by kernel_rfl) (by kernel_rfl) (by kernel_rfl) (by decide)
            · refine J.condF (x := .tmp 46) (t := (x3_3.2 != 0)) (by kernel_rfl) (by kernel_rfl) hc21 ?_
              refine J.skip (by kernel_rfl) ?_
              obtain rfl := Option.some.inj H
              exact J.conv2 [1] [2, 3] [] [] (by kernel_rfl) (by kernel_rfl) (by kernel_rfl) (by kernel_rfl) (by decide) (hj3.1 _ rfl ())
def haywainlaw02_CodeFrames.Pure : Prop := ∀ (a0 : List Int) (a1 : List Int), (a0.length * 1 ≤ 140737488351232 ∧ ∀ x_ ∈ a0, (Lit.int .u8 x_).wf = true) → (a1.length * 1 ≤ 140737488351232 ∧ ∀ x_ ∈ a1, (Lit.int .u8 x_).wf = true) → ∃ K, haywainlaw02_CodeFrames.f K a0 a1 = some true
end Go.Proofs.Ytpachjomjoaipaa.G
