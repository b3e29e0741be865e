/- The law BoxParts as plain Lean, with its contract; printed by a program of this session. -/
import Derived.Test.YtdbeannfjjbegaaG1
set_option linter.unusedVariables false
set_option linter.unusedSimpArgs false
namespace Go.Proofs.Ytdbeannfjjbegaa.G
open Go Go.RowKit Go.Hw
/-! ### haywain/haywainlaw05.BoxParts: function 8 -/
def haywainlaw05_BoxParts.l20 (K : Nat) (a0 : Int) (a2 : List S40) (x3_1 : List S40) : Nat → Int → Option (Unit ⊕ Bool)
  | 0, _ => none
  | k + 1, s20 => cond (decide (s20 < ((x3_1 ++ a2).length : Int))) (cond (a0 == 5) ((idxO (x3_1 ++ a2) s20).bind fun x7_5 => cond (decide (x7_5.f1 < 0)) ((haywainlaw05_knows.f K).bind fun x8_0 => some (.inr (x8_0))) (haywainlaw05_BoxParts.l20 K a0 a2 x3_1 k (IntKind.wrap .i64 (s20 + 1)))) (haywainlaw05_BoxParts.l20 K a0 a2 x3_1 k (IntKind.wrap .i64 (s20 + 1)))) (some (.inl ()))
def haywainlaw05_BoxParts.f (K : Nat) (a0 : Int) (a1 : List S40) (a2 : List S40) : Option Bool := (haywainlaw05_great.f K a1).bind fun x1_1 => cond x1_1 ((haywainlaw05_knows.f K).bind fun x2_0 => some (x2_0)) ((haywainlaw05_great.f K a2).bind fun x1_4 => cond x1_4 ((haywainlaw05_knows.f K).bind fun x2_0 => some (x2_0)) ((haywainlaw05_own.f K a1).bind fun x3_1 => (appO 16 x3_1 a2).bind fun y3_3 => (haywainlaw05_BoxParts.l20 K a0 a2 x3_1 K 0 : Option (Unit ⊕ Bool)).bind (Sum.elim (fun o3 : Unit => (haywainlaw05_own.f K a1).bind fun x9_2 => (box_Fold.f K a0 x9_2).bind fun x9_3 => (haywainlaw05_own.f K a2).bind fun x10_2 => (box_Fold.f K a0 x10_2).bind fun x10_3 => (box_Fold.f K a0 (x3_1 ++ a2)).bind fun x11_2 => cond (x9_3.2 != 0) (cond (x11_2.2 != 0) ((haywainlaw05_knows.f K).bind fun x13_3 => some (x13_3)) (some (false))) (cond (x10_3.2 != 0) (cond (x11_2.2 != 0) ((haywainlaw05_knows.f K).bind fun x13_3 => some (x13_3)) (some (false))) ((box_Join.f K ([x9_3.1, x10_3.1] : List (List S40))).bind fun x14_4 => (box_Fold.f K a0 x14_4).bind fun x14_5 => (haywainref04_SameMsgs.f K x14_5.1 x11_2.1).bind fun x15_2 => cond x15_2 (cond (x14_5.2 == x11_2.2) ((haywainlaw05_knows.f K).bind fun x15_9 => some (x15_9)) (some (false))) (some (false))))) some)))
set_option maxRecDepth 100000 in
set_option maxHeartbeats 1000000 in
theorem haywainlaw05_BoxParts.con (K : Nat) (a0 : Int) (a1 : List S40) (a2 : List S40) (h0 : Hd) (h1 : Hd) (r : Bool) (X : Nat → Nat → Prop) (w : World) (hS : St X w [] [] [] [] [Rd kd40 h0.1 h0.2 a1, Rd kd40 h1.1 h1.2 a2] w) (H : haywainlaw05_BoxParts.f K a0 a1 a2 = some r) :
    Cn Try.prog 8 [.int .i64 a0, .slice h0.1 a1.length h0.2, .slice h1.1 a2.length h1.2] X w [] (fun i : Unit => .bool r) (fun i => []) (fun i => []) (fun i => []) := by
  refine Cn.of Try.func8 (by kernel_rfl) hS ?_
  unfold haywainlaw05_BoxParts.f at H
  refine J.seq (by kernel_rfl) ?_
  refine J.region (by kernel_rfl) ?_
  refine O.pure 1 [] [0, 1, 2] [] (fr' := [(0, .int .i64 a0), (1, .slice h0.1 a1.length h0.2), (2, .slice h1.1 a2.length h1.2)]) (bx' := []) (by kernel_rfl) ?_
  refine O.nil (by kernel_rfl) ?_
  refine J.seq (by kernel_rfl) ?_
  refine J.seq (by kernel_rfl) ?_
  obtain ⟨x1_1, hx1_1, H⟩ := bindE H
  rcases condE H with ⟨hc1, H⟩ | ⟨hc1, H⟩
  · refine J.region (by kernel_rfl) ?_
    refine O.pure 1 [] [0, 1, 2, 17] [] (fr' := [(0, .int .i64 a0), (1, .slice h0.1 a1.length h0.2), (2, .slice h1.1 a2.length h1.2), (17, .slice h0.1 a1.length h0.2)]) (bx' := []) (by kernel_rfl) ?_
    refine O.e (some 18) (Ev.call0 (xs := [.tmp 17]) [0] (by kernel_rfl) (by kernel_rfl) (fun w hS => haywainlaw05_great.con K a1 h0  _ _ w hS hx1_1)) (by kernel_rfl) (fun _ => ?_)
    refine O.q (v := .bool true) (some 19) (Qu.eqv (u := .bool x1_1) (v := .bool true) (0, 0) [] (by kernel_rfl) (congrArg Value.bool hc1)) (by kernel_rfl) ?_
    refine O.pure 3 [] [0, 1, 2, 22] [] (fr' := [(0, .int .i64 a0), (1, .slice h0.1 a1.length h0.2), (2, .slice h1.1 a2.length h1.2), (22, .bool true)]) (bx' := []) (by kernel_rfl) ?_
    refine O.nil (by kernel_rfl) ?_
    refine J.cond (o := .tmp 22) true (by kernel_rfl) (by kernel_rfl) ?_
    refine J.seq (by kernel_rfl) ?_
    obtain ⟨x2_0, hx2_0, H⟩ := bindE H
    refine J.region (by kernel_rfl) ?_
    refine O.e (some 23) (Ev.call0 (xs := []) [] (by kernel_rfl) (by kernel_rfl) (fun w hS => haywainlaw05_knows.con K  _ _ w hS hx2_0)) (by kernel_rfl) (fun _ => ?_)
    refine O.pure 1 [] [6] [] (fr' := [(6, .bool x2_0)]) (bx' := []) (by kernel_rfl) ?_
    refine O.nil (by kernel_rfl) ?_
    obtain rfl := Option.some.inj H
    exact J.doneS [] [] [] [] [] () (vs := [.bool x2_0]) (by kernel_rfl) (by kernel_rfl) (by kernel_rfl) (by kernel_rfl) (by kernel_rfl) (by decide)
  · obtain ⟨x1_4, hx1_4, H⟩ := bindE H
    refine J.region (by kernel_rfl) ?_
    refine O.pure 1 [] [0, 1, 2, 17] [] (fr' := [(0, .int .i64 a0), (1, .slice h0.1 a1.length h0.2), (2, .slice h1.1 a2.length h1.2), (17, .slice h0.1 a1.length h0.2)]) (bx' := []) (by kernel_rfl) ?_
    refine O.e (some 18) (Ev.call0 (xs := [.tmp 17]) [0] (by kernel_rfl) (by kernel_rfl) (fun w hS => haywainlaw05_great.con K a1 h0  _ _ w hS hx1_1)) (by kernel_rfl) (fun _ => ?_)
    refine O.q (v := .bool false) (some 19) (Qu.eqv (u := .bool x1_1) (v := .bool false) (0, 0) [] (by kernel_rfl) (congrArg Value.bool hc1)) (by kernel_rfl) ?_
    refine O.pure 1 [] [0, 1, 2, 19, 20] [] (fr' := [(0, .int .i64 a0), (1, .slice h0.1 a1.length h0.2), (2, .slice h1.1 a2.length h1.2), (19, .bool false), (20, .slice h1.1 a2.length h1.2)]) (bx' := []) (by kernel_rfl) ?_
    refine O.e (some 21) (Ev.call0 (xs := [.tmp 20]) [1] (by kernel_rfl) (by kernel_rfl) (fun w hS => haywainlaw05_great.con K a2 h1  _ _ w hS hx1_4)) (by kernel_rfl) (fun _ => ?_)
    refine O.pure 1 [] [0, 1, 2, 22] [] (fr' := [(0, .int .i64 a0), (1, .slice h0.1 a1.length h0.2), (2, .slice h1.1 a2.length h1.2), (22, .bool x1_4)]) (bx' := []) (by kernel_rfl) ?_
    refine O.nil (by kernel_rfl) ?_
    rcases condE H with ⟨hc2, H⟩ | ⟨hc2, H⟩
    · refine J.condT (x := .tmp 22) (t := x1_4) (by kernel_rfl) (by kernel_rfl) hc2 ?_
      refine J.seq (by kernel_rfl) ?_
      obtain ⟨x2_0, hx2_0, H⟩ := bindE H
      refine J.region (by kernel_rfl) ?_
      refine O.e (some 23) (Ev.call0 (xs := []) [] (by kernel_rfl) (by kernel_rfl) (fun w hS => haywainlaw05_knows.con K  _ _ w hS hx2_0)) (by kernel_rfl) (fun _ => ?_)
      refine O.pure 1 [] [6] [] (fr' := [(6, .bool x2_0)]) (bx' := []) (by kernel_rfl) ?_
      refine O.nil (by kernel_rfl) ?_
      obtain rfl := Option.some.inj H
      exact J.doneS [] [] [] [] [] () (vs := [.bool x2_0]) (by kernel_rfl) (by kernel_rfl) (by kernel_rfl) (by kernel_rfl) (by kernel_rfl) (by decide)
    · refine J.condF (x := .tmp 22) (t := x1_4) (by kernel_rfl) (by kernel_rfl) hc2 ?_
      refine J.skip (by kernel_rfl) ?_
      refine J.seq (by kernel_rfl) ?_
      obtain ⟨x3_1, hx3_1, H⟩ := bindE H
      obtain ⟨y3_3, hy3_3, H⟩ := bindE H
      have hy3_3a := (appE hy3_3).1
      refine J.region (by kernel_rfl) ?_
      refine O.pure 1 [] [0, 1, 2, 24] [] (fr' := [(0, .int .i64 a0), (1, .slice h0.1 a1.length h0.2), (2, .slice h1.1 a2.length h1.2), (24, .slice h0.1 a1.length h0.2)]) (bx' := []) (by kernel_rfl) ?_
      refine O.e (some 25) (Ev.call0 (xs := [.tmp 24]) [0] (by kernel_rfl) (by kernel_rfl) (fun w hS => haywainlaw05_own.con K a1 h0  _ _ w hS hx3_1)) (by kernel_rfl) (fun p3_1 => ?_)
      refine O.pure 1 [] [0, 1, 2, 25, 26] [] (fr' := [(0, .int .i64 a0), (1, .slice h0.1 a1.length h0.2), (2, .slice h1.1 a2.length h1.2), (25, .slice p3_1.1 x3_1.length p3_1.2), (26, .slice h1.1 a2.length h1.2)]) (bx' := []) (by kernel_rfl) ?_
      refine O.e (some 27) (Ev.appSl (d := kd40) (ys := a2) (A := h1.1) (c := h1.2) (x := .tmp 25) (y := .tmp 26) (t := 22) (bytes := 16) 1 (by kernel_rfl) (by kernel_rfl) (by kernel_rfl) rfl (by kernel_rfl) (by decide) hy3_3a) (by kernel_rfl) (fun p3_3 => ?_)
      refine O.pure 1 [] [0, 1, 2, 7] [] (fr' := [(0, .int .i64 a0), (1, .slice h0.1 a1.length h0.2), (2, .slice h1.1 a2.length h1.2), (7, .slice p3_3.1 (x3_1 ++ a2).length p3_3.2)]) (bx' := []) (by kernel_rfl) ?_
      refine O.nil (by kernel_rfl) ?_
      refine J.seq (by kernel_rfl) ?_
      refine J.seq (by kernel_rfl) ?_
      refine J.region (by kernel_rfl) ?_
      refine O.pure 1 [] [0, 1, 2, 7, 8] [] (fr' := [(0, .int .i64 a0), (1, .slice h0.1 a1.length h0.2), (2, .slice h1.1 a2.length h1.2), (7, .slice p3_3.1 (x3_1 ++ a2).length p3_3.2), (8, .int .i64 0)]) (bx' := []) (by kernel_rfl) ?_
      refine O.nil (by kernel_rfl) ?_
      refine J.joinS (α := Unit) (γ := Unit) (fun o3 q3 => [(0, .int .i64 a0), (1, .slice h0.1 a1.length h0.2), (2, .slice h1.1 a2.length h1.2), (7, .slice p3_3.1 (x3_1 ++ a2).length p3_3.2)]) (fun o3 q3 => St X w [] [] [] [] [Rd kd40 h0.1 h0.2 a1, Rd kd40 h1.1 h1.2 a2, Rd kd40 p3_3.1 p3_3.2 (x3_1 ++ a2)]) H (fun o3 q3 H => ?_) (fun o3 H hj3 => ?_)
      · refine J.seq (by kernel_rfl) ?_
        obtain ⟨x9_2, hx9_2, H⟩ := bindE H
        obtain ⟨x9_3, hx9_3, H⟩ := bindE H
        refine J.region (by kernel_rfl) ?_
        refine O.pure 2 [] [0, 2, 7, 46, 47] [] (fr' := [(0, .int .i64 a0), (2, .slice h1.1 a2.length h1.2), (7, .slice p3_3.1 (x3_1 ++ a2).length p3_3.2), (46, .int .i64 a0), (47, .slice h0.1 a1.length h0.2)]) (bx' := []) (by kernel_rfl) ?_
        refine O.e (some 48) (Ev.call0 (xs := [.tmp 47]) [0] (by kernel_rfl) (by kernel_rfl) (fun w hS => haywainlaw05_own.con K a1 h0  _ _ w hS hx9_2)) (by kernel_rfl) (fun p9_2 => ?_)
        refine O.e (some 49) (Ev.callL (hh := p9_2) (xs := x9_2) (m := x9_2.length) (xs1 := [.tmp 46, .tmp 48]) [0] rfl (by kernel_rfl) (by kernel_rfl) (fun _ q hq _ _ _ h => by obtain rfl := List.mem_singleton.1 hq; exact h) (fun w hS => box_Fold.con K a0 x9_2 p9_2  _ _ w hS hx9_3)) (by kernel_rfl) (fun p9_3 => ?_)
        refine O.pure 5 [] [0, 2, 7, 9, 10] [] (fr' := [(0, .int .i64 a0), (2, .slice h1.1 a2.length h1.2), (7, .slice p3_3.1 (x3_1 ++ a2).length p3_3.2), (9, .slice p9_3.1 x9_3.1.length p9_3.2), (10, .int .i64 x9_3.2)]) (bx' := []) (by kernel_rfl) ?_
        refine O.nil (by kernel_rfl) ?_
        refine J.seq (by kernel_rfl) ?_
        obtain ⟨x10_2, hx10_2, H⟩ := bindE H
        obtain ⟨x10_3, hx10_3, H⟩ := bindE H
        refine J.region (by kernel_rfl) ?_
        refine O.pure 2 [] [0, 7, 9, 10, 53, 54] [] (fr' := [(0, .int .i64 a0), (7, .slice p3_3.1 (x3_1 ++ a2).length p3_3.2), (9, .slice p9_3.1 x9_3.1.length p9_3.2), (10, .int .i64 x9_3.2), (53, .int .i64 a0), (54, .slice h1.1 a2.length h1.2)]) (bx' := []) (by kernel_rfl) ?_
        refine O.e (some 55) (Ev.call0 (xs := [.tmp 54]) [1] (by kernel_rfl) (by kernel_rfl) (fun w hS => haywainlaw05_own.con K a2 h1  _ _ w hS hx10_2)) (by kernel_rfl) (fun p10_2 => ?_)
        refine O.e (some 56) (Ev.callL (hh := p10_2) (xs := x10_2) (m := x10_2.length) (xs1 := [.tmp 53, .tmp 55]) [0] rfl (by kernel_rfl) (by kernel_rfl) (fun _ q hq _ _ _ h => by obtain rfl := List.mem_singleton.1 hq; exact h) (fun w hS => box_Fold.con K a0 x10_2 p10_2  _ _ w hS hx10_3)) (by kernel_rfl) (fun p10_3 => ?_)
        refine O.pure 5 [] [0, 7, 9, 10, 11, 12] [] (fr' := [(0, .int .i64 a0), (7, .slice p3_3.1 (x3_1 ++ a2).length p3_3.2), (9, .slice p9_3.1 x9_3.1.length p9_3.2), (10, .int .i64 x9_3.2), (11, .slice p10_3.1 x10_3.1.length p10_3.2), (12, .int .i64 x10_3.2)]) (bx' := []) (by kernel_rfl) ?_
        refine O.nil (by kernel_rfl) ?_
        refine J.seq (by kernel_rfl) ?_
        obtain ⟨x11_2, hx11_2, H⟩ := bindE H
        refine J.region (by kernel_rfl) ?_
        refine O.pure 2 [] [0, 9, 10, 11, 12, 60, 61] [] (fr' := [(0, .int .i64 a0), (9, .slice p9_3.1 x9_3.1.length p9_3.2), (10, .int .i64 x9_3.2), (11, .slice p10_3.1 x10_3.1.length p10_3.2), (12, .int .i64 x10_3.2), (60, .int .i64 a0), (61, .slice p3_3.1 (x3_1 ++ a2).length p3_3.2)]) (bx' := []) (by kernel_rfl) ?_
        refine O.e (some 62) (Ev.call0 (xs := [.tmp 60, .tmp 61]) [2] (by kernel_rfl) (by kernel_rfl) (fun w hS => box_Fold.con K a0 (x3_1 ++ a2) p3_3  _ _ w hS hx11_2)) (by kernel_rfl) (fun p11_2 => ?_)
        refine O.pure 5 [] [0, 9, 10, 11, 12, 13, 14] [] (fr' := [(0, .int .i64 a0), (9, .slice p9_3.1 x9_3.1.length p9_3.2), (10, .int .i64 x9_3.2), (11, .slice p10_3.1 x10_3.1.length p10_3.2), (12, .int .i64 x10_3.2), (13, .slice p11_2.1 x11_2.1.length p11_2.2), (14, .int .i64 x11_2.2)]) (bx' := []) (by kernel_rfl) ?_
        refine O.nil (by kernel_rfl) ?_
        refine J.seq (by kernel_rfl) ?_
        refine J.seq (by kernel_rfl) ?_
        rcases condE H with ⟨hc14, H⟩ | ⟨hc14, H⟩
        · refine J.region (by kernel_rfl) ?_
          refine O.pure 1 [] [0, 9, 11, 12, 13, 14, 65] [] (fr' := [(0, .int .i64 a0), (9, .slice p9_3.1 x9_3.1.length p9_3.2), (11, .slice p10_3.1 x10_3.1.length p10_3.2), (12, .int .i64 x10_3.2), (13, .slice p11_2.1 x11_2.1.length p11_2.2), (14, .int .i64 x11_2.2), (65, .int .i64 x9_3.2)]) (bx' := []) (by kernel_rfl) ?_
          refine O.q (v := .bool true) (some 66) (Qu.eqv (u := .bool (x9_3.2 != 0)) (v := .bool true) (0, 0) [] (by kernel_rfl) (congrArg Value.bool hc14)) (by kernel_rfl) ?_
          refine O.pure 4 [] [0, 9, 11, 13, 14, 70] [] (fr' := [(0, .int .i64 a0), (9, .slice p9_3.1 x9_3.1.length p9_3.2), (11, .slice p10_3.1 x10_3.1.length p10_3.2), (13, .slice p11_2.1 x11_2.1.length p11_2.2), (14, .int .i64 x11_2.2), (70, .bool true)]) (bx' := []) (by kernel_rfl) ?_
          refine O.nil (by kernel_rfl) ?_
          refine J.cond (o := .tmp 70) true (by kernel_rfl) (by kernel_rfl) ?_
          refine J.seq (by kernel_rfl) ?_
          rcases condE H with ⟨hc15, H⟩ | ⟨hc15, H⟩
          · obtain ⟨x13_3, hx13_3, H⟩ := bindE H
            refine J.region (by kernel_rfl) ?_
            refine O.pure 1 [] [71] [] (fr' := [(71, .int .i64 x11_2.2)]) (bx' := []) (by kernel_rfl) ?_
            refine O.q (v := .bool true) (some 72) (Qu.eqv (u := .bool (x11_2.2 != 0)) (v := .bool true) (0, 0) [] (by kernel_rfl) (congrArg Value.bool hc15)) (by kernel_rfl) ?_
            refine O.pure 1 [] [73] [] (fr' := [(73, .bool true)]) (bx' := []) (by kernel_rfl) ?_
            refine O.e (some 74) (Ev.call0 (xs := []) [] (by kernel_rfl) (by kernel_rfl) (fun w hS => haywainlaw05_knows.con K  _ _ w hS hx13_3)) (by kernel_rfl) (fun _ => ?_)
            refine O.pure 2 [] [6] [] (fr' := [(6, .bool x13_3)]) (bx' := []) (by kernel_rfl) ?_
            refine O.nil (by kernel_rfl) ?_
            obtain rfl := Option.some.inj H
            exact J.doneS [] [] [] [] [] () (vs := [.bool x13_3]) (by kernel_rfl) (by kernel_rfl) (by kernel_rfl) (by kernel_rfl) (by kernel_rfl) (by decide)
          · refine J.region (by kernel_rfl) ?_
            refine O.pure 1 [] [71] [] (fr' := [(71, .int .i64 x11_2.2)]) (bx' := []) (by kernel_rfl) ?_
            refine O.q (v := .bool false) (some 72) (Qu.eqv (u := .bool (x11_2.2 != 0)) (v := .bool false) (0, 0) [] (by kernel_rfl) (congrArg Value.bool hc15)) (by kernel_rfl) ?_
            refine O.pure 4 [] [6] [] (fr' := [(6, .bool false)]) (bx' := []) (by kernel_rfl) ?_
            refine O.nil (by kernel_rfl) ?_
            obtain rfl := Option.some.inj H
            exact J.doneS [] [] [] [] [] () (vs := [.bool false]) (by kernel_rfl) (by kernel_rfl) (by kernel_rfl) (by kernel_rfl) (by kernel_rfl) (by decide)
        · refine J.region (by kernel_rfl) ?_
          refine O.pure 1 [] [0, 9, 11, 12, 13, 14, 65] [] (fr' := [(0, .int .i64 a0), (9, .slice p9_3.1 x9_3.1.length p9_3.2), (11, .slice p10_3.1 x10_3.1.length p10_3.2), (12, .int .i64 x10_3.2), (13, .slice p11_2.1 x11_2.1.length p11_2.2), (14, .int .i64 x11_2.2), (65, .int .i64 x9_3.2)]) (bx' := []) (by kernel_rfl) ?_
          refine O.q (v := .bool false) (some 66) (Qu.eqv (u := .bool (x9_3.2 != 0)) (v := .bool false) (0, 0) [] (by kernel_rfl) (congrArg Value.bool hc14)) (by kernel_rfl) ?_
          refine O.pure 4 [] [0, 9, 11, 13, 14, 70] [] (fr' := [(0, .int .i64 a0), (9, .slice p9_3.1 x9_3.1.length p9_3.2), (11, .slice p10_3.1 x10_3.1.length p10_3.2), (13, .slice p11_2.1 x11_2.1.length p11_2.2), (14, .int .i64 x11_2.2), (70, .bool (x10_3.2 != 0))]) (bx' := []) (by kernel_rfl) ?_
          refine O.nil (by kernel_rfl) ?_
          rcases condE H with ⟨hc16, H⟩ | ⟨hc16, H⟩
          · refine J.condT (x := .tmp 70) (t := (x10_3.2 != 0)) (by kernel_rfl) (by kernel_rfl) hc16 ?_
            refine J.seq (by kernel_rfl) ?_
            rcases condE H with ⟨hc17, H⟩ | ⟨hc17, H⟩
            · obtain ⟨x13_3, hx13_3, H⟩ := bindE H
              refine J.region (by kernel_rfl) ?_
              refine O.pure 1 [] [71] [] (fr' := [(71, .int .i64 x11_2.2)]) (bx' := []) (by kernel_rfl) ?_
              refine O.q (v := .bool true) (some 72) (Qu.eqv (u := .bool (x11_2.2 != 0)) (v := .bool true) (0, 0) [] (by kernel_rfl) (congrArg Value.bool hc17)) (by kernel_rfl) ?_
              refine O.pure 1 [] [73] [] (fr' := [(73, .bool true)]) (bx' := []) (by kernel_rfl) ?_
              refine O.e (some 74) (Ev.call0 (xs := []) [] (by kernel_rfl) (by kernel_rfl) (fun w hS => haywainlaw05_knows.con K  _ _ w hS hx13_3)) (by kernel_rfl) (fun _ => ?_)
              refine O.pure 2 [] [6] [] (fr' := [(6, .bool x13_3)]) (bx' := []) (by kernel_rfl) ?_
              refine O.nil (by kernel_rfl) ?_
              obtain rfl := Option.some.inj H
              exact J.doneS [] [] [] [] [] () (vs := [.bool x13_3]) (by kernel_rfl) (by kernel_rfl) (by kernel_rfl) (by kernel_rfl) (by kernel_rfl) (by decide)
            · refine J.region (by kernel_rfl) ?_
              refine O.pure 1 [] [71] [] (fr' := [(71, .int .i64 x11_2.2)]) (bx' := []) (by kernel_rfl) ?_
              refine O.q (v := .bool false) (some 72) (Qu.eqv (u := .bool (x11_2.2 != 0)) (v := .bool false) (0, 0) [] (by kernel_rfl) (congrArg Value.bool hc17)) (by kernel_rfl) ?_
              refine O.pure 4 [] [6] [] (fr' := [(6, .bool false)]) (bx' := []) (by kernel_rfl) ?_
              refine O.nil (by kernel_rfl) ?_
              obtain rfl := Option.some.inj H
              exact J.doneS [] [] [] [] [] () (vs := [.bool false]) (by kernel_rfl) (by kernel_rfl) (by kernel_rfl) (by kernel_rfl) (by kernel_rfl) (by decide)
          · refine J.condF (x := .tmp 70) (t := (x10_3.2 != 0)) (by kernel_rfl) (by kernel_rfl) hc16 ?_
            refine J.skip (by kernel_rfl) ?_
            refine J.seq (by kernel_rfl) ?_
            obtain ⟨x14_4, hx14_4, H⟩ := bindE H
            obtain ⟨x14_5, hx14_5, H⟩ := bindE H
            refine J.region (by kernel_rfl) ?_
            refine O.pure 3 [] [13, 14, 77, 78, 79] [] (fr' := [(13, .slice p11_2.1 x11_2.1.length p11_2.2), (14, .int .i64 x11_2.2), (77, .int .i64 a0), (78, .slice p9_3.1 x9_3.1.length p9_3.2), (79, .slice p10_3.1 x10_3.1.length p10_3.2)]) (bx' := []) (by kernel_rfl) ?_
            refine O.e (some 80) (Ev.mono (fun w hS => hS.rowsel [3, 0, 1, 2, 4] rfl (by decide)) (Ev.mono (fun w hS => hS.freezeH (h := p9_3) (xs := x9_3.1)) (Ev.mono (fun w hS => hS.rowsel [1, 0, 2, 3] rfl (by decide)) (Ev.mono (fun w hS => hS.freezeH (h := p10_3) (xs := x10_3.1)) (Ev.lit (t := 27) (len := 2) (parts := #[(0, .tmp 78), (1, .tmp 79)]) (ps := [(0, .slice p9_3.1 x9_3.1.length p9_3.2), (1, .slice p10_3.1 x10_3.1.length p10_3.2)]) (cs := [.slice p9_3.1 x9_3.1.length p9_3.2, .slice p10_3.1 x10_3.1.length p10_3.2]) (e := 22) (Kd.slice kd40) ([x9_3.1, x10_3.1] : List (List S40)) (by kernel_rfl) (by kernel_rfl) (by kernel_rfl) (by kernel_rfl) (by kernel_rfl) (by decide) (fun w' hφ => (Els.cons (c := [.slice p9_3.1 x9_3.1.length p9_3.2]) (⟨p9_3.1, p9_3.2, rfl, hφ _ (List.mem_of_getElem? (i := 1) rfl)⟩) (Els.cons (c := [.slice p10_3.1 x10_3.1.length p10_3.2]) (⟨p10_3.1, p10_3.2, rfl, hφ _ (List.mem_of_getElem? (i := 0) rfl)⟩) (Els.nil _ _ _))))))))) (by kernel_rfl) (fun p14_3 => ?_)
            refine O.e (some 81) (Ev.callL (hh := ((some ⟨p14_3, 0, none⟩, 2) : Hd)) (xs := ([x9_3.1, x10_3.1] : List (List S40))) (m := ([x9_3.1, x10_3.1] : List (List S40)).length) (xs1 := [.tmp 80]) [0] rfl (by kernel_rfl) (by kernel_rfl) (fun _ q hq _ _ _ h => by obtain rfl := List.mem_singleton.1 hq; exact h) (fun w hS => box_Join.con K ([x9_3.1, x10_3.1] : List (List S40)) ((some ⟨p14_3, 0, none⟩, 2) : Hd)  _ _ w hS hx14_4)) (by kernel_rfl) (fun p14_4 => ?_)
            refine O.e (some 82) (Ev.callL (hh := p14_4) (xs := x14_4) (m := x14_4.length) (xs1 := [.tmp 77, .tmp 81]) [0] rfl (by kernel_rfl) (by kernel_rfl) (fun _ q hq _ _ _ h => by obtain rfl := List.mem_singleton.1 hq; exact h) (fun w hS => box_Fold.con K a0 x14_4 p14_4  _ _ w hS hx14_5)) (by kernel_rfl) (fun p14_5 => ?_)
            refine O.pure 5 [] [13, 14, 15, 16] [] (fr' := [(13, .slice p11_2.1 x11_2.1.length p11_2.2), (14, .int .i64 x11_2.2), (15, .slice p14_5.1 x14_5.1.length p14_5.2), (16, .int .i64 x14_5.2)]) (bx' := []) (by kernel_rfl) ?_
            refine O.nil (by kernel_rfl) ?_
            refine J.seq (by kernel_rfl) ?_
            obtain ⟨x15_2, hx15_2, H⟩ := bindE H
            rcases condE H with ⟨hc18, H⟩ | ⟨hc18, H⟩
            · rcases condE H with ⟨hc19, H⟩ | ⟨hc19, H⟩
              · obtain ⟨x15_9, hx15_9, H⟩ := bindE H
                refine J.region (by kernel_rfl) ?_
                refine O.pure 2 [] [14, 16, 85, 86] [] (fr' := [(14, .int .i64 x11_2.2), (16, .int .i64 x14_5.2), (85, .slice p14_5.1 x14_5.1.length p14_5.2), (86, .slice p11_2.1 x11_2.1.length p11_2.2)]) (bx' := []) (by kernel_rfl) ?_
                refine O.e (some 87) (Ev.mono (fun w hS => hS.freezeH (h := p14_5) (xs := x14_5.1)) (Ev.mono (fun w hS => hS.rowsel [2, 0, 1, 3, 4] rfl (by decide)) (Ev.mono (fun w hS => hS.freezeH (h := p11_2) (xs := x11_2.1)) (Ev.call0 (xs := [.tmp 85, .tmp 86]) [1, 0] (by kernel_rfl) (by kernel_rfl) (fun w hS => haywainref04_SameMsgs.con K x14_5.1 x11_2.1 p14_5 p11_2  _ _ w hS hx15_2))))) (by kernel_rfl) (fun _ => ?_)
                refine O.q (v := .bool true) (some 88) (Qu.eqv (u := .bool x15_2) (v := .bool true) (0, 0) [] (by kernel_rfl) (congrArg Value.bool hc18)) (by kernel_rfl) ?_
                refine O.pure 2 [] [88, 89, 90] [] (fr' := [(88, .bool true), (89, .int .i64 x14_5.2), (90, .int .i64 x11_2.2)]) (bx' := []) (by kernel_rfl) ?_
                refine O.q (v := .bool true) (some 91) (Qu.eqv (u := .bool (x14_5.2 == x11_2.2)) (v := .bool true) (0, 0) [] (by kernel_rfl) (congrArg Value.bool hc19)) (by kernel_rfl) ?_
                refine O.pure 2 [] [93] [] (fr' := [(93, .bool true)]) (bx' := []) (by kernel_rfl) ?_
                refine O.e (some 94) (Ev.call0 (xs := []) [] (by kernel_rfl) (by kernel_rfl) (fun w hS => haywainlaw05_knows.con K  _ _ w hS hx15_9)) (by kernel_rfl) (fun _ => ?_)
                refine O.pure 2 [] [6] [] (fr' := [(6, .bool x15_9)]) (bx' := []) (by kernel_rfl) ?_
                refine O.nil (by kernel_rfl) ?_
                obtain rfl := Option.some.inj H
                exact J.doneS [] [] [] [] [] () (vs := [.bool x15_9]) (by kernel_rfl) (by kernel_rfl) (by kernel_rfl) (by kernel_rfl) (by kernel_rfl) (by decide)
              · refine J.region (by kernel_rfl) ?_
                refine O.pure 2 [] [14, 16, 85, 86] [] (fr' := [(14, .int .i64 x11_2.2), (16, .int .i64 x14_5.2), (85, .slice p14_5.1 x14_5.1.length p14_5.2), (86, .slice p11_2.1 x11_2.1.length p11_2.2)]) (bx' := []) (by kernel_rfl) ?_
                refine O.e (some 87) (Ev.mono (fun w hS => hS.freezeH (h := p14_5) (xs := x14_5.1)) (Ev.mono (fun w hS => hS.rowsel [2, 0, 1, 3, 4] rfl (by decide)) (Ev.mono (fun w hS => hS.freezeH (h := p11_2) (xs := x11_2.1)) (Ev.call0 (xs := [.tmp 85, .tmp 86]) [1, 0] (by kernel_rfl) (by kernel_rfl) (fun w hS => haywainref04_SameMsgs.con K x14_5.1 x11_2.1 p14_5 p11_2  _ _ w hS hx15_2))))) (by kernel_rfl) (fun _ => ?_)
                refine O.q (v := .bool true) (some 88) (Qu.eqv (u := .bool x15_2) (v := .bool true) (0, 0) [] (by kernel_rfl) (congrArg Value.bool hc18)) (by kernel_rfl) ?_
                refine O.pure 2 [] [88, 89, 90] [] (fr' := [(88, .bool true), (89, .int .i64 x14_5.2), (90, .int .i64 x11_2.2)]) (bx' := []) (by kernel_rfl) ?_
                refine O.q (v := .bool false) (some 91) (Qu.eqv (u := .bool (x14_5.2 == x11_2.2)) (v := .bool false) (0, 0) [] (by kernel_rfl) (congrArg Value.bool hc19)) (by kernel_rfl) ?_
                refine O.pure 5 [] [6] [] (fr' := [(6, .bool false)]) (bx' := []) (by kernel_rfl) ?_
                refine O.nil (by kernel_rfl) ?_
                obtain rfl := Option.some.inj H
                exact J.doneS [] [] [] [] [] () (vs := [.bool false]) (by kernel_rfl) (by kernel_rfl) (by kernel_rfl) (by kernel_rfl) (by kernel_rfl) (by decide)
            · refine J.region (by kernel_rfl) ?_
              refine O.pure 2 [] [14, 16, 85, 86] [] (fr' := [(14, .int .i64 x11_2.2), (16, .int .i64 x14_5.2), (85, .slice p14_5.1 x14_5.1.length p14_5.2), (86, .slice p11_2.1 x11_2.1.length p11_2.2)]) (bx' := []) (by kernel_rfl) ?_
              refine O.e (some 87) (Ev.mono (fun w hS => hS.freezeH (h := p14_5) (xs := x14_5.1)) (Ev.mono (fun w hS => hS.rowsel [2, 0, 1, 3, 4] rfl (by decide)) (Ev.mono (fun w hS => hS.freezeH (h := p11_2) (xs := x11_2.1)) (Ev.call0 (xs := [.tmp 85, .tmp 86]) [1, 0] (by kernel_rfl) (by kernel_rfl) (fun w hS => haywainref04_SameMsgs.con K x14_5.1 x11_2.1 p14_5 p11_2  _ _ w hS hx15_2))))) (by kernel_rfl) (fun _ => ?_)
              refine O.q (v := .bool false) (some 88) (Qu.eqv (u := .bool x15_2) (v := .bool false) (0, 0) [] (by kernel_rfl) (congrArg Value.bool hc18)) (by kernel_rfl) ?_
              refine O.pure 8 [] [6] [] (fr' := [(6, .bool false)]) (bx' := []) (by kernel_rfl) ?_
              refine O.nil (by kernel_rfl) ?_
              obtain rfl := Option.some.inj H
              exact J.doneS [] [] [] [] [] () (vs := [.bool false]) (by kernel_rfl) (by kernel_rfl) (by kernel_rfl) (by kernel_rfl) (by kernel_rfl) (by decide)
      · refine J.block (id := 0) (by kernel_rfl) ?_
        refine J.loopI (σ := Int) (γ := Unit) (f := fun m_ s_ => haywainlaw05_BoxParts.l20 K a0 a2 x3_1 m_ s_) (fun s20 g20 => [(0, .int .i64 a0), (1, .slice h0.1 a1.length h0.2), (2, .slice h1.1 a2.length h1.2), (7, .slice p3_3.1 (x3_1 ++ a2).length p3_3.2), (8, .int .i64 s20)]) (fun s20 g20 => St X w [] [] [] [] [Rd kd40 h0.1 h0.2 a1, Rd kd40 h1.1 h1.2 a2, Rd kd40 p3_3.1 p3_3.2 (x3_1 ++ a2)]) K 0 () (by kernel_rfl) H (fun _ => rfl) (fun m_ s20 H ih20 g20 => ?_) (fun h_ => ?_)
        · unfold haywainlaw05_BoxParts.l20 at H
          refine J.seq (by kernel_rfl) ?_
          refine J.seq (by kernel_rfl) ?_
          refine J.region (by kernel_rfl) ?_
          refine O.pure 4 [] [0, 1, 2, 7, 8, 31] [] (fr' := [(0, .int .i64 a0), (1, .slice h0.1 a1.length h0.2), (2, .slice h1.1 a2.length h1.2), (7, .slice p3_3.1 (x3_1 ++ a2).length p3_3.2), (8, .int .i64 s20), (31, .bool (decide (s20 < ((x3_1 ++ a2).length : Int))))]) (bx' := []) (by kernel_rfl) ?_
          refine O.nil (by kernel_rfl) ?_
          rcases condE H with ⟨hc27, H⟩ | ⟨hc27, H⟩
          · refine J.condT (x := .tmp 31) (t := (decide (s20 < ((x3_1 ++ a2).length : Int)))) (by kernel_rfl) (by kernel_rfl) hc27 ?_
            refine J.skip (by kernel_rfl) ?_
            refine J.seq (by kernel_rfl) ?_
            refine J.block (id := 1) (by kernel_rfl) ?_
            refine J.seq (by kernel_rfl) ?_
            rcases condE H with ⟨hc28, H⟩ | ⟨hc28, H⟩
            · obtain ⟨x7_5, hx7_5, H⟩ := bindE H
              obtain ⟨hx7_5a, hx7_5⟩ := idxE hx7_5
              refine J.region (by kernel_rfl) ?_
              refine O.pure 1 [] [0, 1, 2, 7, 8, 34] [] (fr' := [(0, .int .i64 a0), (1, .slice h0.1 a1.length h0.2), (2, .slice h1.1 a2.length h1.2), (7, .slice p3_3.1 (x3_1 ++ a2).length p3_3.2), (8, .int .i64 s20), (34, .int .i64 a0)]) (bx' := []) (by kernel_rfl) ?_
              refine O.q (v := .bool true) (some 35) (Qu.eqv (u := .bool (a0 == 5)) (v := .bool true) (0, 0) [] (by kernel_rfl) (congrArg Value.bool hc28)) (by kernel_rfl) ?_
              refine O.pure 3 [] [0, 1, 2, 7, 8, 36, 37, 38] [] (fr' := [(0, .int .i64 a0), (1, .slice h0.1 a1.length h0.2), (2, .slice h1.1 a2.length h1.2), (7, .slice p3_3.1 (x3_1 ++ a2).length p3_3.2), (8, .int .i64 s20), (36, .bool true), (37, .slice p3_3.1 (x3_1 ++ a2).length p3_3.2), (38, .int .i64 s20)]) (bx' := []) (by kernel_rfl) ?_
              refine O.open (d := kd40) (h := p3_3) (i := s20) 2 rfl hx7_5 (op40 _) (fun p7_5 hp7_5A => ?_)
              refine O.q (v := .pointer (some ⟨p7_5.1, p7_5.2.1 + s20.toNat * 2, none⟩)) (some 39) (Qu.idx (t := 22) (x := .tmp 37) (y := .tmp 38) (c := p3_3.2) (kk := .i64) (sz := 2) (by kernel_rfl) (by kernel_rfl) (by kernel_rfl) (by kernel_rfl) hx7_5a (idx_lt hx7_5) hp7_5A) (by kernel_rfl) ?_
              refine O.pure 4 [(0, 1)] [0, 1, 2, 7, 8, 37, 38, 39, 40, 41, 42, 43] [p7_5.1, p7_5.2.1 + s20.toNat * 2 + 1] (fr' := [(0, .int .i64 a0), (1, .slice h0.1 a1.length h0.2), (2, .slice h1.1 a2.length h1.2), (7, .slice p3_3.1 (x3_1 ++ a2).length p3_3.2), (8, .int .i64 s20), (37, .slice p3_3.1 (x3_1 ++ a2).length p3_3.2), (38, .int .i64 s20), (39, .pointer (some ⟨p7_5.1, p7_5.2.1 + s20.toNat * 2, none⟩)), (40, .pointer (some ⟨p7_5.1, p7_5.2.1 + s20.toNat * 2 + 1, none⟩)), (41, .int .i64 x7_5.f1), (42, .bool (decide (x7_5.f1 < 0))), (43, .bool (decide (x7_5.f1 < 0)))]) (bx' := []) (by kernel_rfl) ?_
              refine O.nil (by kernel_rfl) ?_
              rcases condE H with ⟨hc29, H⟩ | ⟨hc29, H⟩
              · refine J.condT (x := .tmp 43) (t := (decide (x7_5.f1 < 0))) (by kernel_rfl) (by kernel_rfl) hc29 ?_
                refine J.seq (by kernel_rfl) ?_
                obtain ⟨x8_0, hx8_0, H⟩ := bindE H
                refine J.region (by kernel_rfl) ?_
                refine O.e (some 44) (Ev.call0 (xs := []) [] (by kernel_rfl) (by kernel_rfl) (fun w hS => haywainlaw05_knows.con K  _ _ w hS hx8_0)) (by kernel_rfl) (fun _ => ?_)
                refine O.pure 1 [] [6] [] (fr' := [(6, .bool x8_0)]) (bx' := []) (by kernel_rfl) ?_
                refine O.nil (by kernel_rfl) ?_
                obtain rfl := Option.some.inj H
                obtain rfl := hj3.2 _ rfl
                exact J.doneS [] [] [] [] [] () (vs := [.bool x8_0]) (by kernel_rfl) (by kernel_rfl) (by kernel_rfl) (by kernel_rfl) (by kernel_rfl) (by decide)
              · refine J.condF (x := .tmp 43) (t := (decide (x7_5.f1 < 0))) (by kernel_rfl) (by kernel_rfl) hc29 ?_
                refine J.skip (by kernel_rfl) ?_
                refine J.out ?_
                refine J.region (by kernel_rfl) ?_
                refine O.pure 3 [] [0, 1, 2, 7, 8, 37, 38, 39, 40, 41, 42] [] (fr' := [(0, .int .i64 a0), (1, .slice h0.1 a1.length h0.2), (2, .slice h1.1 a2.length h1.2), (7, .slice p3_3.1 (x3_1 ++ a2).length p3_3.2), (8, .int .i64 (IntKind.wrap .i64 (s20 + 1))), (37, .slice p3_3.1 (x3_1 ++ a2).length p3_3.2), (38, .int .i64 s20), (39, .pointer (some ⟨p7_5.1, p7_5.2.1 + s20.toNat * 2, none⟩)), (40, .pointer (some ⟨p7_5.1, p7_5.2.1 + s20.toNat * 2 + 1, none⟩)), (41, .int .i64 x7_5.f1), (42, .bool (decide (x7_5.f1 < 0)))]) (bx' := []) (by kernel_rfl) ?_
                refine O.nil (by kernel_rfl) ?_
                exact J.conv2 [0, 1, 2, 7, 8] [0, 1, 2] [] [] (by kernel_rfl) (by kernel_rfl) (by kernel_rfl) (by kernel_rfl) (by decide) (ih20 (IntKind.wrap .i64 (s20 + 1)) () H)
            · refine J.region (by kernel_rfl) ?_
              refine O.pure 1 [] [0, 1, 2, 7, 8, 34] [] (fr' := [(0, .int .i64 a0), (1, .slice h0.1 a1.length h0.2), (2, .slice h1.1 a2.length h1.2), (7, .slice p3_3.1 (x3_1 ++ a2).length p3_3.2), (8, .int .i64 s20), (34, .int .i64 a0)]) (bx' := []) (by kernel_rfl) ?_
              refine O.q (v := .bool false) (some 35) (Qu.eqv (u := .bool (a0 == 5)) (v := .bool false) (0, 0) [] (by kernel_rfl) (congrArg Value.bool hc28)) (by kernel_rfl) ?_
              refine O.pure 8 [] [0, 1, 2, 7, 8, 37, 38, 39, 40, 41, 42, 43] [] (fr' := [(0, .int .i64 a0), (1, .slice h0.1 a1.length h0.2), (2, .slice h1.1 a2.length h1.2), (7, .slice p3_3.1 (x3_1 ++ a2).length p3_3.2), (8, .int .i64 s20), (37, undef), (38, undef), (39, undef), (40, undef), (41, undef), (42, undef), (43, .bool false)]) (bx' := []) (by kernel_rfl) ?_
              refine O.nil (by kernel_rfl) ?_
              refine J.cond (o := .tmp 43) false (by kernel_rfl) (by kernel_rfl) ?_
              refine J.skip (by kernel_rfl) ?_
              refine J.out ?_
              refine J.region (by kernel_rfl) ?_
              refine O.pure 3 [] [0, 1, 2, 7, 8, 37, 38, 39, 40, 41, 42] [] (fr' := [(0, .int .i64 a0), (1, .slice h0.1 a1.length h0.2), (2, .slice h1.1 a2.length h1.2), (7, .slice p3_3.1 (x3_1 ++ a2).length p3_3.2), (8, .int .i64 (IntKind.wrap .i64 (s20 + 1))), (37, undef), (38, undef), (39, undef), (40, undef), (41, undef), (42, undef)]) (bx' := []) (by kernel_rfl) ?_
              refine O.nil (by kernel_rfl) ?_
              exact J.conv2 [0, 1, 2, 7, 8] [0, 1, 2] [] [] (by kernel_rfl) (by kernel_rfl) (by kernel_rfl) (by kernel_rfl) (by decide) (ih20 (IntKind.wrap .i64 (s20 + 1)) () H)
          · refine J.condF (x := .tmp 31) (t := (decide (s20 < ((x3_1 ++ a2).length : Int)))) (by kernel_rfl) (by kernel_rfl) hc27 ?_
            refine J.exit (id := 0) (by kernel_rfl) rfl ?_
            obtain rfl := Option.some.inj H
            exact J.conv2 [0, 1, 2, 7] [0, 1, 2] [] [] (by kernel_rfl) (by kernel_rfl) (by kernel_rfl) (by kernel_rfl) (by decide) (hj3.1 _ rfl ())
        · refine J.mono (fun w hS => hS.freezeH (h := p3_3) (xs := (x3_1 ++ a2))) ?_
          exact J.conv2 [0, 1, 2, 7, 8] [1, 2, 0] [] [] (by kernel_rfl) (by kernel_rfl) (by kernel_rfl) (by kernel_rfl) (by decide) h_
def haywainlaw05_BoxParts.Pure : Prop := ∀ (a0 : Int) (a1 : List S40) (a2 : List S40), ((Lit.int .i64 a0).wf = true) → (a1.length * 16 ≤ 140737488351232 ∧ ∀ x_ ∈ a1, wf40 x_) → (a2.length * 16 ≤ 140737488351232 ∧ ∀ x_ ∈ a2, wf40 x_) → ∃ K, haywainlaw05_BoxParts.f K a0 a1 a2 = some true
end Go.Proofs.Ytdbeannfjjbegaa.G
