/- Functions of the program as plain Lean, with their contracts (part 1); printed by a program of this session. -/
import Derived.Test.YtndccmilcffedaaG0
set_option linter.unusedVariables false
set_option linter.unusedSimpArgs false
namespace Go.Proofs.Ytndccmilcffedaa.G
open Go Go.RowKit Go.Hw
/-! ### haywain/haywainref16.Right: function 12 -/
def haywainref16_Right.l7 (K : Nat) (a0 : S29) : Nat → (Bool × Int) → Option Bool
  | 0, _ => none
  | k + 1, s7 => cond s7.1 (cond (decide (s7.2 < (a0.f3.length : Int))) ((idxO a0.f3 s7.2).bind fun x5_3 => cond (decide (x5_3.f0 ≥ 1)) ((idxO a0.f3 s7.2).bind fun x5_11 => haywainref16_Right.l7 K a0 k ((x5_11.f0 == (IntKind.wrap .i64 (a0.f0 - (IntKind.wrap .i64 ((a0.f3.length : Int) - s7.2))))), (IntKind.wrap .i64 (s7.2 + 1)))) (haywainref16_Right.l7 K a0 k (false, (IntKind.wrap .i64 (s7.2 + 1))))) (some (true))) (some (false))
def haywainref16_Right.l17 (K : Nat) : Nat → Unit → Option Bool
  | 0, _ => none
  | k + 1, s17 => some (false)
def haywainref16_Right.l18 (K : Nat) : Nat → Unit → Option Bool
  | 0, _ => none
  | k + 1, s18 => some (false)
def haywainref16_Right.l19 (K : Nat) : Nat → Unit → Option Bool
  | 0, _ => none
  | k + 1, s19 => some (false)
def haywainref16_Right.l20 (K : Nat) : Nat → Unit → Option Bool
  | 0, _ => none
  | k + 1, s20 => some (false)
def haywainref16_Right.l21 (K : Nat) : Nat → Unit → Option Bool
  | 0, _ => none
  | k + 1, s21 => some (false)
def haywainref16_Right.l22 (K : Nat) : Nat → Unit → Option Bool
  | 0, _ => none
  | k + 1, s22 => some (false)
def haywainref16_Right.f (K : Nat) (a0 : S29) : Option Bool := cond (decide (a0.f0 > 0)) (cond (decide (a0.f0 ≤ 1099511627776)) (cond (decide (a0.f1 > 0)) (cond (decide (a0.f1 ≤ 1099511627776)) (cond (decide (a0.f2 ≥ 0)) (cond (decide (a0.f2 ≤ 3)) (haywainref16_Right.l7 K a0 K ((decide ((a0.f3.length : Int) ≤ 200)), 0)) (haywainref16_Right.l17 K K ())) (haywainref16_Right.l18 K K ())) (haywainref16_Right.l19 K K ())) (haywainref16_Right.l20 K K ())) (haywainref16_Right.l21 K K ())) (haywainref16_Right.l22 K K ())
set_option maxRecDepth 100000 in
set_option maxHeartbeats 1000000 in
theorem haywainref16_Right.con (K : Nat) (a0 : S29) (h0 : Hd) (r : Bool) (X : Nat → Nat → Prop) (w : World) (hS : St X w [] [] [] [] [Rd kd74 h0.1 h0.2 a0.f3] w) (H : haywainref16_Right.f K a0 = some r) :
    Cn Try.prog 12 [.agg #[.int .i64 a0.f0, .int .i64 a0.f1, .int .i64 a0.f2, .slice h0.1 a0.f3.length h0.2, .bool a0.f4]] X w [] (fun i : Unit => .bool r) (fun i => []) (fun i => []) (fun i => []) := by
  refine Cn.of Try.func12 (by kernel_rfl) hS ?_
  unfold haywainref16_Right.f at H
  refine J.seq (by kernel_rfl) ?_
  refine J.region (by kernel_rfl) ?_
  refine O.e (some 1) (Ev.box (t := 29) (x := .tmp 0) (v := .agg #[.int .i64 a0.f0, .int .i64 a0.f1, .int .i64 a0.f2, .slice h0.1 a0.f3.length h0.2, .bool a0.f4]) (by kernel_rfl) (by kernel_rfl)) (by kernel_rfl) (fun p0_0 => ?_)
  refine O.pure 1 [] [1] [] (fr' := [(1, .pointer (some ⟨p0_0, 0, none⟩))]) (bx' := [⟨p0_0, [.int .i64 a0.f0, .int .i64 a0.f1, .int .i64 a0.f2, .slice h0.1 a0.f3.length h0.2, .bool a0.f4], 29⟩]) (by kernel_rfl) ?_
  refine O.nil (by kernel_rfl) ?_
  refine J.seq (by kernel_rfl) ?_
  rcases condE H with ⟨hc1, H⟩ | ⟨hc1, H⟩
  · rcases condE H with ⟨hc2, H⟩ | ⟨hc2, H⟩
    · rcases condE H with ⟨hc3, H⟩ | ⟨hc3, H⟩
      · rcases condE H with ⟨hc4, H⟩ | ⟨hc4, H⟩
        · rcases condE H with ⟨hc5, H⟩ | ⟨hc5, H⟩
          · rcases condE H with ⟨hc6, H⟩ | ⟨hc6, H⟩
            · refine J.region (by kernel_rfl) ?_
              refine O.pure 2 [(0, 0)] [1, 6] [p0_0, 0] (fr' := [(1, .pointer (some ⟨p0_0, 0, none⟩)), (6, .int .i64 a0.f0)]) (bx' := [⟨p0_0, [.int .i64 a0.f0, .int .i64 a0.f1, .int .i64 a0.f2, .slice h0.1 a0.f3.length h0.2, .bool a0.f4], 29⟩]) (by kernel_rfl) ?_
              refine O.q (v := .bool true) (some 7) (Qu.eqv (u := .bool (decide (a0.f0 > 0))) (v := .bool true) (0, 0) [] (by kernel_rfl) (congrArg Value.bool hc1)) (by kernel_rfl) ?_
              refine O.pure 3 [(0, 0)] [1, 8, 10] [p0_0, 0] (fr' := [(1, .pointer (some ⟨p0_0, 0, none⟩)), (8, .bool true), (10, .int .i64 a0.f0)]) (bx' := [⟨p0_0, [.int .i64 a0.f0, .int .i64 a0.f1, .int .i64 a0.f2, .slice h0.1 a0.f3.length h0.2, .bool a0.f4], 29⟩]) (by kernel_rfl) ?_
              refine O.q (v := .bool true) (some 11) (Qu.eqv (u := .bool (decide (a0.f0 ≤ 1099511627776))) (v := .bool true) (0, 0) [] (by kernel_rfl) (congrArg Value.bool hc2)) (by kernel_rfl) ?_
              refine O.pure 4 [(0, 1)] [1, 13, 15] [p0_0, 1] (fr' := [(1, .pointer (some ⟨p0_0, 0, none⟩)), (13, .bool true), (15, .int .i64 a0.f1)]) (bx' := [⟨p0_0, [.int .i64 a0.f0, .int .i64 a0.f1, .int .i64 a0.f2, .slice h0.1 a0.f3.length h0.2, .bool a0.f4], 29⟩]) (by kernel_rfl) ?_
              refine O.q (v := .bool true) (some 16) (Qu.eqv (u := .bool (decide (a0.f1 > 0))) (v := .bool true) (0, 0) [] (by kernel_rfl) (congrArg Value.bool hc3)) (by kernel_rfl) ?_
              refine O.pure 4 [(0, 1)] [1, 18, 20] [p0_0, 1] (fr' := [(1, .pointer (some ⟨p0_0, 0, none⟩)), (18, .bool true), (20, .int .i64 a0.f1)]) (bx' := [⟨p0_0, [.int .i64 a0.f0, .int .i64 a0.f1, .int .i64 a0.f2, .slice h0.1 a0.f3.length h0.2, .bool a0.f4], 29⟩]) (by kernel_rfl) ?_
              refine O.q (v := .bool true) (some 21) (Qu.eqv (u := .bool (decide (a0.f1 ≤ 1099511627776))) (v := .bool true) (0, 0) [] (by kernel_rfl) (congrArg Value.bool hc4)) (by kernel_rfl) ?_
              refine O.pure 4 [(0, 2)] [1, 23, 25] [p0_0, 2] (fr' := [(1, .pointer (some ⟨p0_0, 0, none⟩)), (23, .bool true), (25, .int .i64 a0.f2)]) (bx' := [⟨p0_0, [.int .i64 a0.f0, .int .i64 a0.f1, .int .i64 a0.f2, .slice h0.1 a0.f3.length h0.2, .bool a0.f4], 29⟩]) (by kernel_rfl) ?_
              refine O.q (v := .bool true) (some 26) (Qu.eqv (u := .bool (decide (a0.f2 ≥ 0))) (v := .bool true) (0, 0) [] (by kernel_rfl) (congrArg Value.bool hc5)) (by kernel_rfl) ?_
              refine O.pure 4 [(0, 2)] [1, 28, 30] [p0_0, 2] (fr' := [(1, .pointer (some ⟨p0_0, 0, none⟩)), (28, .bool true), (30, .int .i64 a0.f2)]) (bx' := [⟨p0_0, [.int .i64 a0.f0, .int .i64 a0.f1, .int .i64 a0.f2, .slice h0.1 a0.f3.length h0.2, .bool a0.f4], 29⟩]) (by kernel_rfl) ?_
              refine O.q (v := .bool true) (some 31) (Qu.eqv (u := .bool (decide (a0.f2 ≤ 3))) (v := .bool true) (0, 0) [] (by kernel_rfl) (congrArg Value.bool hc6)) (by kernel_rfl) ?_
              refine O.pure 8 [(0, 3)] [1, 3] [p0_0, 3] (fr' := [(1, .pointer (some ⟨p0_0, 0, none⟩)), (3, .bool (decide ((a0.f3.length : Int) ≤ 200)))]) (bx' := [⟨p0_0, [.int .i64 a0.f0, .int .i64 a0.f1, .int .i64 a0.f2, .slice h0.1 a0.f3.length h0.2, .bool a0.f4], 29⟩]) (by kernel_rfl) ?_
              refine O.nil (by kernel_rfl) ?_
              refine J.seq (by kernel_rfl) ?_
              refine J.seq (by kernel_rfl) ?_
              refine J.region (by kernel_rfl) ?_
              refine O.pure 1 [] [1, 3, 4] [] (fr' := [(1, .pointer (some ⟨p0_0, 0, none⟩)), (3, .bool (decide ((a0.f3.length : Int) ≤ 200))), (4, .int .i64 0)]) (bx' := [⟨p0_0, [.int .i64 a0.f0, .int .i64 a0.f1, .int .i64 a0.f2, .slice h0.1 a0.f3.length h0.2, .bool a0.f4], 29⟩]) (by kernel_rfl) ?_
              refine O.nil (by kernel_rfl) ?_
              refine J.block (id := 0) (by kernel_rfl) ?_
              refine J.loopI (σ := Bool × Int) (γ := Unit) (f := fun m_ s_ => haywainref16_Right.l7 K a0 m_ s_) (fun s7 g7 => [(1, .pointer (some ⟨p0_0, 0, none⟩)), (3, .bool s7.1), (4, .int .i64 s7.2)]) (fun s7 g7 => St X w [] [⟨p0_0, [.int .i64 a0.f0, .int .i64 a0.f1, .int .i64 a0.f2, .slice h0.1 a0.f3.length h0.2, .bool a0.f4], 29⟩] [] [] [Rd kd74 h0.1 h0.2 a0.f3]) K ((decide ((a0.f3.length : Int) ≤ 200)), 0) () (by kernel_rfl) H (fun _ => rfl) (fun m_ s7 H ih7 g7 => ?_) (fun h_ => ?_)
              · unfold haywainref16_Right.l7 at H
                refine J.seq (by kernel_rfl) ?_
                refine J.seq (by kernel_rfl) ?_
                rcases condE H with ⟨hc14, H⟩ | ⟨hc14, H⟩
                · refine J.region (by kernel_rfl) ?_
                  refine O.q (v := .bool true) (some 39) (Qu.eqv (u := .bool s7.1) (v := .bool true) (0, 0) [] (by kernel_rfl) (congrArg Value.bool hc14)) (by kernel_rfl) ?_
                  refine O.pure 7 [(0, 3)] [1, 3, 4, 41, 42, 43, 44, 45, 46] [p0_0, 3] (fr' := [(1, .pointer (some ⟨p0_0, 0, none⟩)), (3, .bool s7.1), (4, .int .i64 s7.2), (41, .int .i64 s7.2), (42, .pointer (some ⟨p0_0, 3, none⟩)), (43, .slice h0.1 a0.f3.length h0.2), (44, .int .i64 (a0.f3.length : Int)), (45, .bool (decide (s7.2 < (a0.f3.length : Int)))), (46, .bool (decide (s7.2 < (a0.f3.length : Int))))]) (bx' := [⟨p0_0, [.int .i64 a0.f0, .int .i64 a0.f1, .int .i64 a0.f2, .slice h0.1 a0.f3.length h0.2, .bool a0.f4], 29⟩]) (by kernel_rfl) ?_
                  refine O.nil (by kernel_rfl) ?_
                  rcases condE H with ⟨hc15, H⟩ | ⟨hc15, H⟩
                  · refine J.condT (x := .tmp 46) (t := (decide (s7.2 < (a0.f3.length : Int)))) (by kernel_rfl) (by kernel_rfl) hc15 ?_
                    refine J.skip (by kernel_rfl) ?_
                    refine J.seq (by kernel_rfl) ?_
                    refine J.block (id := 1) (by kernel_rfl) ?_
                    obtain ⟨x5_3, hx5_3, H⟩ := bindE H
                    obtain ⟨hx5_3a, hx5_3⟩ := idxE hx5_3
                    rcases condE H with ⟨hc16, H⟩ | ⟨hc16, H⟩
                    · obtain ⟨x5_11, hx5_11, H⟩ := bindE H
                      obtain ⟨hx5_11a, hx5_11⟩ := idxE hx5_11
                      refine J.open (d := kd74) (h := h0) (i := s7.2) 0 rfl hx5_3 (op74 _) (fun p5_3 hp5_3A => ?_)
                      refine J.open (d := kd74) (h := h0) (i := s7.2) 0 rfl hx5_11 (op74 _) (fun p5_11 hp5_11A => ?_)
                      refine J.drawS (by kernel_rfl) [(0, some 49, .pointer (some ⟨p0_0, 3, none⟩)), (1, some 50, .slice h0.1 a0.f3.length h0.2), (2, some 51, .int .i64 s7.2), (4, some 53, .pointer (some ⟨p5_3.1, p5_3.2.1 + s7.2.toNat * 2, none⟩)), (5, some 54, .int .i64 x5_3.f0), (7, some 56, .bool true), (8, some 57, .pointer (some ⟨p0_0, 3, none⟩)), (9, some 58, .slice h0.1 a0.f3.length h0.2), (10, some 59, .int .i64 s7.2), (12, some 61, .pointer (some ⟨p5_11.1, p5_11.2.1 + s7.2.toNat * 2, none⟩)), (13, some 62, .int .i64 x5_11.f0), (14, some 63, .pointer (some ⟨p0_0, 0, none⟩)), (15, some 64, .int .i64 a0.f0), (16, some 65, .pointer (some ⟨p0_0, 3, none⟩)), (17, some 66, .slice h0.1 a0.f3.length h0.2), (18, some 67, .int .i64 (a0.f3.length : Int)), (19, some 68, .int .i64 s7.2), (20, some 69, .int .i64 (IntKind.wrap .i64 ((a0.f3.length : Int) - s7.2))), (21, some 70, .int .i64 (IntKind.wrap .i64 (a0.f0 - (IntKind.wrap .i64 ((a0.f3.length : Int) - s7.2))))), (22, some 71, .bool (x5_11.f0 == (IntKind.wrap .i64 (a0.f0 - (IntKind.wrap .i64 ((a0.f3.length : Int) - s7.2)))))), (23, some 72, .bool (x5_11.f0 == (IntKind.wrap .i64 (a0.f0 - (IntKind.wrap .i64 ((a0.f3.length : Int) - s7.2)))))), (24, some 3, .bool (x5_11.f0 == (IntKind.wrap .i64 (a0.f0 - (IntKind.wrap .i64 ((a0.f3.length : Int) - s7.2)))))), (3, some 52, .pointer (some ⟨p5_3.1, p5_3.2.1 + s7.2.toNat * 2, none⟩)), (6, some 55, .bool true), (11, some 60, .pointer (some ⟨p5_11.1, p5_11.2.1 + s7.2.toNat * 2, none⟩))] ([0, 1, 2, 4, 5, 7, 8, 9, 10, 12, 13, 14, 15, 16, 17, 18, 19, 20, 21, 22, 23, 24] ++ [3, 6, 11]) (by kernel_rfl) ?_
                      refine D.fin (fr' := [(1, .pointer (some ⟨p0_0, 0, none⟩)), (3, .bool (x5_11.f0 == (IntKind.wrap .i64 (a0.f0 - (IntKind.wrap .i64 ((a0.f3.length : Int) - s7.2)))))), (4, .int .i64 s7.2), (41, .int .i64 s7.2), (42, .pointer (some ⟨p0_0, 3, none⟩)), (43, .slice h0.1 a0.f3.length h0.2), (44, .int .i64 (a0.f3.length : Int)), (45, .bool (decide (s7.2 < (a0.f3.length : Int)))), (57, .pointer (some ⟨p0_0, 3, none⟩)), (58, .slice h0.1 a0.f3.length h0.2), (59, .int .i64 s7.2), (60, .pointer (some ⟨p5_11.1, p5_11.2.1 + s7.2.toNat * 2, none⟩)), (61, .pointer (some ⟨p5_11.1, p5_11.2.1 + s7.2.toNat * 2, none⟩)), (62, .int .i64 x5_11.f0), (63, .pointer (some ⟨p0_0, 0, none⟩)), (64, .int .i64 a0.f0), (65, .pointer (some ⟨p0_0, 3, none⟩)), (66, .slice h0.1 a0.f3.length h0.2), (67, .int .i64 (a0.f3.length : Int)), (68, .int .i64 s7.2), (69, .int .i64 (IntKind.wrap .i64 ((a0.f3.length : Int) - s7.2))), (70, .int .i64 (IntKind.wrap .i64 (a0.f0 - (IntKind.wrap .i64 ((a0.f3.length : Int) - s7.2))))), (71, .bool (x5_11.f0 == (IntKind.wrap .i64 (a0.f0 - (IntKind.wrap .i64 ((a0.f3.length : Int) - s7.2))))))]) [0, 1, 2, 4, 5, 7, 8, 9, 10, 12, 13, 14, 15, 16, 17, 18, 19, 20, 21, 22, 23, 24] [3, 6, 11] [(0, 3), (2, 0), (0, 3), (1, 0), (0, 0), (0, 3)] [p0_0, 3, p5_3.1, p5_3.2.1 + s7.2.toNat * 2, p0_0, 3, p5_11.1, p5_11.2.1 + s7.2.toNat * 2, p0_0, 0, p0_0, 3] [1, 3, 4, 41, 42, 43, 44, 45, 57, 58, 59, 60, 61, 62, 63, 64, 65, 66, 67, 68, 69, 70, 71] (by kernel_rfl) (by kernel_rfl) (⟨QuAt.mk (v := .pointer (some ⟨p5_3.1, p5_3.2.1 + s7.2.toNat * 2, none⟩)) (some 52) (by kernel_rfl) (by kernel_rfl) (Qu.idx (t := 27) (x := .tmp 50) (y := .tmp 51) (c := h0.2) (kk := .i64) (sz := 2) (by kernel_rfl) (by kernel_rfl) (by kernel_rfl) (by kernel_rfl) hx5_3a (idx_lt hx5_3) hp5_3A), QuAt.mk (v := .bool true) (some 55) (by kernel_rfl) (by kernel_rfl) (Qu.eqv (u := .bool (decide (x5_3.f0 ≥ 1))) (v := .bool true) (0, 0) [] (by kernel_rfl) (congrArg Value.bool hc16)), QuAt.mk (v := .pointer (some ⟨p5_11.1, p5_11.2.1 + s7.2.toNat * 2, none⟩)) (some 60) (by kernel_rfl) (by kernel_rfl) (Qu.idx (t := 27) (x := .tmp 58) (y := .tmp 59) (c := h0.2) (kk := .i64) (sz := 2) (by kernel_rfl) (by kernel_rfl) (by kernel_rfl) (by kernel_rfl) hx5_11a (idx_lt hx5_11) hp5_11A), trivial⟩) (by kernel_rfl) ?_
                      refine J.out ?_
                      refine J.region (by kernel_rfl) ?_
                      refine O.pure 3 [] [1, 3, 4, 41, 42, 43, 44, 45, 57, 58, 59, 60, 61, 62, 63, 64, 65, 66, 67, 68, 69, 70, 71] [] (fr' := [(1, .pointer (some ⟨p0_0, 0, none⟩)), (3, .bool (x5_11.f0 == (IntKind.wrap .i64 (a0.f0 - (IntKind.wrap .i64 ((a0.f3.length : Int) - s7.2)))))), (4, .int .i64 (IntKind.wrap .i64 (s7.2 + 1))), (41, .int .i64 s7.2), (42, .pointer (some ⟨p0_0, 3, none⟩)), (43, .slice h0.1 a0.f3.length h0.2), (44, .int .i64 (a0.f3.length : Int)), (45, .bool (decide (s7.2 < (a0.f3.length : Int)))), (57, .pointer (some ⟨p0_0, 3, none⟩)), (58, .slice h0.1 a0.f3.length h0.2), (59, .int .i64 s7.2), (60, .pointer (some ⟨p5_11.1, p5_11.2.1 + s7.2.toNat * 2, none⟩)), (61, .pointer (some ⟨p5_11.1, p5_11.2.1 + s7.2.toNat * 2, none⟩)), (62, .int .i64 x5_11.f0), (63, .pointer (some ⟨p0_0, 0, none⟩)), (64, .int .i64 a0.f0), (65, .pointer (some ⟨p0_0, 3, none⟩)), (66, .slice h0.1 a0.f3.length h0.2), (67, .int .i64 (a0.f3.length : Int)), (68, .int .i64 s7.2), (69, .int .i64 (IntKind.wrap .i64 ((a0.f3.length : Int) - s7.2))), (70, .int .i64 (IntKind.wrap .i64 (a0.f0 - (IntKind.wrap .i64 ((a0.f3.length : Int) - s7.2))))), (71, .bool (x5_11.f0 == (IntKind.wrap .i64 (a0.f0 - (IntKind.wrap .i64 ((a0.f3.length : Int) - s7.2))))))]) (bx' := [⟨p0_0, [.int .i64 a0.f0, .int .i64 a0.f1, .int .i64 a0.f2, .slice h0.1 a0.f3.length h0.2, .bool a0.f4], 29⟩]) (by kernel_rfl) ?_
                      refine O.nil (by kernel_rfl) ?_
                      exact J.conv2 [1, 3, 4] [0] [0] [] (by kernel_rfl) (by kernel_rfl) (by kernel_rfl) (by kernel_rfl) (by decide) (ih7 ((x5_11.f0 == (IntKind.wrap .i64 (a0.f0 - (IntKind.wrap .i64 ((a0.f3.length : Int) - s7.2))))), (IntKind.wrap .i64 (s7.2 + 1))) () H)
                    · refine J.open (d := kd74) (h := h0) (i := s7.2) 0 rfl hx5_3 (op74 _) (fun p5_3 hp5_3A => ?_)
                      refine J.drawS (by kernel_rfl) [(0, some 49, .pointer (some ⟨p0_0, 3, none⟩)), (1, some 50, .slice h0.1 a0.f3.length h0.2), (2, some 51, .int .i64 s7.2), (4, some 53, .pointer (some ⟨p5_3.1, p5_3.2.1 + s7.2.toNat * 2, none⟩)), (5, some 54, .int .i64 x5_3.f0), (7, some 56, .bool false), (8, some 57, undef), (9, some 58, undef), (10, some 59, undef), (11, some 60, undef), (12, some 61, undef), (13, some 62, undef), (14, some 63, undef), (15, some 64, undef), (16, some 65, undef), (17, some 66, undef), (18, some 67, undef), (19, some 68, undef), (20, some 69, undef), (21, some 70, undef), (22, some 71, undef), (23, some 72, .bool false), (24, some 3, .bool false), (3, some 52, .pointer (some ⟨p5_3.1, p5_3.2.1 + s7.2.toNat * 2, none⟩)), (6, some 55, .bool false)] ([0, 1, 2, 4, 5, 7, 8, 9, 10, 11, 12, 13, 14, 15, 16, 17, 18, 19, 20, 21, 22, 23, 24] ++ [3, 6]) (by kernel_rfl) ?_
                      refine D.fin (fr' := [(1, .pointer (some ⟨p0_0, 0, none⟩)), (3, .bool false), (4, .int .i64 s7.2), (41, .int .i64 s7.2), (42, .pointer (some ⟨p0_0, 3, none⟩)), (43, .slice h0.1 a0.f3.length h0.2), (44, .int .i64 (a0.f3.length : Int)), (45, .bool (decide (s7.2 < (a0.f3.length : Int)))), (57, undef), (58, undef), (59, undef), (60, undef), (61, undef), (62, undef), (63, undef), (64, undef), (65, undef), (66, undef), (67, undef), (68, undef), (69, undef), (70, undef), (71, undef)]) [0, 1, 2, 4, 5, 7, 8, 9, 10, 11, 12, 13, 14, 15, 16, 17, 18, 19, 20, 21, 22, 23, 24] [3, 6] [(0, 3), (1, 0)] [p0_0, 3, p5_3.1, p5_3.2.1 + s7.2.toNat * 2] [1, 3, 4, 41, 42, 43, 44, 45, 57, 58, 59, 60, 61, 62, 63, 64, 65, 66, 67, 68, 69, 70, 71] (by kernel_rfl) (by kernel_rfl) (⟨QuAt.mk (v := .pointer (some ⟨p5_3.1, p5_3.2.1 + s7.2.toNat * 2, none⟩)) (some 52) (by kernel_rfl) (by kernel_rfl) (Qu.idx (t := 27) (x := .tmp 50) (y := .tmp 51) (c := h0.2) (kk := .i64) (sz := 2) (by kernel_rfl) (by kernel_rfl) (by kernel_rfl) (by kernel_rfl) hx5_3a (idx_lt hx5_3) hp5_3A), QuAt.mk (v := .bool false) (some 55) (by kernel_rfl) (by kernel_rfl) (Qu.eqv (u := .bool (decide (x5_3.f0 ≥ 1))) (v := .bool false) (0, 0) [] (by kernel_rfl) (congrArg Value.bool hc16)), trivial⟩) (by kernel_rfl) ?_
                      refine J.out ?_
                      refine J.region (by kernel_rfl) ?_
                      refine O.pure 3 [] [1, 3, 4, 41, 42, 43, 44, 45, 57, 58, 59, 60, 61, 62, 63, 64, 65, 66, 67, 68, 69, 70, 71] [] (fr' := [(1, .pointer (some ⟨p0_0, 0, none⟩)), (3, .bool false), (4, .int .i64 (IntKind.wrap .i64 (s7.2 + 1))), (41, .int .i64 s7.2), (42, .pointer (some ⟨p0_0, 3, none⟩)), (43, .slice h0.1 a0.f3.length h0.2), (44, .int .i64 (a0.f3.length : Int)), (45, .bool (decide (s7.2 < (a0.f3.length : Int)))), (57, undef), (58, undef), (59, undef), (60, undef), (61, undef), (62, undef), (63, undef), (64, undef), (65, undef), (66, undef), (67, undef), (68, undef), (69, undef), (70, undef), (71, undef)]) (bx' := [⟨p0_0, [.int .i64 a0.f0, .int .i64 a0.f1, .int .i64 a0.f2, .slice h0.1 a0.f3.length h0.2, .bool a0.f4], 29⟩]) (by kernel_rfl) ?_
                      refine O.nil (by kernel_rfl) ?_
                      exact J.conv2 [1, 3, 4] [0] [0] [] (by kernel_rfl) (by kernel_rfl) (by kernel_rfl) (by kernel_rfl) (by decide) (ih7 (false, (IntKind.wrap .i64 (s7.2 + 1))) () H)
                  · refine J.condF (x := .tmp 46) (t := (decide (s7.2 < (a0.f3.length : Int)))) (by kernel_rfl) (by kernel_rfl) hc15 ?_
                    refine J.exit (id := 0) (by kernel_rfl) rfl ?_
                    refine J.seq (by kernel_rfl) ?_
                    refine J.region (by kernel_rfl) ?_
                    refine O.q (v := .bool true) (some 73) (Qu.eqv (u := .bool s7.1) (v := .bool true) (0, 0) [] (by kernel_rfl) (congrArg Value.bool hc14)) (by kernel_rfl) ?_
                    refine O.pure 1 [] [2] [] (fr' := [(2, .bool true)]) (bx' := [⟨p0_0, [.int .i64 a0.f0, .int .i64 a0.f1, .int .i64 a0.f2, .slice h0.1 a0.f3.length h0.2, .bool a0.f4], 29⟩]) (by kernel_rfl) ?_
                    refine O.nil (by kernel_rfl) ?_
                    obtain rfl := Option.some.inj H
                    exact J.doneS [] [] [] [] [] () (vs := [.bool true]) (by kernel_rfl) (by kernel_rfl) (by kernel_rfl) (by kernel_rfl) (by kernel_rfl) (by decide)
                · refine J.region (by kernel_rfl) ?_
                  refine O.q (v := .bool false) (some 39) (Qu.eqv (u := .bool s7.1) (v := .bool false) (0, 0) [] (by kernel_rfl) (congrArg Value.bool hc14)) (by kernel_rfl) ?_
                  refine O.pure 7 [] [1, 3, 4, 41, 42, 43, 44, 45, 46] [] (fr' := [(1, .pointer (some ⟨p0_0, 0, none⟩)), (3, .bool s7.1), (4, .int .i64 s7.2), (41, undef), (42, undef), (43, undef), (44, undef), (45, undef), (46, .bool false)]) (bx' := [⟨p0_0, [.int .i64 a0.f0, .int .i64 a0.f1, .int .i64 a0.f2, .slice h0.1 a0.f3.length h0.2, .bool a0.f4], 29⟩]) (by kernel_rfl) ?_
                  refine O.nil (by kernel_rfl) ?_
                  refine J.cond (o := .tmp 46) false (by kernel_rfl) (by kernel_rfl) ?_
                  refine J.exit (id := 0) (by kernel_rfl) rfl ?_
                  refine J.seq (by kernel_rfl) ?_
                  refine J.region (by kernel_rfl) ?_
                  refine O.q (v := .bool false) (some 73) (Qu.eqv (u := .bool s7.1) (v := .bool false) (0, 0) [] (by kernel_rfl) (congrArg Value.bool hc14)) (by kernel_rfl) ?_
                  refine O.pure 1 [] [2] [] (fr' := [(2, .bool false)]) (bx' := [⟨p0_0, [.int .i64 a0.f0, .int .i64 a0.f1, .int .i64 a0.f2, .slice h0.1 a0.f3.length h0.2, .bool a0.f4], 29⟩]) (by kernel_rfl) ?_
                  refine O.nil (by kernel_rfl) ?_
                  obtain rfl := Option.some.inj H
                  exact J.doneS [] [] [] [] [] () (vs := [.bool false]) (by kernel_rfl) (by kernel_rfl) (by kernel_rfl) (by kernel_rfl) (by kernel_rfl) (by decide)
              · exact J.conv2 [1, 3, 4] [0] [0] [] (by kernel_rfl) (by kernel_rfl) (by kernel_rfl) (by kernel_rfl) (by decide) h_
            · refine J.region (by kernel_rfl) ?_
              refine O.pure 2 [(0, 0)] [1, 6] [p0_0, 0] (fr' := [(1, .pointer (some ⟨p0_0, 0, none⟩)), (6, .int .i64 a0.f0)]) (bx' := [⟨p0_0, [.int .i64 a0.f0, .int .i64 a0.f1, .int .i64 a0.f2, .slice h0.1 a0.f3.length h0.2, .bool a0.f4], 29⟩]) (by kernel_rfl) ?_
              refine O.q (v := .bool true) (some 7) (Qu.eqv (u := .bool (decide (a0.f0 > 0))) (v := .bool true) (0, 0) [] (by kernel_rfl) (congrArg Value.bool hc1)) (by kernel_rfl) ?_
              refine O.pure 3 [(0, 0)] [1, 8, 10] [p0_0, 0] (fr' := [(1, .pointer (some ⟨p0_0, 0, none⟩)), (8, .bool true), (10, .int .i64 a0.f0)]) (bx' := [⟨p0_0, [.int .i64 a0.f0, .int .i64 a0.f1, .int .i64 a0.f2, .slice h0.1 a0.f3.length h0.2, .bool a0.f4], 29⟩]) (by kernel_rfl) ?_
              refine O.q (v := .bool true) (some 11) (Qu.eqv (u := .bool (decide (a0.f0 ≤ 1099511627776))) (v := .bool true) (0, 0) [] (by kernel_rfl) (congrArg Value.bool hc2)) (by kernel_rfl) ?_
              refine O.pure 4 [(0, 1)] [1, 13, 15] [p0_0, 1] (fr' := [(1, .pointer (some ⟨p0_0, 0, none⟩)), (13, .bool true), (15, .int .i64 a0.f1)]) (bx' := [⟨p0_0, [.int .i64 a0.f0, .int .i64 a0.f1, .int .i64 a0.f2, .slice h0.1 a0.f3.length h0.2, .bool a0.f4], 29⟩]) (by kernel_rfl) ?_
              refine O.q (v := .bool true) (some 16) (Qu.eqv (u := .bool (decide (a0.f1 > 0))) (v := .bool true) (0, 0) [] (by kernel_rfl) (congrArg Value.bool hc3)) (by kernel_rfl) ?_
              refine O.pure 4 [(0, 1)] [1, 18, 20] [p0_0, 1] (fr' := [(1, .pointer (some ⟨p0_0, 0, none⟩)), (18, .bool true), (20, .int .i64 a0.f1)]) (bx' := [⟨p0_0, [.int .i64 a0.f0, .int .i64 a0.f1, .int .i64 a0.f2, .slice h0.1 a0.f3.length h0.2, .bool a0.f4], 29⟩]) (by kernel_rfl) ?_
              refine O.q (v := .bool true) (some 21) (Qu.eqv (u := .bool (decide (a0.f1 ≤ 1099511627776))) (v := .bool true) (0, 0) [] (by kernel_rfl) (congrArg Value.bool hc4)) (by kernel_rfl) ?_
              refine O.pure 4 [(0, 2)] [1, 23, 25] [p0_0, 2] (fr' := [(1, .pointer (some ⟨p0_0, 0, none⟩)), (23, .bool true), (25, .int .i64 a0.f2)]) (bx' := [⟨p0_0, [.int .i64 a0.f0, .int .i64 a0.f1, .int .i64 a0.f2, .slice h0.1 a0.f3.length h0.2, .bool a0.f4], 29⟩]) (by kernel_rfl) ?_
              refine O.q (v := .bool true) (some 26) (Qu.eqv (u := .bool (decide (a0.f2 ≥ 0))) (v := .bool true) (0, 0) [] (by kernel_rfl) (congrArg Value.bool hc5)) (by kernel_rfl) ?_
              refine O.pure 4 [(0, 2)] [1, 28, 30] [p0_0, 2] (fr' := [(1, .pointer (some ⟨p0_0, 0, none⟩)), (28, .bool true), (30, .int .i64 a0.f2)]) (bx' := [⟨p0_0, [.int .i64 a0.f0, .int .i64 a0.f1, .int .i64 a0.f2, .slice h0.1 a0.f3.length h0.2, .bool a0.f4], 29⟩]) (by kernel_rfl) ?_
              refine O.q (v := .bool false) (some 31) (Qu.eqv (u := .bool (decide (a0.f2 ≤ 3))) (v := .bool false) (0, 0) [] (by kernel_rfl) (congrArg Value.bool hc6)) (by kernel_rfl) ?_
              refine O.pure 8 [] [1, 3] [] (fr' := [(1, .pointer (some ⟨p0_0, 0, none⟩)), (3, .bool false)]) (bx' := [⟨p0_0, [.int .i64 a0.f0, .int .i64 a0.f1, .int .i64 a0.f2, .slice h0.1 a0.f3.length h0.2, .bool a0.f4], 29⟩]) (by kernel_rfl) ?_
              refine O.nil (by kernel_rfl) ?_
              refine J.seq (by kernel_rfl) ?_
              refine J.seq (by kernel_rfl) ?_
              refine J.region (by kernel_rfl) ?_
              refine O.pure 1 [] [1, 3, 4] [] (fr' := [(1, .pointer (some ⟨p0_0, 0, none⟩)), (3, .bool false), (4, .int .i64 0)]) (bx' := [⟨p0_0, [.int .i64 a0.f0, .int .i64 a0.f1, .int .i64 a0.f2, .slice h0.1 a0.f3.length h0.2, .bool a0.f4], 29⟩]) (by kernel_rfl) ?_
              refine O.nil (by kernel_rfl) ?_
              refine J.block (id := 0) (by kernel_rfl) ?_
              refine J.loopI (σ := Unit) (γ := Unit) (f := fun m_ s_ => haywainref16_Right.l17 K m_ s_) (fun s17 g17 => [(1, .pointer (some ⟨p0_0, 0, none⟩)), (3, .bool false), (4, .int .i64 0)]) (fun s17 g17 => St X w [] [⟨p0_0, [.int .i64 a0.f0, .int .i64 a0.f1, .int .i64 a0.f2, .slice h0.1 a0.f3.length h0.2, .bool a0.f4], 29⟩] [] [] [Rd kd74 h0.1 h0.2 a0.f3]) K () () (by kernel_rfl) H (fun _ => rfl) (fun m_ s17 H ih17 g17 => ?_) (fun h_ => ?_)
              · unfold haywainref16_Right.l17 at H
                refine J.seq (by kernel_rfl) ?_
                refine J.seq (by kernel_rfl) ?_
                refine J.region (by kernel_rfl) ?_
                refine O.pure 8 [] [1, 3, 4, 41, 42, 43, 44, 45, 46] [] (fr' := [(1, .pointer (some ⟨p0_0, 0, none⟩)), (3, .bool false), (4, .int .i64 0), (41, undef), (42, undef), (43, undef), (44, undef), (45, undef), (46, .bool false)]) (bx' := [⟨p0_0, [.int .i64 a0.f0, .int .i64 a0.f1, .int .i64 a0.f2, .slice h0.1 a0.f3.length h0.2, .bool a0.f4], 29⟩]) (by kernel_rfl) ?_
                refine O.nil (by kernel_rfl) ?_
                refine J.cond (o := .tmp 46) false (by kernel_rfl) (by kernel_rfl) ?_
                refine J.exit (id := 0) (by kernel_rfl) rfl ?_
                refine J.seq (by kernel_rfl) ?_
                refine J.region (by kernel_rfl) ?_
                refine O.pure 2 [] [2] [] (fr' := [(2, .bool false)]) (bx' := [⟨p0_0, [.int .i64 a0.f0, .int .i64 a0.f1, .int .i64 a0.f2, .slice h0.1 a0.f3.length h0.2, .bool a0.f4], 29⟩]) (by kernel_rfl) ?_
                refine O.nil (by kernel_rfl) ?_
                obtain rfl := Option.some.inj H
                exact J.doneS [] [] [] [] [] () (vs := [.bool false]) (by kernel_rfl) (by kernel_rfl) (by kernel_rfl) (by kernel_rfl) (by kernel_rfl) (by decide)
              · exact J.conv2 [1, 3, 4] [0] [0] [] (by kernel_rfl) (by kernel_rfl) (by kernel_rfl) (by kernel_rfl) (by decide) h_
          · refine J.region (by kernel_rfl) ?_
            refine O.pure 2 [(0, 0)] [1, 6] [p0_0, 0] (fr' := [(1, .pointer (some ⟨p0_0, 0, none⟩)), (6, .int .i64 a0.f0)]) (bx' := [⟨p0_0, [.int .i64 a0.f0, .int .i64 a0.f1, .int .i64 a0.f2, .slice h0.1 a0.f3.length h0.2, .bool a0.f4], 29⟩]) (by kernel_rfl) ?_
            refine O.q (v := .bool true) (some 7) (Qu.eqv (u := .bool (decide (a0.f0 > 0))) (v := .bool true) (0, 0) [] (by kernel_rfl) (congrArg Value.bool hc1)) (by kernel_rfl) ?_
            refine O.pure 3 [(0, 0)] [1, 8, 10] [p0_0, 0] (fr' := [(1, .pointer (some ⟨p0_0, 0, none⟩)), (8, .bool true), (10, .int .i64 a0.f0)]) (bx' := [⟨p0_0, [.int .i64 a0.f0, .int .i64 a0.f1, .int .i64 a0.f2, .slice h0.1 a0.f3.length h0.2, .bool a0.f4], 29⟩]) (by kernel_rfl) ?_
            refine O.q (v := .bool true) (some 11) (Qu.eqv (u := .bool (decide (a0.f0 ≤ 1099511627776))) (v := .bool true) (0, 0) [] (by kernel_rfl) (congrArg Value.bool hc2)) (by kernel_rfl) ?_
            refine O.pure 4 [(0, 1)] [1, 13, 15] [p0_0, 1] (fr' := [(1, .pointer (some ⟨p0_0, 0, none⟩)), (13, .bool true), (15, .int .i64 a0.f1)]) (bx' := [⟨p0_0, [.int .i64 a0.f0, .int .i64 a0.f1, .int .i64 a0.f2, .slice h0.1 a0.f3.length h0.2, .bool a0.f4], 29⟩]) (by kernel_rfl) ?_
            refine O.q (v := .bool true) (some 16) (Qu.eqv (u := .bool (decide (a0.f1 > 0))) (v := .bool true) (0, 0) [] (by kernel_rfl) (congrArg Value.bool hc3)) (by kernel_rfl) ?_
            refine O.pure 4 [(0, 1)] [1, 18, 20] [p0_0, 1] (fr' := [(1, .pointer (some ⟨p0_0, 0, none⟩)), (18, .bool true), (20, .int .i64 a0.f1)]) (bx' := [⟨p0_0, [.int .i64 a0.f0, .int .i64 a0.f1, .int .i64 a0.f2, .slice h0.1 a0.f3.length h0.2, .bool a0.f4], 29⟩]) (by kernel_rfl) ?_
            refine O.q (v := .bool true) (some 21) (Qu.eqv (u := .bool (decide (a0.f1 ≤ 1099511627776))) (v := .bool true) (0, 0) [] (by kernel_rfl) (congrArg Value.bool hc4)) (by kernel_rfl) ?_
            refine O.pure 4 [(0, 2)] [1, 23, 25] [p0_0, 2] (fr' := [(1, .pointer (some ⟨p0_0, 0, none⟩)), (23, .bool true), (25, .int .i64 a0.f2)]) (bx' := [⟨p0_0, [.int .i64 a0.f0, .int .i64 a0.f1, .int .i64 a0.f2, .slice h0.1 a0.f3.length h0.2, .bool a0.f4], 29⟩]) (by kernel_rfl) ?_
            refine O.q (v := .bool false) (some 26) (Qu.eqv (u := .bool (decide (a0.f2 ≥ 0))) (v := .bool false) (0, 0) [] (by kernel_rfl) (congrArg Value.bool hc5)) (by kernel_rfl) ?_
            refine O.pure 13 [] [1, 3] [] (fr' := [(1, .pointer (some ⟨p0_0, 0, none⟩)), (3, .bool false)]) (bx' := [⟨p0_0, [.int .i64 a0.f0, .int .i64 a0.f1, .int .i64 a0.f2, .slice h0.1 a0.f3.length h0.2, .bool a0.f4], 29⟩]) (by kernel_rfl) ?_
            refine O.nil (by kernel_rfl) ?_
            refine J.seq (by kernel_rfl) ?_
            refine J.seq (by kernel_rfl) ?_
            refine J.region (by kernel_rfl) ?_
            refine O.pure 1 [] [1, 3, 4] [] (fr' := [(1, .pointer (some ⟨p0_0, 0, none⟩)), (3, .bool false), (4, .int .i64 0)]) (bx' := [⟨p0_0, [.int .i64 a0.f0, .int .i64 a0.f1, .int .i64 a0.f2, .slice h0.1 a0.f3.length h0.2, .bool a0.f4], 29⟩]) (by kernel_rfl) ?_
            refine O.nil (by kernel_rfl) ?_
            refine J.block (id := 0) (by kernel_rfl) ?_
            refine J.loopI (σ := Unit) (γ := Unit) (f := fun m_ s_ => haywainref16_Right.l18 K m_ s_) (fun s18 g18 => [(1, .pointer (some ⟨p0_0, 0, none⟩)), (3, .bool false), (4, .int .i64 0)]) (fun s18 g18 => St X w [] [⟨p0_0, [.int .i64 a0.f0, .int .i64 a0.f1, .int .i64 a0.f2, .slice h0.1 a0.f3.length h0.2, .bool a0.f4], 29⟩] [] [] [Rd kd74 h0.1 h0.2 a0.f3]) K () () (by kernel_rfl) H (fun _ => rfl) (fun m_ s18 H ih18 g18 => ?_) (fun h_ => ?_)
            · unfold haywainref16_Right.l18 at H
              refine J.seq (by kernel_rfl) ?_
              refine J.seq (by kernel_rfl) ?_
              refine J.region (by kernel_rfl) ?_
              refine O.pure 8 [] [1, 3, 4, 41, 42, 43, 44, 45, 46] [] (fr' := [(1, .pointer (some ⟨p0_0, 0, none⟩)), (3, .bool false), (4, .int .i64 0), (41, undef), (42, undef), (43, undef), (44, undef), (45, undef), (46, .bool false)]) (bx' := [⟨p0_0, [.int .i64 a0.f0, .int .i64 a0.f1, .int .i64 a0.f2, .slice h0.1 a0.f3.length h0.2, .bool a0.f4], 29⟩]) (by kernel_rfl) ?_
              refine O.nil (by kernel_rfl) ?_
              refine J.cond (o := .tmp 46) false (by kernel_rfl) (by kernel_rfl) ?_
              refine J.exit (id := 0) (by kernel_rfl) rfl ?_
              refine J.seq (by kernel_rfl) ?_
              refine J.region (by kernel_rfl) ?_
              refine O.pure 2 [] [2] [] (fr' := [(2, .bool false)]) (bx' := [⟨p0_0, [.int .i64 a0.f0, .int .i64 a0.f1, .int .i64 a0.f2, .slice h0.1 a0.f3.length h0.2, .bool a0.f4], 29⟩]) (by kernel_rfl) ?_
              refine O.nil (by kernel_rfl) ?_
              obtain rfl := Option.some.inj H
              exact J.doneS [] [] [] [] [] () (vs := [.bool false]) (by kernel_rfl) (by kernel_rfl) (by kernel_rfl) (by kernel_rfl) (by kernel_rfl) (by decide)
            · exact J.conv2 [1, 3, 4] [0] [0] [] (by kernel_rfl) (by kernel_rfl) (by kernel_rfl) (by kernel_rfl) (by decide) h_
        · refine J.region (by kernel_rfl) ?_
          refine O.pure 2 [(0, 0)] [1, 6] [p0_0, 0] (fr' := [(1, .pointer (some ⟨p0_0, 0, none⟩)), (6, .int .i64 a0.f0)]) (bx' := [⟨p0_0, [.int .i64 a0.f0, .int .i64 a0.f1, .int .i64 a0.f2, .slice h0.1 a0.f3.length h0.2, .bool a0.f4], 29⟩]) (by kernel_rfl) ?_
          refine O.q (v := .bool true) (some 7) (Qu.eqv (u := .bool (decide (a0.f0 > 0))) (v := .bool true) (0, 0) [] (by kernel_rfl) (congrArg Value.bool hc1)) (by kernel_rfl) ?_
          refine O.pure 3 [(0, 0)] [1, 8, 10] [p0_0, 0] (fr' := [(1, .pointer (some ⟨p0_0, 0, none⟩)), (8, .bool true), (10, .int .i64 a0.f0)]) (bx' := [⟨p0_0, [.int .i64 a0.f0, .int .i64 a0.f1, .int .i64 a0.f2, .slice h0.1 a0.f3.length h0.2, .bool a0.f4], 29⟩]) (by kernel_rfl) ?_
          refine O.q (v := .bool true) (some 11) (Qu.eqv (u := .bool (decide (a0.f0 ≤ 1099511627776))) (v := .bool true) (0, 0) [] (by kernel_rfl) (congrArg Value.bool hc2)) (by kernel_rfl) ?_
          refine O.pure 4 [(0, 1)] [1, 13, 15] [p0_0, 1] (fr' := [(1, .pointer (some ⟨p0_0, 0, none⟩)), (13, .bool true), (15, .int .i64 a0.f1)]) (bx' := [⟨p0_0, [.int .i64 a0.f0, .int .i64 a0.f1, .int .i64 a0.f2, .slice h0.1 a0.f3.length h0.2, .bool a0.f4], 29⟩]) (by kernel_rfl) ?_
          refine O.q (v := .bool true) (some 16) (Qu.eqv (u := .bool (decide (a0.f1 > 0))) (v := .bool true) (0, 0) [] (by kernel_rfl) (congrArg Value.bool hc3)) (by kernel_rfl) ?_
          refine O.pure 4 [(0, 1)] [1, 18, 20] [p0_0, 1] (fr' := [(1, .pointer (some ⟨p0_0, 0, none⟩)), (18, .bool true), (20, .int .i64 a0.f1)]) (bx' := [⟨p0_0, [.int .i64 a0.f0, .int .i64 a0.f1, .int .i64 a0.f2, .slice h0.1 a0.f3.length h0.2, .bool a0.f4], 29⟩]) (by kernel_rfl) ?_
          refine O.q (v := .bool false) (some 21) (Qu.eqv (u := .bool (decide (a0.f1 ≤ 1099511627776))) (v := .bool false) (0, 0) [] (by kernel_rfl) (congrArg Value.bool hc4)) (by kernel_rfl) ?_
          refine O.pure 18 [] [1, 3] [] (fr' := [(1, .pointer (some ⟨p0_0, 0, none⟩)), (3, .bool false)]) (bx' := [⟨p0_0, [.int .i64 a0.f0, .int .i64 a0.f1, .int .i64 a0.f2, .slice h0.1 a0.f3.length h0.2, .bool a0.f4], 29⟩]) (by kernel_rfl) ?_
          refine O.nil (by kernel_rfl) ?_
          refine J.seq (by kernel_rfl) ?_
          refine J.seq (by kernel_rfl) ?_
          refine J.region (by kernel_rfl) ?_
          refine O.pure 1 [] [1, 3, 4] [] (fr' := [(1, .pointer (some ⟨p0_0, 0, none⟩)), (3, .bool false), (4, .int .i64 0)]) (bx' := [⟨p0_0, [.int .i64 a0.f0, .int .i64 a0.f1, .int .i64 a0.f2, .slice h0.1 a0.f3.length h0.2, .bool a0.f4], 29⟩]) (by kernel_rfl) ?_
          refine O.nil (by kernel_rfl) ?_
          refine J.block (id := 0) (by kernel_rfl) ?_
          refine J.loopI (σ := Unit) (γ := Unit) (f := fun m_ s_ => haywainref16_Right.l19 K m_ s_) (fun s19 g19 => [(1, .pointer (some ⟨p0_0, 0, none⟩)), (3, .bool false), (4, .int .i64 0)]) (fun s19 g19 => St X w [] [⟨p0_0, [.int .i64 a0.f0, .int .i64 a0.f1, .int .i64 a0.f2, .slice h0.1 a0.f3.length h0.2, .bool a0.f4], 29⟩] [] [] [Rd kd74 h0.1 h0.2 a0.f3]) K () () (by kernel_rfl) H (fun _ => rfl) (fun m_ s19 H ih19 g19 => ?_) (fun h_ => ?_)
          · unfold haywainref16_Right.l19 at H
            refine J.seq (by kernel_rfl) ?_
            refine J.seq (by kernel_rfl) ?_
            refine J.region (by kernel_rfl) ?_
            refine O.pure 8 [] [1, 3, 4, 41, 42, 43, 44, 45, 46] [] (fr' := [(1, .pointer (some ⟨p0_0, 0, none⟩)), (3, .bool false), (4, .int .i64 0), (41, undef), (42, undef), (43, undef), (44, undef), (45, undef), (46, .bool false)]) (bx' := [⟨p0_0, [.int .i64 a0.f0, .int .i64 a0.f1, .int .i64 a0.f2, .slice h0.1 a0.f3.length h0.2, .bool a0.f4], 29⟩]) (by kernel_rfl) ?_
            refine O.nil (by kernel_rfl) ?_
            refine J.cond (o := .tmp 46) false (by kernel_rfl) (by kernel_rfl) ?_
            refine J.exit (id := 0) (by kernel_rfl) rfl ?_
            refine J.seq (by kernel_rfl) ?_
            refine J.region (by kernel_rfl) ?_
            refine O.pure 2 [] [2] [] (fr' := [(2, .bool false)]) (bx' := [⟨p0_0, [.int .i64 a0.f0, .int .i64 a0.f1, .int .i64 a0.f2, .slice h0.1 a0.f3.length h0.2, .bool a0.f4], 29⟩]) (by kernel_rfl) ?_
            refine O.nil (by kernel_rfl) ?_
            obtain rfl := Option.some.inj H
            exact J.doneS [] [] [] [] [] () (vs := [.bool false]) (by kernel_rfl) (by kernel_rfl) (by kernel_rfl) (by kernel_rfl) (by kernel_rfl) (by decide)
          · exact J.conv2 [1, 3, 4] [0] [0] [] (by kernel_rfl) (by kernel_rfl) (by kernel_rfl) (by kernel_rfl) (by decide) h_
      · refine J.region (by kernel_rfl) ?_
        refine O.pure 2 [(0, 0)] [1, 6] [p0_0, 0] (fr' := [(1, .pointer (some ⟨p0_0, 0, none⟩)), (6, .int .i64 a0.f0)]) (bx' := [⟨p0_0, [.int .i64 a0.f0, .int .i64 a0.f1, .int .i64 a0.f2, .slice h0.1 a0.f3.length h0.2, .bool a0.f4], 29⟩]) (by kernel_rfl) ?_
        refine O.q (v := .bool true) (some 7) (Qu.eqv (u := .bool (decide (a0.f0 > 0))) (v := .bool true) (0, 0) [] (by kernel_rfl) (congrArg Value.bool hc1)) (by kernel_rfl) ?_
        refine O.pure 3 [(0, 0)] [1, 8, 10] [p0_0, 0] (fr' := [(1, .pointer (some ⟨p0_0, 0, none⟩)), (8, .bool true), (10, .int .i64 a0.f0)]) (bx' := [⟨p0_0, [.int .i64 a0.f0, .int .i64 a0.f1, .int .i64 a0.f2, .slice h0.1 a0.f3.length h0.2, .bool a0.f4], 29⟩]) (by kernel_rfl) ?_
        refine O.q (v := .bool true) (some 11) (Qu.eqv (u := .bool (decide (a0.f0 ≤ 1099511627776))) (v := .bool true) (0, 0) [] (by kernel_rfl) (congrArg Value.bool hc2)) (by kernel_rfl) ?_
        refine O.pure 4 [(0, 1)] [1, 13, 15] [p0_0, 1] (fr' := [(1, .pointer (some ⟨p0_0, 0, none⟩)), (13, .bool true), (15, .int .i64 a0.f1)]) (bx' := [⟨p0_0, [.int .i64 a0.f0, .int .i64 a0.f1, .int .i64 a0.f2, .slice h0.1 a0.f3.length h0.2, .bool a0.f4], 29⟩]) (by kernel_rfl) ?_
        refine O.q (v := .bool false) (some 16) (Qu.eqv (u := .bool (decide (a0.f1 > 0))) (v := .bool false) (0, 0) [] (by kernel_rfl) (congrArg Value.bool hc3)) (by kernel_rfl) ?_
        refine O.pure 23 [] [1, 3] [] (fr' := [(1, .pointer (some ⟨p0_0, 0, none⟩)), (3, .bool false)]) (bx' := [⟨p0_0, [.int .i64 a0.f0, .int .i64 a0.f1, .int .i64 a0.f2, .slice h0.1 a0.f3.length h0.2, .bool a0.f4], 29⟩]) (by kernel_rfl) ?_
        refine O.nil (by kernel_rfl) ?_
        refine J.seq (by kernel_rfl) ?_
        refine J.seq (by kernel_rfl) ?_
        refine J.region (by kernel_rfl) ?_
        refine O.pure 1 [] [1, 3, 4] [] (fr' := [(1, .pointer (some ⟨p0_0, 0, none⟩)), (3, .bool false), (4, .int .i64 0)]) (bx' := [⟨p0_0, [.int .i64 a0.f0, .int .i64 a0.f1, .int .i64 a0.f2, .slice h0.1 a0.f3.length h0.2, .bool a0.f4], 29⟩]) (by kernel_rfl) ?_
        refine O.nil (by kernel_rfl) ?_
        refine J.block (id := 0) (by kernel_rfl) ?_
        refine J.loopI (σ := Unit) (γ := Unit) (f := fun m_ s_ => haywainref16_Right.l20 K m_ s_) (fun s20 g20 => [(1, .pointer (some ⟨p0_0, 0, none⟩)), (3, .bool false), (4, .int .i64 0)]) (fun s20 g20 => St X w [] [⟨p0_0, [.int .i64 a0.f0, .int .i64 a0.f1, .int .i64 a0.f2, .slice h0.1 a0.f3.length h0.2, .bool a0.f4], 29⟩] [] [] [Rd kd74 h0.1 h0.2 a0.f3]) K () () (by kernel_rfl) H (fun _ => rfl) (fun m_ s20 H ih20 g20 => ?_) (fun h_ => ?_)
        · unfold haywainref16_Right.l20 at H
          refine J.seq (by kernel_rfl) ?_
          refine J.seq (by kernel_rfl) ?_
          refine J.region (by kernel_rfl) ?_
          refine O.pure 8 [] [1, 3, 4, 41, 42, 43, 44, 45, 46] [] (fr' := [(1, .pointer (some ⟨p0_0, 0, none⟩)), (3, .bool false), (4, .int .i64 0), (41, undef), (42, undef), (43, undef), (44, undef), (45, undef), (46, .bool false)]) (bx' := [⟨p0_0, [.int .i64 a0.f0, .int .i64 a0.f1, .int .i64 a0.f2, .slice h0.1 a0.f3.length h0.2, .bool a0.f4], 29⟩]) (by kernel_rfl) ?_
          refine O.nil (by kernel_rfl) ?_
          refine J.cond (o := .tmp 46) false (by kernel_rfl) (by kernel_rfl) ?_
          refine J.exit (id := 0) (by kernel_rfl) rfl ?_
          refine J.seq (by kernel_rfl) ?_
          refine J.region (by kernel_rfl) ?_
          refine O.pure 2 [] [2] [] (fr' := [(2, .bool false)]) (bx' := [⟨p0_0, [.int .i64 a0.f0, .int .i64 a0.f1, .int .i64 a0.f2, .slice h0.1 a0.f3.length h0.2, .bool a0.f4], 29⟩]) (by kernel_rfl) ?_
          refine O.nil (by kernel_rfl) ?_
          obtain rfl := Option.some.inj H
          exact J.doneS [] [] [] [] [] () (vs := [.bool false]) (by kernel_rfl) (by kernel_rfl) (by kernel_rfl) (by kernel_rfl) (by kernel_rfl) (by decide)
        · exact J.conv2 [1, 3, 4] [0] [0] [] (by kernel_rfl) (by kernel_rfl) (by kernel_rfl) (by kernel_rfl) (by decide) h_
    · refine J.region (by kernel_rfl) ?_
      refine O.pure 2 [(0, 0)] [1, 6] [p0_0, 0] (fr' := [(1, .pointer (some ⟨p0_0, 0, none⟩)), (6, .int .i64 a0.f0)]) (bx' := [⟨p0_0, [.int .i64 a0.f0, .int .i64 a0.f1, .int .i64 a0.f2, .slice h0.1 a0.f3.length h0.2, .bool a0.f4], 29⟩]) (by kernel_rfl) ?_
      refine O.q (v := .bool true) (some 7) (Qu.eqv (u := .bool (decide (a0.f0 > 0))) (v := .bool true) (0, 0) [] (by kernel_rfl) (congrArg Value.bool hc1)) (by kernel_rfl) ?_
      refine O.pure 3 [(0, 0)] [1, 8, 10] [p0_0, 0] (fr' := [(1, .pointer (some ⟨p0_0, 0, none⟩)), (8, .bool true), (10, .int .i64 a0.f0)]) (bx' := [⟨p0_0, [.int .i64 a0.f0, .int .i64 a0.f1, .int .i64 a0.f2, .slice h0.1 a0.f3.length h0.2, .bool a0.f4], 29⟩]) (by kernel_rfl) ?_
      refine O.q (v := .bool false) (some 11) (Qu.eqv (u := .bool (decide (a0.f0 ≤ 1099511627776))) (v := .bool false) (0, 0) [] (by kernel_rfl) (congrArg Value.bool hc2)) (by kernel_rfl) ?_
      refine O.pure 28 [] [1, 3] [] (fr' := [(1, .pointer (some ⟨p0_0, 0, none⟩)), (3, .bool false)]) (bx' := [⟨p0_0, [.int .i64 a0.f0, .int .i64 a0.f1, .int .i64 a0.f2, .slice h0.1 a0.f3.length h0.2, .bool a0.f4], 29⟩]) (by kernel_rfl) ?_
      refine O.nil (by kernel_rfl) ?_
      refine J.seq (by kernel_rfl) ?_
      refine J.seq (by kernel_rfl) ?_
      refine J.region (by kernel_rfl) ?_
      refine O.pure 1 [] [1, 3, 4] [] (fr' := [(1, .pointer (some ⟨p0_0, 0, none⟩)), (3, .bool false), (4, .int .i64 0)]) (bx' := [⟨p0_0, [.int .i64 a0.f0, .int .i64 a0.f1, .int .i64 a0.f2, .slice h0.1 a0.f3.length h0.2, .bool a0.f4], 29⟩]) (by kernel_rfl) ?_
      refine O.nil (by kernel_rfl) ?_
      refine J.block (id := 0) (by kernel_rfl) ?_
      refine J.loopI (σ := Unit) (γ := Unit) (f := fun m_ s_ => haywainref16_Right.l21 K m_ s_) (fun s21 g21 => [(1, .pointer (some ⟨p0_0, 0, none⟩)), (3, .bool false), (4, .int .i64 0)]) (fun s21 g21 => St X w [] [⟨p0_0, [.int .i64 a0.f0, .int .i64 a0.f1, .int .i64 a0.f2, .slice h0.1 a0.f3.length h0.2, .bool a0.f4], 29⟩] [] [] [Rd kd74 h0.1 h0.2 a0.f3]) K () () (by kernel_rfl) H (fun _ => rfl) (fun m_ s21 H ih21 g21 => ?_) (fun h_ => ?_)
      · unfold haywainref16_Right.l21 at H
        refine J.seq (by kernel_rfl) ?_
        refine J.seq (by kernel_rfl) ?_
        refine J.region (by kernel_rfl) ?_
        refine O.pure 8 [] [1, 3, 4, 41, 42, 43, 44, 45, 46] [] (fr' := [(1, .pointer (some ⟨p0_0, 0, none⟩)), (3, .bool false), (4, .int .i64 0), (41, undef), (42, undef), (43, undef), (44, undef), (45, undef), (46, .bool false)]) (bx' := [⟨p0_0, [.int .i64 a0.f0, .int .i64 a0.f1, .int .i64 a0.f2, .slice h0.1 a0.f3.length h0.2, .bool a0.f4], 29⟩]) (by kernel_rfl) ?_
        refine O.nil (by kernel_rfl) ?_
        refine J.cond (o := .tmp 46) false (by kernel_rfl) (by kernel_rfl) ?_
        refine J.exit (id := 0) (by kernel_rfl) rfl ?_
        refine J.seq (by kernel_rfl) ?_
        refine J.region (by kernel_rfl) ?_
        refine O.pure 2 [] [2] [] (fr' := [(2, .bool false)]) (bx' := [⟨p0_0, [.int .i64 a0.f0, .int .i64 a0.f1, .int .i64 a0.f2, .slice h0.1 a0.f3.length h0.2, .bool a0.f4], 29⟩]) (by kernel_rfl) ?_
        refine O.nil (by kernel_rfl) ?_
        obtain rfl := Option.some.inj H
        exact J.doneS [] [] [] [] [] () (vs := [.bool false]) (by kernel_rfl) (by kernel_rfl) (by kernel_rfl) (by kernel_rfl) (by kernel_rfl) (by decide)
      · exact J.conv2 [1, 3, 4] [0] [0] [] (by kernel_rfl) (by kernel_rfl) (by kernel_rfl) (by kernel_rfl) (by decide) h_
  · refine J.region (by kernel_rfl) ?_
    refine O.pure 2 [(0, 0)] [1, 6] [p0_0, 0] (fr' := [(1, .pointer (some ⟨p0_0, 0, none⟩)), (6, .int .i64 a0.f0)]) (bx' := [⟨p0_0, [.int .i64 a0.f0, .int .i64 a0.f1, .int .i64 a0.f2, .slice h0.1 a0.f3.length h0.2, .bool a0.f4], 29⟩]) (by kernel_rfl) ?_
    refine O.q (v := .bool false) (some 7) (Qu.eqv (u := .bool (decide (a0.f0 > 0))) (v := .bool false) (0, 0) [] (by kernel_rfl) (congrArg Value.bool hc1)) (by kernel_rfl) ?_
    refine O.pure 32 [] [1, 3] [] (fr' := [(1, .pointer (some ⟨p0_0, 0, none⟩)), (3, .bool false)]) (bx' := [⟨p0_0, [.int .i64 a0.f0, .int .i64 a0.f1, .int .i64 a0.f2, .slice h0.1 a0.f3.length h0.2, .bool a0.f4], 29⟩]) (by kernel_rfl) ?_
    refine O.nil (by kernel_rfl) ?_
    refine J.seq (by kernel_rfl) ?_
    refine J.seq (by kernel_rfl) ?_
    refine J.region (by kernel_rfl) ?_
    refine O.pure 1 [] [1, 3, 4] [] (fr' := [(1, .pointer (some ⟨p0_0, 0, none⟩)), (3, .bool false), (4, .int .i64 0)]) (bx' := [⟨p0_0, [.int .i64 a0.f0, .int .i64 a0.f1, .int .i64 a0.f2, .slice h0.1 a0.f3.length h0.2, .bool a0.f4], 29⟩]) (by kernel_rfl) ?_
    refine O.nil (by kernel_rfl) ?_
    refine J.block (id := 0) (by kernel_rfl) ?_
    refine J.loopI (σ := Unit) (γ := Unit) (f := fun m_ s_ => haywainref16_Right.l22 K m_ s_) (fun s22 g22 => [(1, .pointer (some ⟨p0_0, 0, none⟩)), (3, .bool false), (4, .int .i64 0)]) (fun s22 g22 => St X w [] [⟨p0_0, [.int .i64 a0.f0, .int .i64 a0.f1, .int .i64 a0.f2, .slice h0.1 a0.f3.length h0.2, .bool a0.f4], 29⟩] [] [] [Rd kd74 h0.1 h0.2 a0.f3]) K () () (by kernel_rfl) H (fun _ => rfl) (fun m_ s22 H ih22 g22 => ?_) (fun h_ => ?_)
    · unfold haywainref16_Right.l22 at H
      refine J.seq (by kernel_rfl) ?_
      refine J.seq (by kernel_rfl) ?_
      refine J.region (by kernel_rfl) ?_
      refine O.pure 8 [] [1, 3, 4, 41, 42, 43, 44, 45, 46] [] (fr' := [(1, .pointer (some ⟨p0_0, 0, none⟩)), (3, .bool false), (4, .int .i64 0), (41, undef), (42, undef), (43, undef), (44, undef), (45, undef), (46, .bool false)]) (bx' := [⟨p0_0, [.int .i64 a0.f0, .int .i64 a0.f1, .int .i64 a0.f2, .slice h0.1 a0.f3.length h0.2, .bool a0.f4], 29⟩]) (by kernel_rfl) ?_
      refine O.nil (by kernel_rfl) ?_
      refine J.cond (o := .tmp 46) false (by kernel_rfl) (by kernel_rfl) ?_
      refine J.exit (id := 0) (by kernel_rfl) rfl ?_
      refine J.seq (by kernel_rfl) ?_
      refine J.region (by kernel_rfl) ?_
      refine O.pure 2 [] [2] [] (fr' := [(2, .bool false)]) (bx' := [⟨p0_0, [.int .i64 a0.f0, .int .i64 a0.f1, .int .i64 a0.f2, .slice h0.1 a0.f3.length h0.2, .bool a0.f4], 29⟩]) (by kernel_rfl) ?_
      refine O.nil (by kernel_rfl) ?_
      obtain rfl := Option.some.inj H
      exact J.doneS [] [] [] [] [] () (vs := [.bool false]) (by kernel_rfl) (by kernel_rfl) (by kernel_rfl) (by kernel_rfl) (by kernel_rfl) (by decide)
    · exact J.conv2 [1, 3, 4] [0] [0] [] (by kernel_rfl) (by kernel_rfl) (by kernel_rfl) (by kernel_rfl) (by decide) h_
/-! ### haywain/haywainref16.Same: function 13 -/
def haywainref16_Same.l6 (K : Nat) (a0 : S29) (a1 : S29) : Nat → Int → Option Bool
  | 0, _ => none
  | k + 1, s6 => cond (decide (s6 < (a0.f3.length : Int))) ((idxO a0.f3 s6).bind fun x6_3 => (idxO a1.f3 s6).bind fun x6_8 => cond (!(x6_3.f0 == x6_8.f0 && (x6_3.f1 == x6_8.f1 && true))) (some (false)) (haywainref16_Same.l6 K a0 a1 k (IntKind.wrap .i64 (s6 + 1)))) (some (true))
def haywainref16_Same.f (K : Nat) (a0 : S29) (a1 : S29) : Option Bool := cond (a0.f0 != a1.f0) (some (false)) (cond (a0.f1 != a1.f1) (some (false)) (cond (a0.f2 != a1.f2) (some (false)) (cond (!(a0.f4 == a1.f4)) (some (false)) (cond ((a0.f3.length : Int) != (a1.f3.length : Int)) (some (false)) (haywainref16_Same.l6 K a0 a1 K 0)))))
set_option maxRecDepth 100000 in
set_option maxHeartbeats 1000000 in
theorem haywainref16_Same.con (K : Nat) (a0 : S29) (a1 : S29) (h0 : Hd) (h1 : Hd) (r : Bool) (X : Nat → Nat → Prop) (w : World) (hS : St X w [] [] [] [] [Rd kd74 h0.1 h0.2 a0.f3, Rd kd74 h1.1 h1.2 a1.f3] w) (H : haywainref16_Same.f K a0 a1 = some r) :
    Cn Try.prog 13 [.agg #[.int .i64 a0.f0, .int .i64 a0.f1, .int .i64 a0.f2, .slice h0.1 a0.f3.length h0.2, .bool a0.f4], .agg #[.int .i64 a1.f0, .int .i64 a1.f1, .int .i64 a1.f2, .slice h1.1 a1.f3.length h1.2, .bool a1.f4]] X w [] (fun i : Unit => .bool r) (fun i => []) (fun i => []) (fun i => []) := by
  refine Cn.of Try.func13 (by kernel_rfl) hS ?_
  unfold haywainref16_Same.f at H
  refine J.seq (by kernel_rfl) ?_
  refine J.region (by kernel_rfl) ?_
  refine O.e (some 2) (Ev.box (t := 29) (x := .tmp 0) (v := .agg #[.int .i64 a0.f0, .int .i64 a0.f1, .int .i64 a0.f2, .slice h0.1 a0.f3.length h0.2, .bool a0.f4]) (by kernel_rfl) (by kernel_rfl)) (by kernel_rfl) (fun p0_0 => ?_)
  refine O.e (some 3) (Ev.box (t := 29) (x := .tmp 1) (v := .agg #[.int .i64 a1.f0, .int .i64 a1.f1, .int .i64 a1.f2, .slice h1.1 a1.f3.length h1.2, .bool a1.f4]) (by kernel_rfl) (by kernel_rfl)) (by kernel_rfl) (fun p0_1 => ?_)
  refine O.pure 1 [] [2, 3] [] (fr' := [(2, .pointer (some ⟨p0_0, 0, none⟩)), (3, .pointer (some ⟨p0_1, 0, none⟩))]) (bx' := [⟨p0_1, [.int .i64 a1.f0, .int .i64 a1.f1, .int .i64 a1.f2, .slice h1.1 a1.f3.length h1.2, .bool a1.f4], 29⟩, ⟨p0_0, [.int .i64 a0.f0, .int .i64 a0.f1, .int .i64 a0.f2, .slice h0.1 a0.f3.length h0.2, .bool a0.f4], 29⟩]) (by kernel_rfl) ?_
  refine O.nil (by kernel_rfl) ?_
  refine J.seq (by kernel_rfl) ?_
  refine J.seq (by kernel_rfl) ?_
  rcases condE H with ⟨hc1, H⟩ | ⟨hc1, H⟩
  · refine J.region (by kernel_rfl) ?_
    refine O.pure 4 [(1, 0), (0, 0)] [2, 3, 7, 9] [p0_0, 0, p0_1, 0] (fr' := [(2, .pointer (some ⟨p0_0, 0, none⟩)), (3, .pointer (some ⟨p0_1, 0, none⟩)), (7, .int .i64 a0.f0), (9, .int .i64 a1.f0)]) (bx' := [⟨p0_1, [.int .i64 a1.f0, .int .i64 a1.f1, .int .i64 a1.f2, .slice h1.1 a1.f3.length h1.2, .bool a1.f4], 29⟩, ⟨p0_0, [.int .i64 a0.f0, .int .i64 a0.f1, .int .i64 a0.f2, .slice h0.1 a0.f3.length h0.2, .bool a0.f4], 29⟩]) (by kernel_rfl) ?_
    refine O.q (v := .bool true) (some 10) (Qu.eqv (u := .bool (a0.f0 != a1.f0)) (v := .bool true) (0, 0) [] (by kernel_rfl) (congrArg Value.bool hc1)) (by kernel_rfl) ?_
    refine O.pure 30 [] [2, 3, 40] [] (fr' := [(2, .pointer (some ⟨p0_0, 0, none⟩)), (3, .pointer (some ⟨p0_1, 0, none⟩)), (40, .bool true)]) (bx' := [⟨p0_1, [.int .i64 a1.f0, .int .i64 a1.f1, .int .i64 a1.f2, .slice h1.1 a1.f3.length h1.2, .bool a1.f4], 29⟩, ⟨p0_0, [.int .i64 a0.f0, .int .i64 a0.f1, .int .i64 a0.f2, .slice h0.1 a0.f3.length h0.2, .bool a0.f4], 29⟩]) (by kernel_rfl) ?_
    refine O.nil (by kernel_rfl) ?_
    refine J.cond (o := .tmp 40) true (by kernel_rfl) (by kernel_rfl) ?_
    refine J.seq (by kernel_rfl) ?_
    refine J.region (by kernel_rfl) ?_
    refine O.pure 1 [] [4] [] (fr' := [(4, .bool false)]) (bx' := [⟨p0_1, [.int .i64 a1.f0, .int .i64 a1.f1, .int .i64 a1.f2, .slice h1.1 a1.f3.length h1.2, .bool a1.f4], 29⟩, ⟨p0_0, [.int .i64 a0.f0, .int .i64 a0.f1, .int .i64 a0.f2, .slice h0.1 a0.f3.length h0.2, .bool a0.f4], 29⟩]) (by kernel_rfl) ?_
    refine O.nil (by kernel_rfl) ?_
    obtain rfl := Option.some.inj H
    exact J.doneS [] [] [] [] [] () (vs := [.bool false]) (by kernel_rfl) (by kernel_rfl) (by kernel_rfl) (by kernel_rfl) (by kernel_rfl) (by decide)
  · rcases condE H with ⟨hc2, H⟩ | ⟨hc2, H⟩
    · refine J.region (by kernel_rfl) ?_
      refine O.pure 4 [(1, 0), (0, 0)] [2, 3, 7, 9] [p0_0, 0, p0_1, 0] (fr' := [(2, .pointer (some ⟨p0_0, 0, none⟩)), (3, .pointer (some ⟨p0_1, 0, none⟩)), (7, .int .i64 a0.f0), (9, .int .i64 a1.f0)]) (bx' := [⟨p0_1, [.int .i64 a1.f0, .int .i64 a1.f1, .int .i64 a1.f2, .slice h1.1 a1.f3.length h1.2, .bool a1.f4], 29⟩, ⟨p0_0, [.int .i64 a0.f0, .int .i64 a0.f1, .int .i64 a0.f2, .slice h0.1 a0.f3.length h0.2, .bool a0.f4], 29⟩]) (by kernel_rfl) ?_
      refine O.q (v := .bool false) (some 10) (Qu.eqv (u := .bool (a0.f0 != a1.f0)) (v := .bool false) (0, 0) [] (by kernel_rfl) (congrArg Value.bool hc1)) (by kernel_rfl) ?_
      refine O.pure 5 [(1, 1), (0, 1)] [2, 3, 11, 13, 15] [p0_0, 1, p0_1, 1] (fr' := [(2, .pointer (some ⟨p0_0, 0, none⟩)), (3, .pointer (some ⟨p0_1, 0, none⟩)), (11, .bool false), (13, .int .i64 a0.f1), (15, .int .i64 a1.f1)]) (bx' := [⟨p0_1, [.int .i64 a1.f0, .int .i64 a1.f1, .int .i64 a1.f2, .slice h1.1 a1.f3.length h1.2, .bool a1.f4], 29⟩, ⟨p0_0, [.int .i64 a0.f0, .int .i64 a0.f1, .int .i64 a0.f2, .slice h0.1 a0.f3.length h0.2, .bool a0.f4], 29⟩]) (by kernel_rfl) ?_
      refine O.q (v := .bool true) (some 16) (Qu.eqv (u := .bool (a0.f1 != a1.f1)) (v := .bool true) (0, 0) [] (by kernel_rfl) (congrArg Value.bool hc2)) (by kernel_rfl) ?_
      refine O.pure 24 [] [2, 3, 40] [] (fr' := [(2, .pointer (some ⟨p0_0, 0, none⟩)), (3, .pointer (some ⟨p0_1, 0, none⟩)), (40, .bool true)]) (bx' := [⟨p0_1, [.int .i64 a1.f0, .int .i64 a1.f1, .int .i64 a1.f2, .slice h1.1 a1.f3.length h1.2, .bool a1.f4], 29⟩, ⟨p0_0, [.int .i64 a0.f0, .int .i64 a0.f1, .int .i64 a0.f2, .slice h0.1 a0.f3.length h0.2, .bool a0.f4], 29⟩]) (by kernel_rfl) ?_
      refine O.nil (by kernel_rfl) ?_
      refine J.cond (o := .tmp 40) true (by kernel_rfl) (by kernel_rfl) ?_
      refine J.seq (by kernel_rfl) ?_
      refine J.region (by kernel_rfl) ?_
      refine O.pure 1 [] [4] [] (fr' := [(4, .bool false)]) (bx' := [⟨p0_1, [.int .i64 a1.f0, .int .i64 a1.f1, .int .i64 a1.f2, .slice h1.1 a1.f3.length h1.2, .bool a1.f4], 29⟩, ⟨p0_0, [.int .i64 a0.f0, .int .i64 a0.f1, .int .i64 a0.f2, .slice h0.1 a0.f3.length h0.2, .bool a0.f4], 29⟩]) (by kernel_rfl) ?_
      refine O.nil (by kernel_rfl) ?_
      obtain rfl := Option.some.inj H
      exact J.doneS [] [] [] [] [] () (vs := [.bool false]) (by kernel_rfl) (by kernel_rfl) (by kernel_rfl) (by kernel_rfl) (by kernel_rfl) (by decide)
    · rcases condE H with ⟨hc3, H⟩ | ⟨hc3, H⟩
      · refine J.region (by kernel_rfl) ?_
        refine O.pure 4 [(1, 0), (0, 0)] [2, 3, 7, 9] [p0_0, 0, p0_1, 0] (fr' := [(2, .pointer (some ⟨p0_0, 0, none⟩)), (3, .pointer (some ⟨p0_1, 0, none⟩)), (7, .int .i64 a0.f0), (9, .int .i64 a1.f0)]) (bx' := [⟨p0_1, [.int .i64 a1.f0, .int .i64 a1.f1, .int .i64 a1.f2, .slice h1.1 a1.f3.length h1.2, .bool a1.f4], 29⟩, ⟨p0_0, [.int .i64 a0.f0, .int .i64 a0.f1, .int .i64 a0.f2, .slice h0.1 a0.f3.length h0.2, .bool a0.f4], 29⟩]) (by kernel_rfl) ?_
        refine O.q (v := .bool false) (some 10) (Qu.eqv (u := .bool (a0.f0 != a1.f0)) (v := .bool false) (0, 0) [] (by kernel_rfl) (congrArg Value.bool hc1)) (by kernel_rfl) ?_
        refine O.pure 5 [(1, 1), (0, 1)] [2, 3, 11, 13, 15] [p0_0, 1, p0_1, 1] (fr' := [(2, .pointer (some ⟨p0_0, 0, none⟩)), (3, .pointer (some ⟨p0_1, 0, none⟩)), (11, .bool false), (13, .int .i64 a0.f1), (15, .int .i64 a1.f1)]) (bx' := [⟨p0_1, [.int .i64 a1.f0, .int .i64 a1.f1, .int .i64 a1.f2, .slice h1.1 a1.f3.length h1.2, .bool a1.f4], 29⟩, ⟨p0_0, [.int .i64 a0.f0, .int .i64 a0.f1, .int .i64 a0.f2, .slice h0.1 a0.f3.length h0.2, .bool a0.f4], 29⟩]) (by kernel_rfl) ?_
        refine O.q (v := .bool false) (some 16) (Qu.eqv (u := .bool (a0.f1 != a1.f1)) (v := .bool false) (0, 0) [] (by kernel_rfl) (congrArg Value.bool hc2)) (by kernel_rfl) ?_
        refine O.pure 6 [(1, 2), (0, 2)] [2, 3, 18, 20, 22] [p0_0, 2, p0_1, 2] (fr' := [(2, .pointer (some ⟨p0_0, 0, none⟩)), (3, .pointer (some ⟨p0_1, 0, none⟩)), (18, .bool false), (20, .int .i64 a0.f2), (22, .int .i64 a1.f2)]) (bx' := [⟨p0_1, [.int .i64 a1.f0, .int .i64 a1.f1, .int .i64 a1.f2, .slice h1.1 a1.f3.length h1.2, .bool a1.f4], 29⟩, ⟨p0_0, [.int .i64 a0.f0, .int .i64 a0.f1, .int .i64 a0.f2, .slice h0.1 a0.f3.length h0.2, .bool a0.f4], 29⟩]) (by kernel_rfl) ?_
        refine O.q (v := .bool true) (some 23) (Qu.eqv (u := .bool (a0.f2 != a1.f2)) (v := .bool true) (0, 0) [] (by kernel_rfl) (congrArg Value.bool hc3)) (by kernel_rfl) ?_
        refine O.pure 17 [] [2, 3, 40] [] (fr' := [(2, .pointer (some ⟨p0_0, 0, none⟩)), (3, .pointer (some ⟨p0_1, 0, none⟩)), (40, .bool true)]) (bx' := [⟨p0_1, [.int .i64 a1.f0, .int .i64 a1.f1, .int .i64 a1.f2, .slice h1.1 a1.f3.length h1.2, .bool a1.f4], 29⟩, ⟨p0_0, [.int .i64 a0.f0, .int .i64 a0.f1, .int .i64 a0.f2, .slice h0.1 a0.f3.length h0.2, .bool a0.f4], 29⟩]) (by kernel_rfl) ?_
        refine O.nil (by kernel_rfl) ?_
        refine J.cond (o := .tmp 40) true (by kernel_rfl) (by kernel_rfl) ?_
        refine J.seq (by kernel_rfl) ?_
        refine J.region (by kernel_rfl) ?_
        refine O.pure 1 [] [4] [] (fr' := [(4, .bool false)]) (bx' := [⟨p0_1, [.int .i64 a1.f0, .int .i64 a1.f1, .int .i64 a1.f2, .slice h1.1 a1.f3.length h1.2, .bool a1.f4], 29⟩, ⟨p0_0, [.int .i64 a0.f0, .int .i64 a0.f1, .int .i64 a0.f2, .slice h0.1 a0.f3.length h0.2, .bool a0.f4], 29⟩]) (by kernel_rfl) ?_
        refine O.nil (by kernel_rfl) ?_
        obtain rfl := Option.some.inj H
        exact J.doneS [] [] [] [] [] () (vs := [.bool false]) (by kernel_rfl) (by kernel_rfl) (by kernel_rfl) (by kernel_rfl) (by kernel_rfl) (by decide)
      · rcases condE H with ⟨hc4, H⟩ | ⟨hc4, H⟩
        · refine J.region (by kernel_rfl) ?_
          refine O.pure 4 [(1, 0), (0, 0)] [2, 3, 7, 9] [p0_0, 0, p0_1, 0] (fr' := [(2, .pointer (some ⟨p0_0, 0, none⟩)), (3, .pointer (some ⟨p0_1, 0, none⟩)), (7, .int .i64 a0.f0), (9, .int .i64 a1.f0)]) (bx' := [⟨p0_1, [.int .i64 a1.f0, .int .i64 a1.f1, .int .i64 a1.f2, .slice h1.1 a1.f3.length h1.2, .bool a1.f4], 29⟩, ⟨p0_0, [.int .i64 a0.f0, .int .i64 a0.f1, .int .i64 a0.f2, .slice h0.1 a0.f3.length h0.2, .bool a0.f4], 29⟩]) (by kernel_rfl) ?_
          refine O.q (v := .bool false) (some 10) (Qu.eqv (u := .bool (a0.f0 != a1.f0)) (v := .bool false) (0, 0) [] (by kernel_rfl) (congrArg Value.bool hc1)) (by kernel_rfl) ?_
          refine O.pure 5 [(1, 1), (0, 1)] [2, 3, 11, 13, 15] [p0_0, 1, p0_1, 1] (fr' := [(2, .pointer (some ⟨p0_0, 0, none⟩)), (3, .pointer (some ⟨p0_1, 0, none⟩)), (11, .bool false), (13, .int .i64 a0.f1), (15, .int .i64 a1.f1)]) (bx' := [⟨p0_1, [.int .i64 a1.f0, .int .i64 a1.f1, .int .i64 a1.f2, .slice h1.1 a1.f3.length h1.2, .bool a1.f4], 29⟩, ⟨p0_0, [.int .i64 a0.f0, .int .i64 a0.f1, .int .i64 a0.f2, .slice h0.1 a0.f3.length h0.2, .bool a0.f4], 29⟩]) (by kernel_rfl) ?_
          refine O.q (v := .bool false) (some 16) (Qu.eqv (u := .bool (a0.f1 != a1.f1)) (v := .bool false) (0, 0) [] (by kernel_rfl) (congrArg Value.bool hc2)) (by kernel_rfl) ?_
          refine O.pure 6 [(1, 2), (0, 2)] [2, 3, 18, 20, 22] [p0_0, 2, p0_1, 2] (fr' := [(2, .pointer (some ⟨p0_0, 0, none⟩)), (3, .pointer (some ⟨p0_1, 0, none⟩)), (18, .bool false), (20, .int .i64 a0.f2), (22, .int .i64 a1.f2)]) (bx' := [⟨p0_1, [.int .i64 a1.f0, .int .i64 a1.f1, .int .i64 a1.f2, .slice h1.1 a1.f3.length h1.2, .bool a1.f4], 29⟩, ⟨p0_0, [.int .i64 a0.f0, .int .i64 a0.f1, .int .i64 a0.f2, .slice h0.1 a0.f3.length h0.2, .bool a0.f4], 29⟩]) (by kernel_rfl) ?_
          refine O.q (v := .bool false) (some 23) (Qu.eqv (u := .bool (a0.f2 != a1.f2)) (v := .bool false) (0, 0) [] (by kernel_rfl) (congrArg Value.bool hc3)) (by kernel_rfl) ?_
          refine O.pure 6 [(1, 4), (0, 4)] [2, 3, 25, 27, 29] [p0_0, 4, p0_1, 4] (fr' := [(2, .pointer (some ⟨p0_0, 0, none⟩)), (3, .pointer (some ⟨p0_1, 0, none⟩)), (25, .bool false), (27, .bool a0.f4), (29, .bool a1.f4)]) (bx' := [⟨p0_1, [.int .i64 a1.f0, .int .i64 a1.f1, .int .i64 a1.f2, .slice h1.1 a1.f3.length h1.2, .bool a1.f4], 29⟩, ⟨p0_0, [.int .i64 a0.f0, .int .i64 a0.f1, .int .i64 a0.f2, .slice h0.1 a0.f3.length h0.2, .bool a0.f4], 29⟩]) (by kernel_rfl) ?_
          refine O.q (v := .bool true) (some 30) (Qu.as (congrArg Value.bool hc4) (Qu.binT (op := .neq) (t := 4) (t' := 4) (x := .tmp 27) (y := .tmp 29) (u := .bool a0.f4) (v := .bool a1.f4) (by kernel_rfl) (by kernel_rfl) (by kernel_rfl) (by kernel_rfl))) (by kernel_rfl) ?_
          refine O.pure 10 [] [2, 3, 40] [] (fr' := [(2, .pointer (some ⟨p0_0, 0, none⟩)), (3, .pointer (some ⟨p0_1, 0, none⟩)), (40, .bool true)]) (bx' := [⟨p0_1, [.int .i64 a1.f0, .int .i64 a1.f1, .int .i64 a1.f2, .slice h1.1 a1.f3.length h1.2, .bool a1.f4], 29⟩, ⟨p0_0, [.int .i64 a0.f0, .int .i64 a0.f1, .int .i64 a0.f2, .slice h0.1 a0.f3.length h0.2, .bool a0.f4], 29⟩]) (by kernel_rfl) ?_
          refine O.nil (by kernel_rfl) ?_
          refine J.cond (o := .tmp 40) true (by kernel_rfl) (by kernel_rfl) ?_
          refine J.seq (by kernel_rfl) ?_
          refine J.region (by kernel_rfl) ?_
          refine O.pure 1 [] [4] [] (fr' := [(4, .bool false)]) (bx' := [⟨p0_1, [.int .i64 a1.f0, .int .i64 a1.f1, .int .i64 a1.f2, .slice h1.1 a1.f3.length h1.2, .bool a1.f4], 29⟩, ⟨p0_0, [.int .i64 a0.f0, .int .i64 a0.f1, .int .i64 a0.f2, .slice h0.1 a0.f3.length h0.2, .bool a0.f4], 29⟩]) (by kernel_rfl) ?_
          refine O.nil (by kernel_rfl) ?_
          obtain rfl := Option.some.inj H
          exact J.doneS [] [] [] [] [] () (vs := [.bool false]) (by kernel_rfl) (by kernel_rfl) (by kernel_rfl) (by kernel_rfl) (by kernel_rfl) (by decide)
        · refine J.region (by kernel_rfl) ?_
          refine O.pure 4 [(1, 0), (0, 0)] [2, 3, 7, 9] [p0_0, 0, p0_1, 0] (fr' := [(2, .pointer (some ⟨p0_0, 0, none⟩)), (3, .pointer (some ⟨p0_1, 0, none⟩)), (7, .int .i64 a0.f0), (9, .int .i64 a1.f0)]) (bx' := [⟨p0_1, [.int .i64 a1.f0, .int .i64 a1.f1, .int .i64 a1.f2, .slice h1.1 a1.f3.length h1.2, .bool a1.f4], 29⟩, ⟨p0_0, [.int .i64 a0.f0, .int .i64 a0.f1, .int .i64 a0.f2, .slice h0.1 a0.f3.length h0.2, .bool a0.f4], 29⟩]) (by kernel_rfl) ?_
          refine O.q (v := .bool false) (some 10) (Qu.eqv (u := .bool (a0.f0 != a1.f0)) (v := .bool false) (0, 0) [] (by kernel_rfl) (congrArg Value.bool hc1)) (by kernel_rfl) ?_
          refine O.pure 5 [(1, 1), (0, 1)] [2, 3, 11, 13, 15] [p0_0, 1, p0_1, 1] (fr' := [(2, .pointer (some ⟨p0_0, 0, none⟩)), (3, .pointer (some ⟨p0_1, 0, none⟩)), (11, .bool false), (13, .int .i64 a0.f1), (15, .int .i64 a1.f1)]) (bx' := [⟨p0_1, [.int .i64 a1.f0, .int .i64 a1.f1, .int .i64 a1.f2, .slice h1.1 a1.f3.length h1.2, .bool a1.f4], 29⟩, ⟨p0_0, [.int .i64 a0.f0, .int .i64 a0.f1, .int .i64 a0.f2, .slice h0.1 a0.f3.length h0.2, .bool a0.f4], 29⟩]) (by kernel_rfl) ?_
          refine O.q (v := .bool false) (some 16) (Qu.eqv (u := .bool (a0.f1 != a1.f1)) (v := .bool false) (0, 0) [] (by kernel_rfl) (congrArg Value.bool hc2)) (by kernel_rfl) ?_
          refine O.pure 6 [(1, 2), (0, 2)] [2, 3, 18, 20, 22] [p0_0, 2, p0_1, 2] (fr' := [(2, .pointer (some ⟨p0_0, 0, none⟩)), (3, .pointer (some ⟨p0_1, 0, none⟩)), (18, .bool false), (20, .int .i64 a0.f2), (22, .int .i64 a1.f2)]) (bx' := [⟨p0_1, [.int .i64 a1.f0, .int .i64 a1.f1, .int .i64 a1.f2, .slice h1.1 a1.f3.length h1.2, .bool a1.f4], 29⟩, ⟨p0_0, [.int .i64 a0.f0, .int .i64 a0.f1, .int .i64 a0.f2, .slice h0.1 a0.f3.length h0.2, .bool a0.f4], 29⟩]) (by kernel_rfl) ?_
          refine O.q (v := .bool false) (some 23) (Qu.eqv (u := .bool (a0.f2 != a1.f2)) (v := .bool false) (0, 0) [] (by kernel_rfl) (congrArg Value.bool hc3)) (by kernel_rfl) ?_
          refine O.pure 6 [(1, 4), (0, 4)] [2, 3, 25, 27, 29] [p0_0, 4, p0_1, 4] (fr' := [(2, .pointer (some ⟨p0_0, 0, none⟩)), (3, .pointer (some ⟨p0_1, 0, none⟩)), (25, .bool false), (27, .bool a0.f4), (29, .bool a1.f4)]) (bx' := [⟨p0_1, [.int .i64 a1.f0, .int .i64 a1.f1, .int .i64 a1.f2, .slice h1.1 a1.f3.length h1.2, .bool a1.f4], 29⟩, ⟨p0_0, [.int .i64 a0.f0, .int .i64 a0.f1, .int .i64 a0.f2, .slice h0.1 a0.f3.length h0.2, .bool a0.f4], 29⟩]) (by kernel_rfl) ?_
          refine O.q (v := .bool false) (some 30) (Qu.as (congrArg Value.bool hc4) (Qu.binT (op := .neq) (t := 4) (t' := 4) (x := .tmp 27) (y := .tmp 29) (u := .bool a0.f4) (v := .bool a1.f4) (by kernel_rfl) (by kernel_rfl) (by kernel_rfl) (by kernel_rfl))) (by kernel_rfl) ?_
          refine O.pure 10 [(1, 3), (0, 3)] [2, 3, 40] [p0_0, 3, p0_1, 3] (fr' := [(2, .pointer (some ⟨p0_0, 0, none⟩)), (3, .pointer (some ⟨p0_1, 0, none⟩)), (40, .bool ((a0.f3.length : Int) != (a1.f3.length : Int)))]) (bx' := [⟨p0_1, [.int .i64 a1.f0, .int .i64 a1.f1, .int .i64 a1.f2, .slice h1.1 a1.f3.length h1.2, .bool a1.f4], 29⟩, ⟨p0_0, [.int .i64 a0.f0, .int .i64 a0.f1, .int .i64 a0.f2, .slice h0.1 a0.f3.length h0.2, .bool a0.f4], 29⟩]) (by kernel_rfl) ?_
          refine O.nil (by kernel_rfl) ?_
          rcases condE H with ⟨hc5, H⟩ | ⟨hc5, H⟩
          · refine J.condT (x := .tmp 40) (t := ((a0.f3.length : Int) != (a1.f3.length : Int))) (by kernel_rfl) (by kernel_rfl) hc5 ?_
            refine J.seq (by kernel_rfl) ?_
            refine J.region (by kernel_rfl) ?_
            refine O.pure 1 [] [4] [] (fr' := [(4, .bool false)]) (bx' := [⟨p0_1, [.int .i64 a1.f0, .int .i64 a1.f1, .int .i64 a1.f2, .slice h1.1 a1.f3.length h1.2, .bool a1.f4], 29⟩, ⟨p0_0, [.int .i64 a0.f0, .int .i64 a0.f1, .int .i64 a0.f2, .slice h0.1 a0.f3.length h0.2, .bool a0.f4], 29⟩]) (by kernel_rfl) ?_
            refine O.nil (by kernel_rfl) ?_
            obtain rfl := Option.some.inj H
            exact J.doneS [] [] [] [] [] () (vs := [.bool false]) (by kernel_rfl) (by kernel_rfl) (by kernel_rfl) (by kernel_rfl) (by kernel_rfl) (by decide)
          · refine J.condF (x := .tmp 40) (t := ((a0.f3.length : Int) != (a1.f3.length : Int))) (by kernel_rfl) (by kernel_rfl) hc5 ?_
            refine J.skip (by kernel_rfl) ?_
            refine J.seq (by kernel_rfl) ?_
            refine J.seq (by kernel_rfl) ?_
            refine J.region (by kernel_rfl) ?_
            refine O.pure 1 [] [2, 3, 5] [] (fr' := [(2, .pointer (some ⟨p0_0, 0, none⟩)), (3, .pointer (some ⟨p0_1, 0, none⟩)), (5, .int .i64 0)]) (bx' := [⟨p0_1, [.int .i64 a1.f0, .int .i64 a1.f1, .int .i64 a1.f2, .slice h1.1 a1.f3.length h1.2, .bool a1.f4], 29⟩, ⟨p0_0, [.int .i64 a0.f0, .int .i64 a0.f1, .int .i64 a0.f2, .slice h0.1 a0.f3.length h0.2, .bool a0.f4], 29⟩]) (by kernel_rfl) ?_
            refine O.nil (by kernel_rfl) ?_
            refine J.block (id := 0) (by kernel_rfl) ?_
            refine J.loopI (σ := Int) (γ := Unit) (f := fun m_ s_ => haywainref16_Same.l6 K a0 a1 m_ s_) (fun s6 g6 => [(2, .pointer (some ⟨p0_0, 0, none⟩)), (3, .pointer (some ⟨p0_1, 0, none⟩)), (5, .int .i64 s6)]) (fun s6 g6 => St X w [] [⟨p0_1, [.int .i64 a1.f0, .int .i64 a1.f1, .int .i64 a1.f2, .slice h1.1 a1.f3.length h1.2, .bool a1.f4], 29⟩, ⟨p0_0, [.int .i64 a0.f0, .int .i64 a0.f1, .int .i64 a0.f2, .slice h0.1 a0.f3.length h0.2, .bool a0.f4], 29⟩] [] [] [Rd kd74 h0.1 h0.2 a0.f3, Rd kd74 h1.1 h1.2 a1.f3]) K 0 () (by kernel_rfl) H (fun _ => rfl) (fun m_ s6 H ih6 g6 => ?_) (fun h_ => ?_)
            · unfold haywainref16_Same.l6 at H
              refine J.seq (by kernel_rfl) ?_
              refine J.seq (by kernel_rfl) ?_
              refine J.region (by kernel_rfl) ?_
              refine O.pure 5 [(1, 3)] [2, 3, 5, 45] [p0_0, 3] (fr' := [(2, .pointer (some ⟨p0_0, 0, none⟩)), (3, .pointer (some ⟨p0_1, 0, none⟩)), (5, .int .i64 s6), (45, .bool (decide (s6 < (a0.f3.length : Int))))]) (bx' := [⟨p0_1, [.int .i64 a1.f0, .int .i64 a1.f1, .int .i64 a1.f2, .slice h1.1 a1.f3.length h1.2, .bool a1.f4], 29⟩, ⟨p0_0, [.int .i64 a0.f0, .int .i64 a0.f1, .int .i64 a0.f2, .slice h0.1 a0.f3.length h0.2, .bool a0.f4], 29⟩]) (by kernel_rfl) ?_
              refine O.nil (by kernel_rfl) ?_
              rcases condE H with ⟨hc11, H⟩ | ⟨hc11, H⟩
              · refine J.condT (x := .tmp 45) (t := (decide (s6 < (a0.f3.length : Int)))) (by kernel_rfl) (by kernel_rfl) hc11 ?_
                refine J.skip (by kernel_rfl) ?_
                refine J.seq (by kernel_rfl) ?_
                refine J.block (id := 1) (by kernel_rfl) ?_
                refine J.seq (by kernel_rfl) ?_
                obtain ⟨x6_3, hx6_3, H⟩ := bindE H
                obtain ⟨hx6_3a, hx6_3⟩ := idxE hx6_3
                obtain ⟨x6_8, hx6_8, H⟩ := bindE H
                obtain ⟨hx6_8a, hx6_8⟩ := idxE hx6_8
                refine J.open (d := kd74) (h := h0) (i := s6) 0 rfl hx6_3 (op74 _) (fun p6_3 hp6_3A => ?_)
                refine J.open (d := kd74) (h := h1) (i := s6) 1 rfl hx6_8 (op74 _) (fun p6_8 hp6_8A => ?_)
                refine J.drawS (by kernel_rfl) [(0, some 48, .pointer (some ⟨p0_0, 3, none⟩)), (1, some 49, .slice h0.1 a0.f3.length h0.2), (2, some 50, .int .i64 s6), (4, some 52, .agg #[.int .i64 x6_3.f0, .string x6_3.f1]), (5, some 53, .pointer (some ⟨p0_1, 3, none⟩)), (6, some 54, .slice h1.1 a1.f3.length h1.2), (7, some 55, .int .i64 s6), (9, some 57, .agg #[.int .i64 x6_8.f0, .string x6_8.f1]), (3, some 51, .pointer (some ⟨p6_3.1, p6_3.2.1 + s6.toNat * 2, none⟩)), (8, some 56, .pointer (some ⟨p6_8.1, p6_8.2.1 + s6.toNat * 2, none⟩)), (10, some 58, .bool (!(x6_3.f0 == x6_8.f0 && (x6_3.f1 == x6_8.f1 && true))))] ([0, 1, 2, 4, 5, 6, 7, 9] ++ [3, 8, 10]) (by kernel_rfl) ?_
                refine D.fin (fr' := [(2, .pointer (some ⟨p0_0, 0, none⟩)), (3, .pointer (some ⟨p0_1, 0, none⟩)), (5, .int .i64 s6), (58, .bool (!(x6_3.f0 == x6_8.f0 && (x6_3.f1 == x6_8.f1 && true))))]) [0, 1, 2, 4, 5, 6, 7, 9] [3, 8, 10] [(1, 3), (3, 0), (0, 3), (2, 0)] [p0_0, 3, p6_3.1, p6_3.2.1 + s6.toNat * 2, p0_1, 3, p6_8.1, p6_8.2.1 + s6.toNat * 2] [2, 3, 5, 58] (by kernel_rfl) (by kernel_rfl) (⟨QuAt.mk (v := .pointer (some ⟨p6_3.1, p6_3.2.1 + s6.toNat * 2, none⟩)) (some 51) (by kernel_rfl) (by kernel_rfl) (Qu.idx (t := 27) (x := .tmp 49) (y := .tmp 50) (c := h0.2) (kk := .i64) (sz := 2) (by kernel_rfl) (by kernel_rfl) (by kernel_rfl) (by kernel_rfl) hx6_3a (idx_lt hx6_3) hp6_3A), QuAt.mk (v := .pointer (some ⟨p6_8.1, p6_8.2.1 + s6.toNat * 2, none⟩)) (some 56) (by kernel_rfl) (by kernel_rfl) (Qu.idx (t := 27) (x := .tmp 54) (y := .tmp 55) (c := h1.2) (kk := .i64) (sz := 2) (by kernel_rfl) (by kernel_rfl) (by kernel_rfl) (by kernel_rfl) hx6_8a (idx_lt hx6_8) hp6_8A), QuAt.mk (v := .bool (!(x6_3.f0 == x6_8.f0 && (x6_3.f1 == x6_8.f1 && true)))) (some 58) (by kernel_rfl) (by kernel_rfl) (Qu.binT (op := .neq) (t := 74) (t' := 74) (x := .tmp 52) (y := .tmp 57) (u := .agg #[.int .i64 x6_3.f0, .string x6_3.f1]) (v := .agg #[.int .i64 x6_8.f0, .string x6_8.f1]) (by kernel_rfl) (by kernel_rfl) (by kernel_rfl) (by kernel_rfl)), trivial⟩) (by kernel_rfl) ?_
                rcases condE H with ⟨hc12, H⟩ | ⟨hc12, H⟩
                · refine J.condT (x := .tmp 58) (t := (!(x6_3.f0 == x6_8.f0 && (x6_3.f1 == x6_8.f1 && true)))) (by kernel_rfl) (by kernel_rfl) hc12 ?_
                  refine J.seq (by kernel_rfl) ?_
                  refine J.region (by kernel_rfl) ?_
                  refine O.pure 1 [] [4] [] (fr' := [(4, .bool false)]) (bx' := [⟨p0_1, [.int .i64 a1.f0, .int .i64 a1.f1, .int .i64 a1.f2, .slice h1.1 a1.f3.length h1.2, .bool a1.f4], 29⟩, ⟨p0_0, [.int .i64 a0.f0, .int .i64 a0.f1, .int .i64 a0.f2, .slice h0.1 a0.f3.length h0.2, .bool a0.f4], 29⟩]) (by kernel_rfl) ?_
                  refine O.nil (by kernel_rfl) ?_
                  obtain rfl := Option.some.inj H
                  exact J.doneS [] [] [] [] [] () (vs := [.bool false]) (by kernel_rfl) (by kernel_rfl) (by kernel_rfl) (by kernel_rfl) (by kernel_rfl) (by decide)
                · refine J.condF (x := .tmp 58) (t := (!(x6_3.f0 == x6_8.f0 && (x6_3.f1 == x6_8.f1 && true)))) (by kernel_rfl) (by kernel_rfl) hc12 ?_
                  refine J.skip (by kernel_rfl) ?_
                  refine J.out ?_
                  refine J.region (by kernel_rfl) ?_
                  refine O.pure 3 [] [2, 3, 5] [] (fr' := [(2, .pointer (some ⟨p0_0, 0, none⟩)), (3, .pointer (some ⟨p0_1, 0, none⟩)), (5, .int .i64 (IntKind.wrap .i64 (s6 + 1)))]) (bx' := [⟨p0_1, [.int .i64 a1.f0, .int .i64 a1.f1, .int .i64 a1.f2, .slice h1.1 a1.f3.length h1.2, .bool a1.f4], 29⟩, ⟨p0_0, [.int .i64 a0.f0, .int .i64 a0.f1, .int .i64 a0.f2, .slice h0.1 a0.f3.length h0.2, .bool a0.f4], 29⟩]) (by kernel_rfl) ?_
                  refine O.nil (by kernel_rfl) ?_
                  exact J.conv2 [2, 3, 5] [0, 1] [0, 1] [] (by kernel_rfl) (by kernel_rfl) (by kernel_rfl) (by kernel_rfl) (by decide) (ih6 (IntKind.wrap .i64 (s6 + 1)) () H)
              · refine J.condF (x := .tmp 45) (t := (decide (s6 < (a0.f3.length : Int)))) (by kernel_rfl) (by kernel_rfl) hc11 ?_
                refine J.exit (id := 0) (by kernel_rfl) rfl ?_
                refine J.seq (by kernel_rfl) ?_
                refine J.region (by kernel_rfl) ?_
                refine O.pure 1 [] [4] [] (fr' := [(4, .bool true)]) (bx' := [⟨p0_1, [.int .i64 a1.f0, .int .i64 a1.f1, .int .i64 a1.f2, .slice h1.1 a1.f3.length h1.2, .bool a1.f4], 29⟩, ⟨p0_0, [.int .i64 a0.f0, .int .i64 a0.f1, .int .i64 a0.f2, .slice h0.1 a0.f3.length h0.2, .bool a0.f4], 29⟩]) (by kernel_rfl) ?_
                refine O.nil (by kernel_rfl) ?_
                obtain rfl := Option.some.inj H
                exact J.doneS [] [] [] [] [] () (vs := [.bool true]) (by kernel_rfl) (by kernel_rfl) (by kernel_rfl) (by kernel_rfl) (by kernel_rfl) (by decide)
            · exact J.conv2 [2, 3, 5] [0, 1] [0, 1] [] (by kernel_rfl) (by kernel_rfl) (by kernel_rfl) (by kernel_rfl) (by decide) h_
/-! ### haywain/haywainref16.Good: function 15 -/
def haywainref16_Good.f (K : Nat) (a0 : S29) : Option S29 := (haywainref16_Right.f K a0).bind fun x1_1 => cond x1_1 (some (a0)) (some ((⟨1, 1, 0, ([] : List S74), false⟩ : S29)))
set_option maxRecDepth 100000 in
set_option maxHeartbeats 1000000 in
theorem haywainref16_Good.con (K : Nat) (a0 : S29) (h0 : Hd) (r : S29) (X : Nat → Nat → Prop) (w : World) (hS : St X w [] [] [] [] [Rd kd74 h0.1 h0.2 a0.f3] w) (H : haywainref16_Good.f K a0 = some r) :
    Cn Try.prog 15 [.agg #[.int .i64 a0.f0, .int .i64 a0.f1, .int .i64 a0.f2, .slice h0.1 a0.f3.length h0.2, .bool a0.f4]] X w [] (fun i : Hd => .agg #[.int .i64 r.f0, .int .i64 r.f1, .int .i64 r.f2, .slice i.1 r.f3.length i.2, .bool r.f4]) (fun i => []) (fun i => []) (fun i => [Rd kd74 i.1 i.2 r.f3]) := by
  refine Cn.of Try.func15 (by kernel_rfl) hS ?_
  unfold haywainref16_Good.f at H
  refine J.seq (by kernel_rfl) ?_
  refine J.region (by kernel_rfl) ?_
  refine O.e (some 1) (Ev.box (t := 29) (x := .tmp 0) (v := .agg #[.int .i64 a0.f0, .int .i64 a0.f1, .int .i64 a0.f2, .slice h0.1 a0.f3.length h0.2, .bool a0.f4]) (by kernel_rfl) (by kernel_rfl)) (by kernel_rfl) (fun p0_0 => ?_)
  refine O.e (some 2) (Ev.alloc (t := 29) (z := .agg #[.int .i64 0, .int .i64 0, .int .i64 0, .slice none 0 0, .bool false]) (by kernel_rfl) (by kernel_rfl)) (by kernel_rfl) (fun p0_1 => ?_)
  refine O.nil (by kernel_rfl) ?_
  refine J.seq (by kernel_rfl) ?_
  refine J.seq (by kernel_rfl) ?_
  obtain ⟨x1_1, hx1_1, H⟩ := bindE H
  refine J.region (by kernel_rfl) ?_
  refine O.pure 1 [(1, 0)] [1, 2, 3] [p0_0, 0] (fr' := [(1, .pointer (some ⟨p0_0, 0, none⟩)), (2, .pointer (some ⟨p0_1, 0, none⟩)), (3, .agg #[.int .i64 a0.f0, .int .i64 a0.f1, .int .i64 a0.f2, .slice h0.1 a0.f3.length h0.2, .bool a0.f4])]) (bx' := [⟨p0_1, [.int .i64 0, .int .i64 0, .int .i64 0, .slice none 0 0, .bool false], 29⟩, ⟨p0_0, [.int .i64 a0.f0, .int .i64 a0.f1, .int .i64 a0.f2, .slice h0.1 a0.f3.length h0.2, .bool a0.f4], 29⟩]) (by kernel_rfl) ?_
  refine O.e (some 4) (Ev.call0 (xs := [.tmp 3]) [0] (by kernel_rfl) (by kernel_rfl) (fun w hS => haywainref16_Right.con K a0 h0  _ _ w hS hx1_1)) (by kernel_rfl) (fun _ => ?_)
  refine O.nil (by kernel_rfl) ?_
  rcases condE H with ⟨hc1, H⟩ | ⟨hc1, H⟩
  · refine J.condT (x := .tmp 4) (t := x1_1) (by kernel_rfl) (by kernel_rfl) hc1 ?_
    refine J.seq (by kernel_rfl) ?_
    refine J.region (by kernel_rfl) ?_
    refine O.pure 2 [(1, 0), (0, 0)] [2] [p0_0, 0, p0_1, 0] (fr' := [(2, .pointer (some ⟨p0_1, 0, none⟩))]) (bx' := [⟨p0_1, [.int .i64 a0.f0, .int .i64 a0.f1, .int .i64 a0.f2, .slice h0.1 a0.f3.length h0.2, .bool a0.f4], 29⟩, ⟨p0_0, [.int .i64 a0.f0, .int .i64 a0.f1, .int .i64 a0.f2, .slice h0.1 a0.f3.length h0.2, .bool a0.f4], 29⟩]) (by kernel_rfl) ?_
    refine O.nil (by kernel_rfl) ?_
    obtain rfl := Option.some.inj H
    exact J.doneS [(0, 0)] [p0_1, 0] [0] [] [] h0 (vs := [.agg #[.int .i64 a0.f0, .int .i64 a0.f1, .int .i64 a0.f2, .slice h0.1 a0.f3.length h0.2, .bool a0.f4]]) (by kernel_rfl) (by kernel_rfl) (by kernel_rfl) (by kernel_rfl) (by kernel_rfl) (by decide)
  · refine J.condF (x := .tmp 4) (t := x1_1) (by kernel_rfl) (by kernel_rfl) hc1 ?_
    refine J.skip (by kernel_rfl) ?_
    refine J.seq (by kernel_rfl) ?_
    refine J.region (by kernel_rfl) ?_
    refine O.pure 2 [(0, 0)] [2] [p0_1, 0] (fr' := [(2, .pointer (some ⟨p0_1, 0, none⟩))]) (bx' := [⟨p0_1, [.int .i64 1, .int .i64 1, .int .i64 0, .slice none 0 0, .bool false], 29⟩, ⟨p0_0, [.int .i64 a0.f0, .int .i64 a0.f1, .int .i64 a0.f2, .slice h0.1 a0.f3.length h0.2, .bool a0.f4], 29⟩]) (by kernel_rfl) ?_
    refine O.nil (by kernel_rfl) ?_
    obtain rfl := Option.some.inj H
    refine J.nilF kd74 ?_
    exact J.doneS [(0, 0)] [p0_1, 0] [0] [] [] (none, 0) (vs := [.agg #[.int .i64 1, .int .i64 1, .int .i64 0, .slice none 0 0, .bool false]]) (by kernel_rfl) (by kernel_rfl) (by kernel_rfl) (by kernel_rfl) (by kernel_rfl) (by decide)
/-! ### haywain/haywainref16.Send: function 17 -/
def haywainref16_Send.f (K : Nat) (a0 : S29) (a1 : ByteArray) : Option (S29 × Int) := (haywainref16_Good.f K a0).bind fun x1_1 => cond ((x1_1.f3.length : Int) == 200) (some ((x1_1, 3))) (cond (decide (x1_1.f0 ≥ 1099511627776)) (some ((x1_1, 6))) ((appO 24 ([] : List S74) x1_1.f3).bind fun y6_3 => (appO 24 (([] : List S74) ++ x1_1.f3) ([(⟨x1_1.f0, a1⟩ : S74)] : List S74)).bind fun y7_6 => some (((⟨(IntKind.wrap .i64 (x1_1.f0 + 1)), x1_1.f1, 0, ((([] : List S74) ++ x1_1.f3) ++ ([(⟨x1_1.f0, a1⟩ : S74)] : List S74)), x1_1.f4⟩ : S29), 0))))
set_option maxRecDepth 100000 in
set_option maxHeartbeats 1000000 in
theorem haywainref16_Send.con (K : Nat) (a0 : S29) (a1 : ByteArray) (h0 : Hd) (r : (S29 × Int)) (X : Nat → Nat → Prop) (w : World) (hS : St X w [] [] [] [] [Rd kd74 h0.1 h0.2 a0.f3] w) (H : haywainref16_Send.f K a0 a1 = some r) :
    Cn Try.prog 17 [.agg #[.int .i64 a0.f0, .int .i64 a0.f1, .int .i64 a0.f2, .slice h0.1 a0.f3.length h0.2, .bool a0.f4], .string a1] X w [] (fun i : Hd => .tuple #[.agg #[.int .i64 r.1.f0, .int .i64 r.1.f1, .int .i64 r.1.f2, .slice i.1 r.1.f3.length i.2, .bool r.1.f4], .int .i64 r.2]) (fun i => []) (fun i => []) (fun i => [Rd kd74 i.1 i.2 r.1.f3]) := by
  refine Cn.of Try.func17 (by kernel_rfl) hS ?_
  unfold haywainref16_Send.f at H
  refine J.seq (by kernel_rfl) ?_
  refine J.region (by kernel_rfl) ?_
  refine O.e (some 2) (Ev.box (t := 29) (x := .tmp 0) (v := .agg #[.int .i64 a0.f0, .int .i64 a0.f1, .int .i64 a0.f2, .slice h0.1 a0.f3.length h0.2, .bool a0.f4]) (by kernel_rfl) (by kernel_rfl)) (by kernel_rfl) (fun p0_0 => ?_)
  refine O.e (some 4) (Ev.alloc (t := 29) (z := .agg #[.int .i64 0, .int .i64 0, .int .i64 0, .slice none 0 0, .bool false]) (by kernel_rfl) (by kernel_rfl)) (by kernel_rfl) (fun p0_1 => ?_)
  refine O.pure 1 [] [1, 2, 4] [] (fr' := [(1, .string a1), (2, .pointer (some ⟨p0_0, 0, none⟩)), (4, .pointer (some ⟨p0_1, 0, none⟩))]) (bx' := [⟨p0_1, [.int .i64 0, .int .i64 0, .int .i64 0, .slice none 0 0, .bool false], 29⟩, ⟨p0_0, [.int .i64 a0.f0, .int .i64 a0.f1, .int .i64 a0.f2, .slice h0.1 a0.f3.length h0.2, .bool a0.f4], 29⟩]) (by kernel_rfl) ?_
  refine O.nil (by kernel_rfl) ?_
  refine J.seq (by kernel_rfl) ?_
  obtain ⟨x1_1, hx1_1, H⟩ := bindE H
  refine J.region (by kernel_rfl) ?_
  refine O.pure 1 [(1, 0)] [1, 2, 4, 7] [p0_0, 0] (fr' := [(1, .string a1), (2, .pointer (some ⟨p0_0, 0, none⟩)), (4, .pointer (some ⟨p0_1, 0, none⟩)), (7, .agg #[.int .i64 a0.f0, .int .i64 a0.f1, .int .i64 a0.f2, .slice h0.1 a0.f3.length h0.2, .bool a0.f4])]) (bx' := [⟨p0_1, [.int .i64 0, .int .i64 0, .int .i64 0, .slice none 0 0, .bool false], 29⟩, ⟨p0_0, [.int .i64 a0.f0, .int .i64 a0.f1, .int .i64 a0.f2, .slice h0.1 a0.f3.length h0.2, .bool a0.f4], 29⟩]) (by kernel_rfl) ?_
  refine O.e (some 8) (Ev.call0 (xs := [.tmp 7]) [0] (by kernel_rfl) (by kernel_rfl) (fun w hS => haywainref16_Good.con K a0 h0  _ _ w hS hx1_1)) (by kernel_rfl) (fun p1_1 => ?_)
  refine O.pure 1 [(1, 0)] [1, 2, 4] [p0_0, 0] (fr' := [(1, .string a1), (2, .pointer (some ⟨p0_0, 0, none⟩)), (4, .pointer (some ⟨p0_1, 0, none⟩))]) (bx' := [⟨p0_1, [.int .i64 0, .int .i64 0, .int .i64 0, .slice none 0 0, .bool false], 29⟩, ⟨p0_0, [.int .i64 x1_1.f0, .int .i64 x1_1.f1, .int .i64 x1_1.f2, .slice p1_1.1 x1_1.f3.length p1_1.2, .bool x1_1.f4], 29⟩]) (by kernel_rfl) ?_
  refine O.nil (by kernel_rfl) ?_
  refine J.seq (by kernel_rfl) ?_
  refine J.seq (by kernel_rfl) ?_
  refine J.region (by kernel_rfl) ?_
  refine O.pure 4 [(1, 3)] [1, 2, 4, 12] [p0_0, 3] (fr' := [(1, .string a1), (2, .pointer (some ⟨p0_0, 0, none⟩)), (4, .pointer (some ⟨p0_1, 0, none⟩)), (12, .bool ((x1_1.f3.length : Int) == 200))]) (bx' := [⟨p0_1, [.int .i64 0, .int .i64 0, .int .i64 0, .slice none 0 0, .bool false], 29⟩, ⟨p0_0, [.int .i64 x1_1.f0, .int .i64 x1_1.f1, .int .i64 x1_1.f2, .slice p1_1.1 x1_1.f3.length p1_1.2, .bool x1_1.f4], 29⟩]) (by kernel_rfl) ?_
  refine O.nil (by kernel_rfl) ?_
  rcases condE H with ⟨hc1, H⟩ | ⟨hc1, H⟩
  · refine J.condT (x := .tmp 12) (t := ((x1_1.f3.length : Int) == 200)) (by kernel_rfl) (by kernel_rfl) hc1 ?_
    refine J.seq (by kernel_rfl) ?_
    refine J.region (by kernel_rfl) ?_
    refine O.pure 3 [(1, 0), (0, 0)] [4, 5] [p0_0, 0, p0_1, 0] (fr' := [(4, .pointer (some ⟨p0_1, 0, none⟩)), (5, .int .i64 3)]) (bx' := [⟨p0_1, [.int .i64 x1_1.f0, .int .i64 x1_1.f1, .int .i64 x1_1.f2, .slice p1_1.1 x1_1.f3.length p1_1.2, .bool x1_1.f4], 29⟩, ⟨p0_0, [.int .i64 x1_1.f0, .int .i64 x1_1.f1, .int .i64 x1_1.f2, .slice p1_1.1 x1_1.f3.length p1_1.2, .bool x1_1.f4], 29⟩]) (by kernel_rfl) ?_
    refine O.nil (by kernel_rfl) ?_
    obtain rfl := Option.some.inj H
    exact J.doneS [(0, 0)] [p0_1, 0] [0] [] [] p1_1 (vs := [.agg #[.int .i64 x1_1.f0, .int .i64 x1_1.f1, .int .i64 x1_1.f2, .slice p1_1.1 x1_1.f3.length p1_1.2, .bool x1_1.f4], .int .i64 3]) (by kernel_rfl) (by kernel_rfl) (by kernel_rfl) (by kernel_rfl) (by kernel_rfl) (by decide)
  · refine J.condF (x := .tmp 12) (t := ((x1_1.f3.length : Int) == 200)) (by kernel_rfl) (by kernel_rfl) hc1 ?_
    refine J.skip (by kernel_rfl) ?_
    refine J.seq (by kernel_rfl) ?_
    refine J.seq (by kernel_rfl) ?_
    refine J.region (by kernel_rfl) ?_
    refine O.pure 3 [(1, 0)] [1, 2, 4, 16] [p0_0, 0] (fr' := [(1, .string a1), (2, .pointer (some ⟨p0_0, 0, none⟩)), (4, .pointer (some ⟨p0_1, 0, none⟩)), (16, .bool (decide (x1_1.f0 ≥ 1099511627776)))]) (bx' := [⟨p0_1, [.int .i64 0, .int .i64 0, .int .i64 0, .slice none 0 0, .bool false], 29⟩, ⟨p0_0, [.int .i64 x1_1.f0, .int .i64 x1_1.f1, .int .i64 x1_1.f2, .slice p1_1.1 x1_1.f3.length p1_1.2, .bool x1_1.f4], 29⟩]) (by kernel_rfl) ?_
    refine O.nil (by kernel_rfl) ?_
    rcases condE H with ⟨hc2, H⟩ | ⟨hc2, H⟩
    · refine J.condT (x := .tmp 16) (t := (decide (x1_1.f0 ≥ 1099511627776))) (by kernel_rfl) (by kernel_rfl) hc2 ?_
      refine J.seq (by kernel_rfl) ?_
      refine J.region (by kernel_rfl) ?_
      refine O.pure 3 [(1, 0), (0, 0)] [4, 5] [p0_0, 0, p0_1, 0] (fr' := [(4, .pointer (some ⟨p0_1, 0, none⟩)), (5, .int .i64 6)]) (bx' := [⟨p0_1, [.int .i64 x1_1.f0, .int .i64 x1_1.f1, .int .i64 x1_1.f2, .slice p1_1.1 x1_1.f3.length p1_1.2, .bool x1_1.f4], 29⟩, ⟨p0_0, [.int .i64 x1_1.f0, .int .i64 x1_1.f1, .int .i64 x1_1.f2, .slice p1_1.1 x1_1.f3.length p1_1.2, .bool x1_1.f4], 29⟩]) (by kernel_rfl) ?_
      refine O.nil (by kernel_rfl) ?_
      obtain rfl := Option.some.inj H
      exact J.doneS [(0, 0)] [p0_1, 0] [0] [] [] p1_1 (vs := [.agg #[.int .i64 x1_1.f0, .int .i64 x1_1.f1, .int .i64 x1_1.f2, .slice p1_1.1 x1_1.f3.length p1_1.2, .bool x1_1.f4], .int .i64 6]) (by kernel_rfl) (by kernel_rfl) (by kernel_rfl) (by kernel_rfl) (by kernel_rfl) (by decide)
    · refine J.condF (x := .tmp 16) (t := (decide (x1_1.f0 ≥ 1099511627776))) (by kernel_rfl) (by kernel_rfl) hc2 ?_
      refine J.skip (by kernel_rfl) ?_
      refine J.seq (by kernel_rfl) ?_
      obtain ⟨y6_3, hy6_3, H⟩ := bindE H
      have hy6_3a := (appE hy6_3).1
      refine J.region (by kernel_rfl) ?_
      refine O.e (some 18) (Ev.lit (t := 27) (len := 0) (parts := #[]) (ps := []) (cs := []) (e := 74) kd74 ([] : List S74) (by kernel_rfl) (by kernel_rfl) (by kernel_rfl) (by kernel_rfl) (by kernel_rfl) (by decide) (fun w' hφ => (Els.nil _ _ _))) (by kernel_rfl) (fun p6_0 => ?_)
      refine O.pure 2 [(1, 3)] [1, 2, 4, 18, 20] [p0_0, 3] (fr' := [(1, .string a1), (2, .pointer (some ⟨p0_0, 0, none⟩)), (4, .pointer (some ⟨p0_1, 0, none⟩)), (18, .slice ((some ⟨p6_0, 0, none⟩, 0) : Hd).1 ([] : List S74).length ((some ⟨p6_0, 0, none⟩, 0) : Hd).2), (20, .slice p1_1.1 x1_1.f3.length p1_1.2)]) (bx' := [⟨p0_1, [.int .i64 0, .int .i64 0, .int .i64 0, .slice none 0 0, .bool false], 29⟩, ⟨p0_0, [.int .i64 x1_1.f0, .int .i64 x1_1.f1, .int .i64 x1_1.f2, .slice p1_1.1 x1_1.f3.length p1_1.2, .bool x1_1.f4], 29⟩]) (by kernel_rfl) ?_
      refine O.e (some 21) (Ev.appSl (d := kd74) (ys := x1_1.f3) (A := p1_1.1) (c := p1_1.2) (x := .tmp 18) (y := .tmp 20) (t := 27) (bytes := 24) 0 (by kernel_rfl) (by kernel_rfl) (by kernel_rfl) rfl (by kernel_rfl) (by decide) hy6_3a) (by kernel_rfl) (fun p6_3 => ?_)
      refine O.pure 1 [] [1, 2, 4, 6] [] (fr' := [(1, .string a1), (2, .pointer (some ⟨p0_0, 0, none⟩)), (4, .pointer (some ⟨p0_1, 0, none⟩)), (6, .slice p6_3.1 (([] : List S74) ++ x1_1.f3).length p6_3.2)]) (bx' := [⟨p0_1, [.int .i64 0, .int .i64 0, .int .i64 0, .slice none 0 0, .bool false], 29⟩, ⟨p0_0, [.int .i64 x1_1.f0, .int .i64 x1_1.f1, .int .i64 x1_1.f2, .slice p1_1.1 x1_1.f3.length p1_1.2, .bool x1_1.f4], 29⟩]) (by kernel_rfl) ?_
      refine O.nil (by kernel_rfl) ?_
      refine J.seq (by kernel_rfl) ?_
      obtain ⟨y7_6, hy7_6, H⟩ := bindE H
      have hy7_6a := (appE hy7_6).1
      refine J.region (by kernel_rfl) ?_
      refine O.pure 5 [(1, 0)] [2, 4, 6, 22, 26] [p0_0, 0] (fr' := [(2, .pointer (some ⟨p0_0, 0, none⟩)), (4, .pointer (some ⟨p0_1, 0, none⟩)), (6, .slice p6_3.1 (([] : List S74) ++ x1_1.f3).length p6_3.2), (22, .slice p6_3.1 (([] : List S74) ++ x1_1.f3).length p6_3.2), (26, .agg #[.int .i64 x1_1.f0, .string a1])]) (bx' := [⟨p0_1, [.int .i64 0, .int .i64 0, .int .i64 0, .slice none 0 0, .bool false], 29⟩, ⟨p0_0, [.int .i64 x1_1.f0, .int .i64 x1_1.f1, .int .i64 x1_1.f2, .slice p1_1.1 x1_1.f3.length p1_1.2, .bool x1_1.f4], 29⟩]) (by kernel_rfl) ?_
      refine O.e (some 27) (Ev.lit (t := 27) (len := 1) (parts := #[(0, .tmp 26)]) (ps := [(0, .agg #[.int .i64 x1_1.f0, .string a1])]) (cs := [.int .i64 x1_1.f0, .string a1]) (e := 74) kd74 ([(⟨x1_1.f0, a1⟩ : S74)] : List S74) (by kernel_rfl) (by kernel_rfl) (by kernel_rfl) (by kernel_rfl) (by kernel_rfl) (by decide) (fun w' hφ => (Els.cons (c := [.int .i64 x1_1.f0, .string a1]) (rfl) (Els.nil _ _ _)))) (by kernel_rfl) (fun p7_5 => ?_)
      refine O.e (some 28) (Ev.appLit (x := .tmp 22) (y := .tmp 27) (t := 27) (bytes := 24) (by kernel_rfl) (by kernel_rfl) (by kernel_rfl) (by kernel_rfl) (by kernel_rfl) (by decide) hy7_6a) (by kernel_rfl) (fun p7_6 => ?_)
      refine O.pure 1 [] [2, 4, 6] [] (fr' := [(2, .pointer (some ⟨p0_0, 0, none⟩)), (4, .pointer (some ⟨p0_1, 0, none⟩)), (6, .slice p7_6.1 ((([] : List S74) ++ x1_1.f3) ++ ([(⟨x1_1.f0, a1⟩ : S74)] : List S74)).length p7_6.2)]) (bx' := [⟨p0_1, [.int .i64 0, .int .i64 0, .int .i64 0, .slice none 0 0, .bool false], 29⟩, ⟨p0_0, [.int .i64 x1_1.f0, .int .i64 x1_1.f1, .int .i64 x1_1.f2, .slice p1_1.1 x1_1.f3.length p1_1.2, .bool x1_1.f4], 29⟩]) (by kernel_rfl) ?_
      refine O.nil (by kernel_rfl) ?_
      refine J.seq (by kernel_rfl) ?_
      refine J.region (by kernel_rfl) ?_
      refine O.pure 11 [(1, 0), (1, 1), (1, 4), (0, 0)] [4, 5] [p0_0, 0, p0_0, 1, p0_0, 4, p0_1, 0] (fr' := [(4, .pointer (some ⟨p0_1, 0, none⟩)), (5, .int .i64 0)]) (bx' := [⟨p0_1, [.int .i64 (IntKind.wrap .i64 (x1_1.f0 + 1)), .int .i64 x1_1.f1, .int .i64 0, .slice p7_6.1 ((([] : List S74) ++ x1_1.f3) ++ ([(⟨x1_1.f0, a1⟩ : S74)] : List S74)).length p7_6.2, .bool x1_1.f4], 29⟩, ⟨p0_0, [.int .i64 x1_1.f0, .int .i64 x1_1.f1, .int .i64 x1_1.f2, .slice p1_1.1 x1_1.f3.length p1_1.2, .bool x1_1.f4], 29⟩]) (by kernel_rfl) ?_
      refine O.nil (by kernel_rfl) ?_
      obtain rfl := Option.some.inj H
      refine J.mono (fun w hS => hS.freezeH (h := p7_6) (xs := ((([] : List S74) ++ x1_1.f3) ++ ([(⟨x1_1.f0, a1⟩ : S74)] : List S74)))) ?_
      exact J.doneS [(0, 0)] [p0_1, 0] [0] [] [] p7_6 (vs := [.agg #[.int .i64 (IntKind.wrap .i64 (x1_1.f0 + 1)), .int .i64 x1_1.f1, .int .i64 0, .slice p7_6.1 ((([] : List S74) ++ x1_1.f3) ++ ([(⟨x1_1.f0, a1⟩ : S74)] : List S74)).length p7_6.2, .bool x1_1.f4], .int .i64 0]) (by kernel_rfl) (by kernel_rfl) (by kernel_rfl) (by kernel_rfl) (by kernel_rfl) (by decide)
/-! ### haywain/haywainref16.Tick: function 19 -/
def haywainref16_Tick.l10 (K : Nat) (x1_1 : S29) : Nat → ((List S56) × Int) → Option (List S56)
  | 0, _ => none
  | k + 1, s10 => cond (decide (s10.2 < (x1_1.f3.length : Int))) (cond (decide (s10.2 < 8)) ((idxO x1_1.f3 s10.2).bind fun x7_4 => (idxO x1_1.f3 s10.2).bind fun x7_13 => (appO 32 s10.1 ([(⟨x7_4.f0, (IntKind.wrap .i64 (x1_1.f1 - 1)), x7_13.f1⟩ : S56)] : List S56)).bind fun y7_18 => haywainref16_Tick.l10 K x1_1 k ((s10.1 ++ ([(⟨x7_4.f0, (IntKind.wrap .i64 (x1_1.f1 - 1)), x7_13.f1⟩ : S56)] : List S56)), (IntKind.wrap .i64 (s10.2 + 1)))) (some (s10.1))) (some (s10.1))
def haywainref16_Tick.f (K : Nat) (a0 : S29) : Option (S29 × (List S56)) := (haywainref16_Good.f K a0).bind fun x1_1 => cond (decide ((x1_1.f3.length : Int) > 0)) (cond (x1_1.f2 == 0) ((haywainref16_Tick.l10 K x1_1 K (([] : List S56), 0) : Option (List S56)).bind fun o3 : (List S56) => some (((⟨x1_1.f0, x1_1.f1, 3, x1_1.f3, false⟩ : S29), o3))) ((cond (decide (x1_1.f2 > 0)) (some ((IntKind.wrap .i64 (x1_1.f2 - 1)))) (some (x1_1.f2)) : Option Int).bind fun o16 : Int => cond x1_1.f4 ((appO 32 ([] : List S56) ([(⟨0, (IntKind.wrap .i64 (x1_1.f1 - 1)), (⟨#[]⟩ : ByteArray)⟩ : S56)] : List S56)).bind fun y14_6 => some (((⟨x1_1.f0, x1_1.f1, o16, x1_1.f3, false⟩ : S29), (([] : List S56) ++ ([(⟨0, (IntKind.wrap .i64 (x1_1.f1 - 1)), (⟨#[]⟩ : ByteArray)⟩ : S56)] : List S56))))) (some (((⟨x1_1.f0, x1_1.f1, o16, x1_1.f3, x1_1.f4⟩ : S29), ([] : List S56)))))) ((cond (decide (x1_1.f2 > 0)) (some ((IntKind.wrap .i64 (x1_1.f2 - 1)))) (some (x1_1.f2)) : Option Int).bind fun o20 : Int => cond x1_1.f4 ((appO 32 ([] : List S56) ([(⟨0, (IntKind.wrap .i64 (x1_1.f1 - 1)), (⟨#[]⟩ : ByteArray)⟩ : S56)] : List S56)).bind fun y14_6 => some (((⟨x1_1.f0, x1_1.f1, o20, x1_1.f3, false⟩ : S29), (([] : List S56) ++ ([(⟨0, (IntKind.wrap .i64 (x1_1.f1 - 1)), (⟨#[]⟩ : ByteArray)⟩ : S56)] : List S56))))) (some (((⟨x1_1.f0, x1_1.f1, o20, x1_1.f3, x1_1.f4⟩ : S29), ([] : List S56)))))
set_option maxRecDepth 100000 in
set_option maxHeartbeats 1000000 in
theorem haywainref16_Tick.con (K : Nat) (a0 : S29) (h0 : Hd) (r : (S29 × (List S56))) (X : Nat → Nat → Prop) (w : World) (hS : St X w [] [] [] [] [Rd kd74 h0.1 h0.2 a0.f3] w) (H : haywainref16_Tick.f K a0 = some r) :
    Cn Try.prog 19 [.agg #[.int .i64 a0.f0, .int .i64 a0.f1, .int .i64 a0.f2, .slice h0.1 a0.f3.length h0.2, .bool a0.f4]] X w [] (fun i : Hd × Hd => .tuple #[.agg #[.int .i64 r.1.f0, .int .i64 r.1.f1, .int .i64 r.1.f2, .slice i.1.1 r.1.f3.length i.1.2, .bool r.1.f4], .slice i.2.1 r.2.length i.2.2]) (fun i => []) (fun i => [mkRow kd56 56 (.slice i.2.1 r.2.length i.2.2) r.2]) (fun i => [Rd kd74 i.1.1 i.1.2 r.1.f3]) := by
  refine Cn.of Try.func19 (by kernel_rfl) hS ?_
  unfold haywainref16_Tick.f at H
  refine J.seq (by kernel_rfl) ?_
  refine J.region (by kernel_rfl) ?_
  refine O.e (some 1) (Ev.box (t := 29) (x := .tmp 0) (v := .agg #[.int .i64 a0.f0, .int .i64 a0.f1, .int .i64 a0.f2, .slice h0.1 a0.f3.length h0.2, .bool a0.f4]) (by kernel_rfl) (by kernel_rfl)) (by kernel_rfl) (fun p0_0 => ?_)
  refine O.e (some 2) (Ev.alloc (t := 29) (z := .agg #[.int .i64 0, .int .i64 0, .int .i64 0, .slice none 0 0, .bool false]) (by kernel_rfl) (by kernel_rfl)) (by kernel_rfl) (fun p0_1 => ?_)
  refine O.pure 1 [] [1, 2] [] (fr' := [(1, .pointer (some ⟨p0_0, 0, none⟩)), (2, .pointer (some ⟨p0_1, 0, none⟩))]) (bx' := [⟨p0_1, [.int .i64 0, .int .i64 0, .int .i64 0, .slice none 0 0, .bool false], 29⟩, ⟨p0_0, [.int .i64 a0.f0, .int .i64 a0.f1, .int .i64 a0.f2, .slice h0.1 a0.f3.length h0.2, .bool a0.f4], 29⟩]) (by kernel_rfl) ?_
  refine O.nil (by kernel_rfl) ?_
  refine J.seq (by kernel_rfl) ?_
  obtain ⟨x1_1, hx1_1, H⟩ := bindE H
  refine J.region (by kernel_rfl) ?_
  refine O.pure 1 [(1, 0)] [1, 2, 6] [p0_0, 0] (fr' := [(1, .pointer (some ⟨p0_0, 0, none⟩)), (2, .pointer (some ⟨p0_1, 0, none⟩)), (6, .agg #[.int .i64 a0.f0, .int .i64 a0.f1, .int .i64 a0.f2, .slice h0.1 a0.f3.length h0.2, .bool a0.f4])]) (bx' := [⟨p0_1, [.int .i64 0, .int .i64 0, .int .i64 0, .slice none 0 0, .bool false], 29⟩, ⟨p0_0, [.int .i64 a0.f0, .int .i64 a0.f1, .int .i64 a0.f2, .slice h0.1 a0.f3.length h0.2, .bool a0.f4], 29⟩]) (by kernel_rfl) ?_
  refine O.e (some 7) (Ev.call0 (xs := [.tmp 6]) [0] (by kernel_rfl) (by kernel_rfl) (fun w hS => haywainref16_Good.con K a0 h0  _ _ w hS hx1_1)) (by kernel_rfl) (fun p1_1 => ?_)
  refine O.pure 1 [(1, 0)] [1, 2] [p0_0, 0] (fr' := [(1, .pointer (some ⟨p0_0, 0, none⟩)), (2, .pointer (some ⟨p0_1, 0, none⟩))]) (bx' := [⟨p0_1, [.int .i64 0, .int .i64 0, .int .i64 0, .slice none 0 0, .bool false], 29⟩, ⟨p0_0, [.int .i64 x1_1.f0, .int .i64 x1_1.f1, .int .i64 x1_1.f2, .slice p1_1.1 x1_1.f3.length p1_1.2, .bool x1_1.f4], 29⟩]) (by kernel_rfl) ?_
  refine O.nil (by kernel_rfl) ?_
  refine J.seq (by kernel_rfl) ?_
  refine J.region (by kernel_rfl) ?_
  refine O.pure 1 [] [1, 2, 4] [] (fr' := [(1, .pointer (some ⟨p0_0, 0, none⟩)), (2, .pointer (some ⟨p0_1, 0, none⟩)), (4, .slice none 0 0)]) (bx' := [⟨p0_1, [.int .i64 0, .int .i64 0, .int .i64 0, .slice none 0 0, .bool false], 29⟩, ⟨p0_0, [.int .i64 x1_1.f0, .int .i64 x1_1.f1, .int .i64 x1_1.f2, .slice p1_1.1 x1_1.f3.length p1_1.2, .bool x1_1.f4], 29⟩]) (by kernel_rfl) ?_
  refine O.nil (by kernel_rfl) ?_
  refine J.seq (by kernel_rfl) ?_
  refine J.seq (by kernel_rfl) ?_
  rcases condE H with ⟨hc1, H⟩ | ⟨hc1, H⟩
  · refine J.region (by kernel_rfl) ?_
    refine O.pure 3 [(1, 3)] [1, 2, 4, 10] [p0_0, 3] (fr' := [(1, .pointer (some ⟨p0_0, 0, none⟩)), (2, .pointer (some ⟨p0_1, 0, none⟩)), (4, .slice none 0 0), (10, .int .i64 (x1_1.f3.length : Int))]) (bx' := [⟨p0_1, [.int .i64 0, .int .i64 0, .int .i64 0, .slice none 0 0, .bool false], 29⟩, ⟨p0_0, [.int .i64 x1_1.f0, .int .i64 x1_1.f1, .int .i64 x1_1.f2, .slice p1_1.1 x1_1.f3.length p1_1.2, .bool x1_1.f4], 29⟩]) (by kernel_rfl) ?_
    refine O.q (v := .bool true) (some 11) (Qu.eqv (u := .bool (decide ((x1_1.f3.length : Int) > 0))) (v := .bool true) (0, 0) [] (by kernel_rfl) (congrArg Value.bool hc1)) (by kernel_rfl) ?_
    refine O.pure 5 [(1, 2)] [1, 2, 4, 16] [p0_0, 2] (fr' := [(1, .pointer (some ⟨p0_0, 0, none⟩)), (2, .pointer (some ⟨p0_1, 0, none⟩)), (4, .slice none 0 0), (16, .bool (x1_1.f2 == 0))]) (bx' := [⟨p0_1, [.int .i64 0, .int .i64 0, .int .i64 0, .slice none 0 0, .bool false], 29⟩, ⟨p0_0, [.int .i64 x1_1.f0, .int .i64 x1_1.f1, .int .i64 x1_1.f2, .slice p1_1.1 x1_1.f3.length p1_1.2, .bool x1_1.f4], 29⟩]) (by kernel_rfl) ?_
    refine O.nil (by kernel_rfl) ?_
    rcases condE H with ⟨hc2, H⟩ | ⟨hc2, H⟩
    · refine J.condT (x := .tmp 16) (t := (x1_1.f2 == 0)) (by kernel_rfl) (by kernel_rfl) hc2 ?_
      refine J.seq (by kernel_rfl) ?_
      refine J.seq (by kernel_rfl) ?_
      refine J.region (by kernel_rfl) ?_
      refine O.pure 1 [] [1, 2, 4, 5] [] (fr' := [(1, .pointer (some ⟨p0_0, 0, none⟩)), (2, .pointer (some ⟨p0_1, 0, none⟩)), (4, .slice none 0 0), (5, .int .i64 0)]) (bx' := [⟨p0_1, [.int .i64 0, .int .i64 0, .int .i64 0, .slice none 0 0, .bool false], 29⟩, ⟨p0_0, [.int .i64 x1_1.f0, .int .i64 x1_1.f1, .int .i64 x1_1.f2, .slice p1_1.1 x1_1.f3.length p1_1.2, .bool x1_1.f4], 29⟩]) (by kernel_rfl) ?_
      refine O.nil (by kernel_rfl) ?_
      refine J.join (α := (List S56)) (γ := Hd) (fun o3 q3 => [(1, .pointer (some ⟨p0_0, 0, none⟩)), (2, .pointer (some ⟨p0_1, 0, none⟩)), (4, .slice q3.1 o3.length q3.2)]) (fun o3 q3 => St X w [] [⟨p0_1, [.int .i64 0, .int .i64 0, .int .i64 0, .slice none 0 0, .bool false], 29⟩, ⟨p0_0, [.int .i64 x1_1.f0, .int .i64 x1_1.f1, .int .i64 x1_1.f2, .slice p1_1.1 x1_1.f3.length p1_1.2, .bool x1_1.f4], 29⟩] [mkRow kd56 56 (.slice q3.1 o3.length q3.2) o3] [] [Rd kd74 p1_1.1 p1_1.2 x1_1.f3, Rd kd74 h0.1 h0.2 a0.f3]) H (fun o3 q3 H => ?_) (fun o3 H hj3 => ?_)
      · refine J.seq (by kernel_rfl) ?_
        refine J.region (by kernel_rfl) ?_
        refine O.pure 2 [(1, 2)] [1, 2, 4] [p0_0, 2] (fr' := [(1, .pointer (some ⟨p0_0, 0, none⟩)), (2, .pointer (some ⟨p0_1, 0, none⟩)), (4, .slice q3.1 o3.length q3.2)]) (bx' := [⟨p0_1, [.int .i64 0, .int .i64 0, .int .i64 0, .slice none 0 0, .bool false], 29⟩, ⟨p0_0, [.int .i64 x1_1.f0, .int .i64 x1_1.f1, .int .i64 3, .slice p1_1.1 x1_1.f3.length p1_1.2, .bool x1_1.f4], 29⟩]) (by kernel_rfl) ?_
        refine O.nil (by kernel_rfl) ?_
        refine J.seq (by kernel_rfl) ?_
        refine J.region (by kernel_rfl) ?_
        refine O.pure 2 [(1, 4)] [1, 2, 4] [p0_0, 4] (fr' := [(1, .pointer (some ⟨p0_0, 0, none⟩)), (2, .pointer (some ⟨p0_1, 0, none⟩)), (4, .slice q3.1 o3.length q3.2)]) (bx' := [⟨p0_1, [.int .i64 0, .int .i64 0, .int .i64 0, .slice none 0 0, .bool false], 29⟩, ⟨p0_0, [.int .i64 x1_1.f0, .int .i64 x1_1.f1, .int .i64 3, .slice p1_1.1 x1_1.f3.length p1_1.2, .bool false], 29⟩]) (by kernel_rfl) ?_
        refine O.nil (by kernel_rfl) ?_
        refine J.seq (by kernel_rfl) ?_
        refine J.region (by kernel_rfl) ?_
        refine O.pure 4 [(1, 0), (0, 0)] [2, 3] [p0_0, 0, p0_1, 0] (fr' := [(2, .pointer (some ⟨p0_1, 0, none⟩)), (3, .slice q3.1 o3.length q3.2)]) (bx' := [⟨p0_1, [.int .i64 x1_1.f0, .int .i64 x1_1.f1, .int .i64 3, .slice p1_1.1 x1_1.f3.length p1_1.2, .bool false], 29⟩, ⟨p0_0, [.int .i64 x1_1.f0, .int .i64 x1_1.f1, .int .i64 3, .slice p1_1.1 x1_1.f3.length p1_1.2, .bool false], 29⟩]) (by kernel_rfl) ?_
        refine O.nil (by kernel_rfl) ?_
        obtain rfl := Option.some.inj H
        exact J.doneS [(0, 0)] [p0_1, 0] [0] [] [0] (p1_1, q3) (vs := [.agg #[.int .i64 x1_1.f0, .int .i64 x1_1.f1, .int .i64 3, .slice p1_1.1 x1_1.f3.length p1_1.2, .bool false], .slice q3.1 o3.length q3.2]) (by kernel_rfl) (by kernel_rfl) (by kernel_rfl) (by kernel_rfl) (by kernel_rfl) (by decide)
      · refine J.block (id := 0) (by kernel_rfl) ?_
        refine J.loopI (σ := (List S56) × Int) (γ := Hd) (f := fun m_ s_ => haywainref16_Tick.l10 K x1_1 m_ s_) (fun s10 g10 => [(1, .pointer (some ⟨p0_0, 0, none⟩)), (2, .pointer (some ⟨p0_1, 0, none⟩)), (4, .slice g10.1 s10.1.length g10.2), (5, .int .i64 s10.2)]) (fun s10 g10 => St X w [] [⟨p0_1, [.int .i64 0, .int .i64 0, .int .i64 0, .slice none 0 0, .bool false], 29⟩, ⟨p0_0, [.int .i64 x1_1.f0, .int .i64 x1_1.f1, .int .i64 x1_1.f2, .slice p1_1.1 x1_1.f3.length p1_1.2, .bool x1_1.f4], 29⟩] [mkRow kd56 56 (.slice g10.1 s10.1.length g10.2) s10.1] [] [Rd kd74 p1_1.1 p1_1.2 x1_1.f3, Rd kd74 h0.1 h0.2 a0.f3]) K (([] : List S56), 0) (none, 0) (by kernel_rfl) H (fun _ => rfl) (fun m_ s10 H ih10 g10 => ?_) (fun h_ => ?_)
        · unfold haywainref16_Tick.l10 at H
          refine J.seq (by kernel_rfl) ?_
          refine J.seq (by kernel_rfl) ?_
          rcases condE H with ⟨hc14, H⟩ | ⟨hc14, H⟩
          · refine J.region (by kernel_rfl) ?_
            refine O.pure 4 [(1, 3)] [1, 2, 4, 5, 17, 20] [p0_0, 3] (fr' := [(1, .pointer (some ⟨p0_0, 0, none⟩)), (2, .pointer (some ⟨p0_1, 0, none⟩)), (4, .slice g10.1 s10.1.length g10.2), (5, .int .i64 s10.2), (17, .int .i64 s10.2), (20, .int .i64 (x1_1.f3.length : Int))]) (bx' := [⟨p0_1, [.int .i64 0, .int .i64 0, .int .i64 0, .slice none 0 0, .bool false], 29⟩, ⟨p0_0, [.int .i64 x1_1.f0, .int .i64 x1_1.f1, .int .i64 x1_1.f2, .slice p1_1.1 x1_1.f3.length p1_1.2, .bool x1_1.f4], 29⟩]) (by kernel_rfl) ?_
            refine O.q (v := .bool true) (some 21) (Qu.eqv (u := .bool (decide (s10.2 < (x1_1.f3.length : Int)))) (v := .bool true) (0, 0) [] (by kernel_rfl) (congrArg Value.bool hc14)) (by kernel_rfl) ?_
            refine O.pure 4 [] [1, 2, 4, 5, 23, 24, 25] [] (fr' := [(1, .pointer (some ⟨p0_0, 0, none⟩)), (2, .pointer (some ⟨p0_1, 0, none⟩)), (4, .slice g10.1 s10.1.length g10.2), (5, .int .i64 s10.2), (23, .int .i64 s10.2), (24, .bool (decide (s10.2 < 8))), (25, .bool (decide (s10.2 < 8)))]) (bx' := [⟨p0_1, [.int .i64 0, .int .i64 0, .int .i64 0, .slice none 0 0, .bool false], 29⟩, ⟨p0_0, [.int .i64 x1_1.f0, .int .i64 x1_1.f1, .int .i64 x1_1.f2, .slice p1_1.1 x1_1.f3.length p1_1.2, .bool x1_1.f4], 29⟩]) (by kernel_rfl) ?_
            refine O.nil (by kernel_rfl) ?_
            rcases condE H with ⟨hc15, H⟩ | ⟨hc15, H⟩
            · refine J.condT (x := .tmp 25) (t := (decide (s10.2 < 8))) (by kernel_rfl) (by kernel_rfl) hc15 ?_
              refine J.skip (by kernel_rfl) ?_
              refine J.seq (by kernel_rfl) ?_
              refine J.block (id := 1) (by kernel_rfl) ?_
              obtain ⟨x7_4, hx7_4, H⟩ := bindE H
              obtain ⟨hx7_4a, hx7_4⟩ := idxE hx7_4
              obtain ⟨x7_13, hx7_13, H⟩ := bindE H
              obtain ⟨hx7_13a, hx7_13⟩ := idxE hx7_13
              obtain ⟨y7_18, hy7_18, H⟩ := bindE H
              have hy7_18a := (appE hy7_18).1
              refine J.open (d := kd74) (h := p1_1) (i := s10.2) 0 rfl hx7_4 (op74 _) (fun p7_4 hp7_4A => ?_)
              refine J.open (d := kd74) (h := p1_1) (i := s10.2) 0 rfl hx7_13 (op74 _) (fun p7_13 hp7_13A => ?_)
              refine J.drawS (by kernel_rfl) [(0, some 28, .slice g10.1 s10.1.length g10.2), (1, some 29, .pointer (some ⟨p0_0, 3, none⟩)), (2, some 30, .slice p1_1.1 x1_1.f3.length p1_1.2), (3, some 31, .int .i64 s10.2), (5, some 33, .pointer (some ⟨p7_4.1, p7_4.2.1 + s10.2.toNat * 2, none⟩)), (6, some 34, .int .i64 x7_4.f0), (7, some 35, .pointer (some ⟨p0_0, 1, none⟩)), (8, some 36, .int .i64 x1_1.f1), (9, some 37, .int .i64 (IntKind.wrap .i64 (x1_1.f1 - 1))), (10, some 38, .pointer (some ⟨p0_0, 3, none⟩)), (11, some 39, .slice p1_1.1 x1_1.f3.length p1_1.2), (12, some 40, .int .i64 s10.2), (14, some 42, .pointer (some ⟨p7_13.1, p7_13.2.1 + s10.2.toNat * 2 + 1, none⟩)), (15, some 43, .string x7_13.f1), (16, some 44, .agg #[.int .i64 x7_4.f0, .int .i64 (IntKind.wrap .i64 (x1_1.f1 - 1)), .string x7_13.f1]), (4, some 32, .pointer (some ⟨p7_4.1, p7_4.2.1 + s10.2.toNat * 2, none⟩)), (13, some 41, .pointer (some ⟨p7_13.1, p7_13.2.1 + s10.2.toNat * 2, none⟩))] ([0, 1, 2, 3, 5, 6, 7, 8, 9, 10, 11, 12, 14, 15, 16] ++ [4, 13]) (by kernel_rfl) ?_
              refine D.mid (cs := [17]) [0, 1, 2, 3, 5, 6, 7, 8, 9, 10, 11, 12, 14, 15, 16] [4, 13] [(1, 3), (3, 0), (1, 1), (1, 3), (2, 1)] [p0_0, 3, p7_4.1, p7_4.2.1 + s10.2.toNat * 2, p0_0, 1, p0_0, 3, p7_13.1, p7_13.2.1 + s10.2.toNat * 2 + 1] (by kernel_rfl) (by kernel_rfl) (⟨QuAt.mk (v := .pointer (some ⟨p7_4.1, p7_4.2.1 + s10.2.toNat * 2, none⟩)) (some 32) (by kernel_rfl) (by kernel_rfl) (Qu.idx (t := 27) (x := .tmp 30) (y := .tmp 31) (c := p1_1.2) (kk := .i64) (sz := 2) (by kernel_rfl) (by kernel_rfl) (by kernel_rfl) (by kernel_rfl) hx7_4a (idx_lt hx7_4) hp7_4A), QuAt.mk (v := .pointer (some ⟨p7_13.1, p7_13.2.1 + s10.2.toNat * 2, none⟩)) (some 41) (by kernel_rfl) (by kernel_rfl) (Qu.idx (t := 27) (x := .tmp 39) (y := .tmp 40) (c := p1_1.2) (kk := .i64) (sz := 2) (by kernel_rfl) (by kernel_rfl) (by kernel_rfl) (by kernel_rfl) hx7_13a (idx_lt hx7_13) hp7_13A), trivial⟩) (by kernel_rfl) ⟨?_, trivial⟩
              refine EvStep.mk (some 45) (new := fun p7_17 => []) ([0, 1, 2, 3, 5, 6, 7, 8, 9, 10, 11, 12, 14, 15] ++ [4, 13]) (by kernel_rfl) (Ev.lit (t := 48) (len := 1) (parts := #[(0, .tmp 44)]) (ps := [(0, .agg #[.int .i64 x7_4.f0, .int .i64 (IntKind.wrap .i64 (x1_1.f1 - 1)), .string x7_13.f1])]) (cs := [.int .i64 x7_4.f0, .int .i64 (IntKind.wrap .i64 (x1_1.f1 - 1)), .string x7_13.f1]) (e := 56) kd56 ([(⟨x7_4.f0, (IntKind.wrap .i64 (x1_1.f1 - 1)), x7_13.f1⟩ : S56)] : List S56) (by kernel_rfl) (by kernel_rfl) (by kernel_rfl) (by kernel_rfl) (by kernel_rfl) (by decide) (fun w' hφ => (Els.cons (c := [.int .i64 x7_4.f0, .int .i64 (IntKind.wrap .i64 (x1_1.f1 - 1)), .string x7_13.f1]) (rfl) (Els.nil _ _ _)))) (fun p7_17 => by kernel_rfl) (fun p7_17 => ?_)
              refine D.mid (cs := [18]) [0, 1, 2, 3, 5, 6, 7, 8, 9, 10, 11, 12, 14, 15] [4, 13] [(1, 3), (3, 0), (1, 1), (1, 3), (2, 1)] [p0_0, 3, p7_4.1, p7_4.2.1 + s10.2.toNat * 2, p0_0, 1, p0_0, 3, p7_13.1, p7_13.2.1 + s10.2.toNat * 2 + 1] (by kernel_rfl) (by kernel_rfl) (⟨QuAt.mk (v := .pointer (some ⟨p7_4.1, p7_4.2.1 + s10.2.toNat * 2, none⟩)) (some 32) (by kernel_rfl) (by kernel_rfl) (Qu.idx (t := 27) (x := .tmp 30) (y := .tmp 31) (c := p1_1.2) (kk := .i64) (sz := 2) (by kernel_rfl) (by kernel_rfl) (by kernel_rfl) (by kernel_rfl) hx7_4a (idx_lt hx7_4) hp7_4A), QuAt.mk (v := .pointer (some ⟨p7_13.1, p7_13.2.1 + s10.2.toNat * 2, none⟩)) (some 41) (by kernel_rfl) (by kernel_rfl) (Qu.idx (t := 27) (x := .tmp 39) (y := .tmp 40) (c := p1_1.2) (kk := .i64) (sz := 2) (by kernel_rfl) (by kernel_rfl) (by kernel_rfl) (by kernel_rfl) hx7_13a (idx_lt hx7_13) hp7_13A), trivial⟩) (by kernel_rfl) ⟨?_, trivial⟩
              refine EvStep.mk (some 46) (new := fun p7_18 => [(19, some 4, .slice p7_18.1 (s10.1 ++ ([(⟨x7_4.f0, (IntKind.wrap .i64 (x1_1.f1 - 1)), x7_13.f1⟩ : S56)] : List S56)).length p7_18.2)]) ([1, 2, 3, 5, 6, 7, 8, 9, 10, 11, 12, 14, 15, 19] ++ [4, 13]) (by kernel_rfl) (Ev.appLit (x := .tmp 28) (y := .tmp 45) (t := 48) (bytes := 32) (by kernel_rfl) (by kernel_rfl) (by kernel_rfl) (by kernel_rfl) (by kernel_rfl) (by decide) hy7_18a) (fun p7_18 => by kernel_rfl) (fun p7_18 => ?_)
              refine D.fin (fr' := [(1, .pointer (some ⟨p0_0, 0, none⟩)), (2, .pointer (some ⟨p0_1, 0, none⟩)), (4, .slice p7_18.1 (s10.1 ++ ([(⟨x7_4.f0, (IntKind.wrap .i64 (x1_1.f1 - 1)), x7_13.f1⟩ : S56)] : List S56)).length p7_18.2), (5, .int .i64 s10.2), (23, .int .i64 s10.2), (24, .bool (decide (s10.2 < 8)))]) [1, 2, 3, 5, 6, 7, 8, 9, 10, 11, 12, 14, 15, 19] [4, 13] [(1, 3), (3, 0), (1, 1), (1, 3), (2, 1)] [p0_0, 3, p7_4.1, p7_4.2.1 + s10.2.toNat * 2, p0_0, 1, p0_0, 3, p7_13.1, p7_13.2.1 + s10.2.toNat * 2 + 1] [1, 2, 4, 5, 23, 24] (by kernel_rfl) (by kernel_rfl) (⟨QuAt.mk (v := .pointer (some ⟨p7_4.1, p7_4.2.1 + s10.2.toNat * 2, none⟩)) (some 32) (by kernel_rfl) (by kernel_rfl) (Qu.idx (t := 27) (x := .tmp 30) (y := .tmp 31) (c := p1_1.2) (kk := .i64) (sz := 2) (by kernel_rfl) (by kernel_rfl) (by kernel_rfl) (by kernel_rfl) hx7_4a (idx_lt hx7_4) hp7_4A), QuAt.mk (v := .pointer (some ⟨p7_13.1, p7_13.2.1 + s10.2.toNat * 2, none⟩)) (some 41) (by kernel_rfl) (by kernel_rfl) (Qu.idx (t := 27) (x := .tmp 39) (y := .tmp 40) (c := p1_1.2) (kk := .i64) (sz := 2) (by kernel_rfl) (by kernel_rfl) (by kernel_rfl) (by kernel_rfl) hx7_13a (idx_lt hx7_13) hp7_13A), trivial⟩) (by kernel_rfl) ?_
              refine J.out ?_
              refine J.region (by kernel_rfl) ?_
              refine O.pure 3 [] [1, 2, 4, 5, 23, 24] [] (fr' := [(1, .pointer (some ⟨p0_0, 0, none⟩)), (2, .pointer (some ⟨p0_1, 0, none⟩)), (4, .slice p7_18.1 (s10.1 ++ ([(⟨x7_4.f0, (IntKind.wrap .i64 (x1_1.f1 - 1)), x7_13.f1⟩ : S56)] : List S56)).length p7_18.2), (5, .int .i64 (IntKind.wrap .i64 (s10.2 + 1))), (23, .int .i64 s10.2), (24, .bool (decide (s10.2 < 8)))]) (bx' := [⟨p0_1, [.int .i64 0, .int .i64 0, .int .i64 0, .slice none 0 0, .bool false], 29⟩, ⟨p0_0, [.int .i64 x1_1.f0, .int .i64 x1_1.f1, .int .i64 x1_1.f2, .slice p1_1.1 x1_1.f3.length p1_1.2, .bool x1_1.f4], 29⟩]) (by kernel_rfl) ?_
              refine O.nil (by kernel_rfl) ?_
              exact J.conv2 [1, 2, 4, 5] [0, 1] [0, 1] [0] (by kernel_rfl) (by kernel_rfl) (by kernel_rfl) (by kernel_rfl) (by decide) (ih10 ((s10.1 ++ ([(⟨x7_4.f0, (IntKind.wrap .i64 (x1_1.f1 - 1)), x7_13.f1⟩ : S56)] : List S56)), (IntKind.wrap .i64 (s10.2 + 1))) p7_18 H)
            · refine J.condF (x := .tmp 25) (t := (decide (s10.2 < 8))) (by kernel_rfl) (by kernel_rfl) hc15 ?_
              refine J.exit (id := 0) (by kernel_rfl) rfl ?_
              obtain rfl := Option.some.inj H
              exact J.conv2 [1, 2, 4] [0, 1] [0, 1] [0] (by kernel_rfl) (by kernel_rfl) (by kernel_rfl) (by kernel_rfl) (by decide) (hj3 g10)
          · refine J.region (by kernel_rfl) ?_
            refine O.pure 4 [(1, 3)] [1, 2, 4, 5, 17, 20] [p0_0, 3] (fr' := [(1, .pointer (some ⟨p0_0, 0, none⟩)), (2, .pointer (some ⟨p0_1, 0, none⟩)), (4, .slice g10.1 s10.1.length g10.2), (5, .int .i64 s10.2), (17, .int .i64 s10.2), (20, .int .i64 (x1_1.f3.length : Int))]) (bx' := [⟨p0_1, [.int .i64 0, .int .i64 0, .int .i64 0, .slice none 0 0, .bool false], 29⟩, ⟨p0_0, [.int .i64 x1_1.f0, .int .i64 x1_1.f1, .int .i64 x1_1.f2, .slice p1_1.1 x1_1.f3.length p1_1.2, .bool x1_1.f4], 29⟩]) (by kernel_rfl) ?_
            refine O.q (v := .bool false) (some 21) (Qu.eqv (u := .bool (decide (s10.2 < (x1_1.f3.length : Int)))) (v := .bool false) (0, 0) [] (by kernel_rfl) (congrArg Value.bool hc14)) (by kernel_rfl) ?_
            refine O.pure 4 [] [1, 2, 4, 5, 23, 24, 25] [] (fr' := [(1, .pointer (some ⟨p0_0, 0, none⟩)), (2, .pointer (some ⟨p0_1, 0, none⟩)), (4, .slice g10.1 s10.1.length g10.2), (5, .int .i64 s10.2), (23, undef), (24, undef), (25, .bool false)]) (bx' := [⟨p0_1, [.int .i64 0, .int .i64 0, .int .i64 0, .slice none 0 0, .bool false], 29⟩, ⟨p0_0, [.int .i64 x1_1.f0, .int .i64 x1_1.f1, .int .i64 x1_1.f2, .slice p1_1.1 x1_1.f3.length p1_1.2, .bool x1_1.f4], 29⟩]) (by kernel_rfl) ?_
            refine O.nil (by kernel_rfl) ?_
            refine J.cond (o := .tmp 25) false (by kernel_rfl) (by kernel_rfl) ?_
            refine J.exit (id := 0) (by kernel_rfl) rfl ?_
            obtain rfl := Option.some.inj H
            exact J.conv2 [1, 2, 4] [0, 1] [0, 1] [0] (by kernel_rfl) (by kernel_rfl) (by kernel_rfl) (by kernel_rfl) (by decide) (hj3 g10)
        · refine J.nilrow kd56 56 ?_
          exact J.conv2 [1, 2, 4, 5] [0, 1] [0, 1] [0] (by kernel_rfl) (by kernel_rfl) (by kernel_rfl) (by kernel_rfl) (by decide) h_
    · refine J.condF (x := .tmp 16) (t := (x1_1.f2 == 0)) (by kernel_rfl) (by kernel_rfl) hc2 ?_
      refine J.skip (by kernel_rfl) ?_
      refine J.seq (by kernel_rfl) ?_
      refine J.seq (by kernel_rfl) ?_
      refine J.region (by kernel_rfl) ?_
      refine O.pure 3 [(1, 2)] [1, 2, 4, 53] [p0_0, 2] (fr' := [(1, .pointer (some ⟨p0_0, 0, none⟩)), (2, .pointer (some ⟨p0_1, 0, none⟩)), (4, .slice none 0 0), (53, .bool (decide (x1_1.f2 > 0)))]) (bx' := [⟨p0_1, [.int .i64 0, .int .i64 0, .int .i64 0, .slice none 0 0, .bool false], 29⟩, ⟨p0_0, [.int .i64 x1_1.f0, .int .i64 x1_1.f1, .int .i64 x1_1.f2, .slice p1_1.1 x1_1.f3.length p1_1.2, .bool x1_1.f4], 29⟩]) (by kernel_rfl) ?_
      refine O.nil (by kernel_rfl) ?_
      refine J.join (α := Int) (γ := Unit) (fun o16 q16 => [(1, .pointer (some ⟨p0_0, 0, none⟩)), (2, .pointer (some ⟨p0_1, 0, none⟩)), (4, .slice none 0 0)]) (fun o16 q16 => St X w [] [⟨p0_1, [.int .i64 0, .int .i64 0, .int .i64 0, .slice none 0 0, .bool false], 29⟩, ⟨p0_0, [.int .i64 x1_1.f0, .int .i64 x1_1.f1, .int .i64 o16, .slice p1_1.1 x1_1.f3.length p1_1.2, .bool x1_1.f4], 29⟩] [] [] [Rd kd74 p1_1.1 p1_1.2 x1_1.f3, Rd kd74 h0.1 h0.2 a0.f3]) H (fun o16 q16 H => ?_) (fun o16 H hj16 => ?_)
      · refine J.seq (by kernel_rfl) ?_
        refine J.seq (by kernel_rfl) ?_
        refine J.region (by kernel_rfl) ?_
        refine O.pure 2 [(1, 4)] [1, 2, 4, 59] [p0_0, 4] (fr' := [(1, .pointer (some ⟨p0_0, 0, none⟩)), (2, .pointer (some ⟨p0_1, 0, none⟩)), (4, .slice none 0 0), (59, .bool x1_1.f4)]) (bx' := [⟨p0_1, [.int .i64 0, .int .i64 0, .int .i64 0, .slice none 0 0, .bool false], 29⟩, ⟨p0_0, [.int .i64 x1_1.f0, .int .i64 x1_1.f1, .int .i64 o16, .slice p1_1.1 x1_1.f3.length p1_1.2, .bool x1_1.f4], 29⟩]) (by kernel_rfl) ?_
        refine O.nil (by kernel_rfl) ?_
        rcases condE H with ⟨hc18, H⟩ | ⟨hc18, H⟩
        · refine J.condT (x := .tmp 59) (t := x1_1.f4) (by kernel_rfl) (by kernel_rfl) hc18 ?_
          refine J.seq (by kernel_rfl) ?_
          obtain ⟨y14_6, hy14_6, H⟩ := bindE H
          have hy14_6a := (appE hy14_6).1
          refine J.region (by kernel_rfl) ?_
          refine O.pure 5 [(1, 1)] [1, 2, 4, 60, 64] [p0_0, 1] (fr' := [(1, .pointer (some ⟨p0_0, 0, none⟩)), (2, .pointer (some ⟨p0_1, 0, none⟩)), (4, .slice none 0 0), (60, .slice none 0 0), (64, .agg #[.int .i64 0, .int .i64 (IntKind.wrap .i64 (x1_1.f1 - 1)), .string (⟨#[]⟩ : ByteArray)])]) (bx' := [⟨p0_1, [.int .i64 0, .int .i64 0, .int .i64 0, .slice none 0 0, .bool false], 29⟩, ⟨p0_0, [.int .i64 x1_1.f0, .int .i64 x1_1.f1, .int .i64 o16, .slice p1_1.1 x1_1.f3.length p1_1.2, .bool x1_1.f4], 29⟩]) (by kernel_rfl) ?_
          refine O.e (some 65) (Ev.mono (fun w hS => hS.nilrow kd56 56) (Ev.lit (t := 48) (len := 1) (parts := #[(0, .tmp 64)]) (ps := [(0, .agg #[.int .i64 0, .int .i64 (IntKind.wrap .i64 (x1_1.f1 - 1)), .string (⟨#[]⟩ : ByteArray)])]) (cs := [.int .i64 0, .int .i64 (IntKind.wrap .i64 (x1_1.f1 - 1)), .string (⟨#[]⟩ : ByteArray)]) (e := 56) kd56 ([(⟨0, (IntKind.wrap .i64 (x1_1.f1 - 1)), (⟨#[]⟩ : ByteArray)⟩ : S56)] : List S56) (by kernel_rfl) (by kernel_rfl) (by kernel_rfl) (by kernel_rfl) (by kernel_rfl) (by decide) (fun w' hφ => (Els.cons (c := [.int .i64 0, .int .i64 (IntKind.wrap .i64 (x1_1.f1 - 1)), .string (⟨#[]⟩ : ByteArray)]) (rfl) (Els.nil _ _ _))))) (by kernel_rfl) (fun p14_5 => ?_)
          refine O.e (some 66) (Ev.appLit (x := .tmp 60) (y := .tmp 65) (t := 48) (bytes := 32) (by kernel_rfl) (by kernel_rfl) (by kernel_rfl) (by kernel_rfl) (by kernel_rfl) (by decide) hy14_6a) (by kernel_rfl) (fun p14_6 => ?_)
          refine O.pure 1 [] [1, 2, 4] [] (fr' := [(1, .pointer (some ⟨p0_0, 0, none⟩)), (2, .pointer (some ⟨p0_1, 0, none⟩)), (4, .slice p14_6.1 (([] : List S56) ++ ([(⟨0, (IntKind.wrap .i64 (x1_1.f1 - 1)), (⟨#[]⟩ : ByteArray)⟩ : S56)] : List S56)).length p14_6.2)]) (bx' := [⟨p0_1, [.int .i64 0, .int .i64 0, .int .i64 0, .slice none 0 0, .bool false], 29⟩, ⟨p0_0, [.int .i64 x1_1.f0, .int .i64 x1_1.f1, .int .i64 o16, .slice p1_1.1 x1_1.f3.length p1_1.2, .bool x1_1.f4], 29⟩]) (by kernel_rfl) ?_
          refine O.nil (by kernel_rfl) ?_
          refine J.region (by kernel_rfl) ?_
          refine O.pure 2 [(1, 4)] [1, 2, 4] [p0_0, 4] (fr' := [(1, .pointer (some ⟨p0_0, 0, none⟩)), (2, .pointer (some ⟨p0_1, 0, none⟩)), (4, .slice p14_6.1 (([] : List S56) ++ ([(⟨0, (IntKind.wrap .i64 (x1_1.f1 - 1)), (⟨#[]⟩ : ByteArray)⟩ : S56)] : List S56)).length p14_6.2)]) (bx' := [⟨p0_1, [.int .i64 0, .int .i64 0, .int .i64 0, .slice none 0 0, .bool false], 29⟩, ⟨p0_0, [.int .i64 x1_1.f0, .int .i64 x1_1.f1, .int .i64 o16, .slice p1_1.1 x1_1.f3.length p1_1.2, .bool false], 29⟩]) (by kernel_rfl) ?_
          refine O.nil (by kernel_rfl) ?_
          refine J.seq (by kernel_rfl) ?_
          refine J.region (by kernel_rfl) ?_
          refine O.pure 4 [(1, 0), (0, 0)] [2, 3] [p0_0, 0, p0_1, 0] (fr' := [(2, .pointer (some ⟨p0_1, 0, none⟩)), (3, .slice p14_6.1 (([] : List S56) ++ ([(⟨0, (IntKind.wrap .i64 (x1_1.f1 - 1)), (⟨#[]⟩ : ByteArray)⟩ : S56)] : List S56)).length p14_6.2)]) (bx' := [⟨p0_1, [.int .i64 x1_1.f0, .int .i64 x1_1.f1, .int .i64 o16, .slice p1_1.1 x1_1.f3.length p1_1.2, .bool false], 29⟩, ⟨p0_0, [.int .i64 x1_1.f0, .int .i64 x1_1.f1, .int .i64 o16, .slice p1_1.1 x1_1.f3.length p1_1.2, .bool false], 29⟩]) (by kernel_rfl) ?_
          refine O.nil (by kernel_rfl) ?_
          obtain rfl := Option.some.inj H
          exact J.doneS [(0, 0)] [p0_1, 0] [0] [] [0] (p1_1, p14_6) (vs := [.agg #[.int .i64 x1_1.f0, .int .i64 x1_1.f1, .int .i64 o16, .slice p1_1.1 x1_1.f3.length p1_1.2, .bool false], .slice p14_6.1 (([] : List S56) ++ ([(⟨0, (IntKind.wrap .i64 (x1_1.f1 - 1)), (⟨#[]⟩ : ByteArray)⟩ : S56)] : List S56)).length p14_6.2]) (by kernel_rfl) (by kernel_rfl) (by kernel_rfl) (by kernel_rfl) (by kernel_rfl) (by decide)
        · refine J.condF (x := .tmp 59) (t := x1_1.f4) (by kernel_rfl) (by kernel_rfl) hc18 ?_
          refine J.skip (by kernel_rfl) ?_
          refine J.seq (by kernel_rfl) ?_
          refine J.region (by kernel_rfl) ?_
          refine O.pure 4 [(1, 0), (0, 0)] [2, 3] [p0_0, 0, p0_1, 0] (fr' := [(2, .pointer (some ⟨p0_1, 0, none⟩)), (3, .slice none 0 0)]) (bx' := [⟨p0_1, [.int .i64 x1_1.f0, .int .i64 x1_1.f1, .int .i64 o16, .slice p1_1.1 x1_1.f3.length p1_1.2, .bool x1_1.f4], 29⟩, ⟨p0_0, [.int .i64 x1_1.f0, .int .i64 x1_1.f1, .int .i64 o16, .slice p1_1.1 x1_1.f3.length p1_1.2, .bool x1_1.f4], 29⟩]) (by kernel_rfl) ?_
          refine O.nil (by kernel_rfl) ?_
          obtain rfl := Option.some.inj H
          refine J.nilrow kd56 56 ?_
          exact J.doneS [(0, 0)] [p0_1, 0] [0] [] [0] (p1_1, (none, 0)) (vs := [.agg #[.int .i64 x1_1.f0, .int .i64 x1_1.f1, .int .i64 o16, .slice p1_1.1 x1_1.f3.length p1_1.2, .bool x1_1.f4], .slice none 0 0]) (by kernel_rfl) (by kernel_rfl) (by kernel_rfl) (by kernel_rfl) (by kernel_rfl) (by decide)
      · rcases condE H with ⟨hc19, H⟩ | ⟨hc19, H⟩
        · refine J.condT (x := .tmp 53) (t := (decide (x1_1.f2 > 0))) (by kernel_rfl) (by kernel_rfl) hc19 ?_
          refine J.region (by kernel_rfl) ?_
          refine O.pure 5 [(1, 2), (1, 2)] [1, 2, 4] [p0_0, 2, p0_0, 2] (fr' := [(1, .pointer (some ⟨p0_0, 0, none⟩)), (2, .pointer (some ⟨p0_1, 0, none⟩)), (4, .slice none 0 0)]) (bx' := [⟨p0_1, [.int .i64 0, .int .i64 0, .int .i64 0, .slice none 0 0, .bool false], 29⟩, ⟨p0_0, [.int .i64 x1_1.f0, .int .i64 x1_1.f1, .int .i64 (IntKind.wrap .i64 (x1_1.f2 - 1)), .slice p1_1.1 x1_1.f3.length p1_1.2, .bool x1_1.f4], 29⟩]) (by kernel_rfl) ?_
          refine O.nil (by kernel_rfl) ?_
          obtain rfl := Option.some.inj H
          exact J.conv2 [1, 2, 4] [0, 1] [0, 1] [] (by kernel_rfl) (by kernel_rfl) (by kernel_rfl) (by kernel_rfl) (by decide) (hj16 ())
        · refine J.condF (x := .tmp 53) (t := (decide (x1_1.f2 > 0))) (by kernel_rfl) (by kernel_rfl) hc19 ?_
          refine J.skip (by kernel_rfl) ?_
          obtain rfl := Option.some.inj H
          exact J.conv2 [1, 2, 4] [0, 1] [0, 1] [] (by kernel_rfl) (by kernel_rfl) (by kernel_rfl) (by kernel_rfl) (by decide) (hj16 ())
  · refine J.region (by kernel_rfl) ?_
    refine O.pure 3 [(1, 3)] [1, 2, 4, 10] [p0_0, 3] (fr' := [(1, .pointer (some ⟨p0_0, 0, none⟩)), (2, .pointer (some ⟨p0_1, 0, none⟩)), (4, .slice none 0 0), (10, .int .i64 (x1_1.f3.length : Int))]) (bx' := [⟨p0_1, [.int .i64 0, .int .i64 0, .int .i64 0, .slice none 0 0, .bool false], 29⟩, ⟨p0_0, [.int .i64 x1_1.f0, .int .i64 x1_1.f1, .int .i64 x1_1.f2, .slice p1_1.1 x1_1.f3.length p1_1.2, .bool x1_1.f4], 29⟩]) (by kernel_rfl) ?_
    refine O.q (v := .bool false) (some 11) (Qu.eqv (u := .bool (decide ((x1_1.f3.length : Int) > 0))) (v := .bool false) (0, 0) [] (by kernel_rfl) (congrArg Value.bool hc1)) (by kernel_rfl) ?_
    refine O.pure 5 [] [1, 2, 4, 16] [] (fr' := [(1, .pointer (some ⟨p0_0, 0, none⟩)), (2, .pointer (some ⟨p0_1, 0, none⟩)), (4, .slice none 0 0), (16, .bool false)]) (bx' := [⟨p0_1, [.int .i64 0, .int .i64 0, .int .i64 0, .slice none 0 0, .bool false], 29⟩, ⟨p0_0, [.int .i64 x1_1.f0, .int .i64 x1_1.f1, .int .i64 x1_1.f2, .slice p1_1.1 x1_1.f3.length p1_1.2, .bool x1_1.f4], 29⟩]) (by kernel_rfl) ?_
    refine O.nil (by kernel_rfl) ?_
    refine J.cond (o := .tmp 16) false (by kernel_rfl) (by kernel_rfl) ?_
    refine J.skip (by kernel_rfl) ?_
    refine J.seq (by kernel_rfl) ?_
    refine J.seq (by kernel_rfl) ?_
    refine J.region (by kernel_rfl) ?_
    refine O.pure 3 [(1, 2)] [1, 2, 4, 53] [p0_0, 2] (fr' := [(1, .pointer (some ⟨p0_0, 0, none⟩)), (2, .pointer (some ⟨p0_1, 0, none⟩)), (4, .slice none 0 0), (53, .bool (decide (x1_1.f2 > 0)))]) (bx' := [⟨p0_1, [.int .i64 0, .int .i64 0, .int .i64 0, .slice none 0 0, .bool false], 29⟩, ⟨p0_0, [.int .i64 x1_1.f0, .int .i64 x1_1.f1, .int .i64 x1_1.f2, .slice p1_1.1 x1_1.f3.length p1_1.2, .bool x1_1.f4], 29⟩]) (by kernel_rfl) ?_
    refine O.nil (by kernel_rfl) ?_
    refine J.join (α := Int) (γ := Unit) (fun o20 q20 => [(1, .pointer (some ⟨p0_0, 0, none⟩)), (2, .pointer (some ⟨p0_1, 0, none⟩)), (4, .slice none 0 0)]) (fun o20 q20 => St X w [] [⟨p0_1, [.int .i64 0, .int .i64 0, .int .i64 0, .slice none 0 0, .bool false], 29⟩, ⟨p0_0, [.int .i64 x1_1.f0, .int .i64 x1_1.f1, .int .i64 o20, .slice p1_1.1 x1_1.f3.length p1_1.2, .bool x1_1.f4], 29⟩] [] [] [Rd kd74 p1_1.1 p1_1.2 x1_1.f3, Rd kd74 h0.1 h0.2 a0.f3]) H (fun o20 q20 H => ?_) (fun o20 H hj20 => ?_)
    · refine J.seq (by kernel_rfl) ?_
      refine J.seq (by kernel_rfl) ?_
      refine J.region (by kernel_rfl) ?_
      refine O.pure 2 [(1, 4)] [1, 2, 4, 59] [p0_0, 4] (fr' := [(1, .pointer (some ⟨p0_0, 0, none⟩)), (2, .pointer (some ⟨p0_1, 0, none⟩)), (4, .slice none 0 0), (59, .bool x1_1.f4)]) (bx' := [⟨p0_1, [.int .i64 0, .int .i64 0, .int .i64 0, .slice none 0 0, .bool false], 29⟩, ⟨p0_0, [.int .i64 x1_1.f0, .int .i64 x1_1.f1, .int .i64 o20, .slice p1_1.1 x1_1.f3.length p1_1.2, .bool x1_1.f4], 29⟩]) (by kernel_rfl) ?_
      refine O.nil (by kernel_rfl) ?_
      rcases condE H with ⟨hc22, H⟩ | ⟨hc22, H⟩
      · refine J.condT (x := .tmp 59) (t := x1_1.f4) (by kernel_rfl) (by kernel_rfl) hc22 ?_
        refine J.seq (by kernel_rfl) ?_
        obtain ⟨y14_6, hy14_6, H⟩ := bindE H
        have hy14_6a := (appE hy14_6).1
        refine J.region (by kernel_rfl) ?_
        refine O.pure 5 [(1, 1)] [1, 2, 4, 60, 64] [p0_0, 1] (fr' := [(1, .pointer (some ⟨p0_0, 0, none⟩)), (2, .pointer (some ⟨p0_1, 0, none⟩)), (4, .slice none 0 0), (60, .slice none 0 0), (64, .agg #[.int .i64 0, .int .i64 (IntKind.wrap .i64 (x1_1.f1 - 1)), .string (⟨#[]⟩ : ByteArray)])]) (bx' := [⟨p0_1, [.int .i64 0, .int .i64 0, .int .i64 0, .slice none 0 0, .bool false], 29⟩, ⟨p0_0, [.int .i64 x1_1.f0, .int .i64 x1_1.f1, .int .i64 o20, .slice p1_1.1 x1_1.f3.length p1_1.2, .bool x1_1.f4], 29⟩]) (by kernel_rfl) ?_
        refine O.e (some 65) (Ev.mono (fun w hS => hS.nilrow kd56 56) (Ev.lit (t := 48) (len := 1) (parts := #[(0, .tmp 64)]) (ps := [(0, .agg #[.int .i64 0, .int .i64 (IntKind.wrap .i64 (x1_1.f1 - 1)), .string (⟨#[]⟩ : ByteArray)])]) (cs := [.int .i64 0, .int .i64 (IntKind.wrap .i64 (x1_1.f1 - 1)), .string (⟨#[]⟩ : ByteArray)]) (e := 56) kd56 ([(⟨0, (IntKind.wrap .i64 (x1_1.f1 - 1)), (⟨#[]⟩ : ByteArray)⟩ : S56)] : List S56) (by kernel_rfl) (by kernel_rfl) (by kernel_rfl) (by kernel_rfl) (by kernel_rfl) (by decide) (fun w' hφ => (Els.cons (c := [.int .i64 0, .int .i64 (IntKind.wrap .i64 (x1_1.f1 - 1)), .string (⟨#[]⟩ : ByteArray)]) (rfl) (Els.nil _ _ _))))) (by kernel_rfl) (fun p14_5 => ?_)
        refine O.e (some 66) (Ev.appLit (x := .tmp 60) (y := .tmp 65) (t := 48) (bytes := 32) (by kernel_rfl) (by kernel_rfl) (by kernel_rfl) (by kernel_rfl) (by kernel_rfl) (by decide) hy14_6a) (by kernel_rfl) (fun p14_6 => ?_)
        refine O.pure 1 [] [1, 2, 4] [] (fr' := [(1, .pointer (some ⟨p0_0, 0, none⟩)), (2, .pointer (some ⟨p0_1, 0, none⟩)), (4, .slice p14_6.1 (([] : List S56) ++ ([(⟨0, (IntKind.wrap .i64 (x1_1.f1 - 1)), (⟨#[]⟩ : ByteArray)⟩ : S56)] : List S56)).length p14_6.2)]) (bx' := [⟨p0_1, [.int .i64 0, .int .i64 0, .int .i64 0, .slice none 0 0, .bool false], 29⟩, ⟨p0_0, [.int .i64 x1_1.f0, .int .i64 x1_1.f1, .int .i64 o20, .slice p1_1.1 x1_1.f3.length p1_1.2, .bool x1_1.f4], 29⟩]) (by kernel_rfl) ?_
        refine O.nil (by kernel_rfl) ?_
        refine J.region (by kernel_rfl) ?_
        refine O.pure 2 [(1, 4)] [1, 2, 4] [p0_0, 4] (fr' := [(1, .pointer (some ⟨p0_0, 0, none⟩)), (2, .pointer (some ⟨p0_1, 0, none⟩)), (4, .slice p14_6.1 (([] : List S56) ++ ([(⟨0, (IntKind.wrap .i64 (x1_1.f1 - 1)), (⟨#[]⟩ : ByteArray)⟩ : S56)] : List S56)).length p14_6.2)]) (bx' := [⟨p0_1, [.int .i64 0, .int .i64 0, .int .i64 0, .slice none 0 0, .bool false], 29⟩, ⟨p0_0, [.int .i64 x1_1.f0, .int .i64 x1_1.f1, .int .i64 o20, .slice p1_1.1 x1_1.f3.length p1_1.2, .bool false], 29⟩]) (by kernel_rfl) ?_
        refine O.nil (by kernel_rfl) ?_
        refine J.seq (by kernel_rfl) ?_
        refine J.region (by kernel_rfl) ?_
        refine O.pure 4 [(1, 0), (0, 0)] [2, 3] [p0_0, 0, p0_1, 0] (fr' := [(2, .pointer (some ⟨p0_1, 0, none⟩)), (3, .slice p14_6.1 (([] : List S56) ++ ([(⟨0, (IntKind.wrap .i64 (x1_1.f1 - 1)), (⟨#[]⟩ : ByteArray)⟩ : S56)] : List S56)).length p14_6.2)]) (bx' := [⟨p0_1, [.int .i64 x1_1.f0, .int .i64 x1_1.f1, .int .i64 o20, .slice p1_1.1 x1_1.f3.length p1_1.2, .bool false], 29⟩, ⟨p0_0, [.int .i64 x1_1.f0, .int .i64 x1_1.f1, .int .i64 o20, .slice p1_1.1 x1_1.f3.length p1_1.2, .bool false], 29⟩]) (by kernel_rfl) ?_
        refine O.nil (by kernel_rfl) ?_
        obtain rfl := Option.some.inj H
        exact J.doneS [(0, 0)] [p0_1, 0] [0] [] [0] (p1_1, p14_6) (vs := [.agg #[.int .i64 x1_1.f0, .int .i64 x1_1.f1, .int .i64 o20, .slice p1_1.1 x1_1.f3.length p1_1.2, .bool false], .slice p14_6.1 (([] : List S56) ++ ([(⟨0, (IntKind.wrap .i64 (x1_1.f1 - 1)), (⟨#[]⟩ : ByteArray)⟩ : S56)] : List S56)).length p14_6.2]) (by kernel_rfl) (by kernel_rfl) (by kernel_rfl) (by kernel_rfl) (by kernel_rfl) (by decide)
      · refine J.condF (x := .tmp 59) (t := x1_1.f4) (by kernel_rfl) (by kernel_rfl) hc22 ?_
        refine J.skip (by kernel_rfl) ?_
        refine J.seq (by kernel_rfl) ?_
        refine J.region (by kernel_rfl) ?_
        refine O.pure 4 [(1, 0), (0, 0)] [2, 3] [p0_0, 0, p0_1, 0] (fr' := [(2, .pointer (some ⟨p0_1, 0, none⟩)), (3, .slice none 0 0)]) (bx' := [⟨p0_1, [.int .i64 x1_1.f0, .int .i64 x1_1.f1, .int .i64 o20, .slice p1_1.1 x1_1.f3.length p1_1.2, .bool x1_1.f4], 29⟩, ⟨p0_0, [.int .i64 x1_1.f0, .int .i64 x1_1.f1, .int .i64 o20, .slice p1_1.1 x1_1.f3.length p1_1.2, .bool x1_1.f4], 29⟩]) (by kernel_rfl) ?_
        refine O.nil (by kernel_rfl) ?_
        obtain rfl := Option.some.inj H
        refine J.nilrow kd56 56 ?_
        exact J.doneS [(0, 0)] [p0_1, 0] [0] [] [0] (p1_1, (none, 0)) (vs := [.agg #[.int .i64 x1_1.f0, .int .i64 x1_1.f1, .int .i64 o20, .slice p1_1.1 x1_1.f3.length p1_1.2, .bool x1_1.f4], .slice none 0 0]) (by kernel_rfl) (by kernel_rfl) (by kernel_rfl) (by kernel_rfl) (by kernel_rfl) (by decide)
    · rcases condE H with ⟨hc23, H⟩ | ⟨hc23, H⟩
      · refine J.condT (x := .tmp 53) (t := (decide (x1_1.f2 > 0))) (by kernel_rfl) (by kernel_rfl) hc23 ?_
        refine J.region (by kernel_rfl) ?_
        refine O.pure 5 [(1, 2), (1, 2)] [1, 2, 4] [p0_0, 2, p0_0, 2] (fr' := [(1, .pointer (some ⟨p0_0, 0, none⟩)), (2, .pointer (some ⟨p0_1, 0, none⟩)), (4, .slice none 0 0)]) (bx' := [⟨p0_1, [.int .i64 0, .int .i64 0, .int .i64 0, .slice none 0 0, .bool false], 29⟩, ⟨p0_0, [.int .i64 x1_1.f0, .int .i64 x1_1.f1, .int .i64 (IntKind.wrap .i64 (x1_1.f2 - 1)), .slice p1_1.1 x1_1.f3.length p1_1.2, .bool x1_1.f4], 29⟩]) (by kernel_rfl) ?_
        refine O.nil (by kernel_rfl) ?_
        obtain rfl := Option.some.inj H
        exact J.conv2 [1, 2, 4] [0, 1] [0, 1] [] (by kernel_rfl) (by kernel_rfl) (by kernel_rfl) (by kernel_rfl) (by decide) (hj20 ())
      · refine J.condF (x := .tmp 53) (t := (decide (x1_1.f2 > 0))) (by kernel_rfl) (by kernel_rfl) hc23 ?_
        refine J.skip (by kernel_rfl) ?_
        obtain rfl := Option.some.inj H
        exact J.conv2 [1, 2, 4] [0, 1] [0, 1] [] (by kernel_rfl) (by kernel_rfl) (by kernel_rfl) (by kernel_rfl) (by decide) (hj20 ())
/-! ### haywain/haywainlaw16.same: function 20 -/
def haywainlaw16_same.l2 (K : Nat) (a0 : List S37) (a1 : List S56) : Nat → Int → Option Bool
  | 0, _ => none
  | k + 1, s2 => cond (decide (s2 < (a0.length : Int))) ((idxO a0 s2).bind fun x6_2 => (idxO a1 s2).bind fun x6_7 => cond (x6_2.f0 != x6_7.f0) (some (false)) ((idxO a0 s2).bind fun x6_14 => (idxO a1 s2).bind fun x6_19 => cond (x6_14.f1 != x6_19.f1) (some (false)) ((idxO a0 s2).bind fun x6_27 => (idxO a1 s2).bind fun x6_32 => cond (!(x6_27.f2.toList == x6_32.f2.toList)) (some (false)) (haywainlaw16_same.l2 K a0 a1 k (IntKind.wrap .i64 (s2 + 1)))))) (some (true))
def haywainlaw16_same.f (K : Nat) (a0 : List S37) (a1 : List S56) : Option Bool := cond ((a0.length : Int) != (a1.length : Int)) (some (false)) (haywainlaw16_same.l2 K a0 a1 K 0)
set_option maxRecDepth 100000 in
set_option maxHeartbeats 1000000 in
theorem haywainlaw16_same.con (K : Nat) (a0 : List S37) (a1 : List S56) (h0 : Hd) (h1 : Hd) (r : Bool) (X : Nat → Nat → Prop) (w : World) (hS : St X w [] [] [] [] [Rd kd37 h0.1 h0.2 a0, Rd kd56 h1.1 h1.2 a1] w) (H : haywainlaw16_same.f K a0 a1 = some r) :
    Cn Try.prog 20 [.slice h0.1 a0.length h0.2, .slice h1.1 a1.length h1.2] X w [] (fun i : Unit => .bool r) (fun i => []) (fun i => []) (fun i => []) := by
  refine Cn.of Try.func20 (by kernel_rfl) hS ?_
  unfold haywainlaw16_same.f at H
  refine J.seq (by kernel_rfl) ?_
  refine J.region (by kernel_rfl) ?_
  refine O.pure 1 [] [0, 1] [] (fr' := [(0, .slice h0.1 a0.length h0.2), (1, .slice h1.1 a1.length h1.2)]) (bx' := []) (by kernel_rfl) ?_
  refine O.nil (by kernel_rfl) ?_
  refine J.seq (by kernel_rfl) ?_
  refine J.seq (by kernel_rfl) ?_
  refine J.region (by kernel_rfl) ?_
  refine O.pure 5 [] [0, 1, 10] [] (fr' := [(0, .slice h0.1 a0.length h0.2), (1, .slice h1.1 a1.length h1.2), (10, .bool ((a0.length : Int) != (a1.length : Int)))]) (bx' := []) (by kernel_rfl) ?_
  refine O.nil (by kernel_rfl) ?_
  rcases condE H with ⟨hc1, H⟩ | ⟨hc1, H⟩
  · refine J.condT (x := .tmp 10) (t := ((a0.length : Int) != (a1.length : Int))) (by kernel_rfl) (by kernel_rfl) hc1 ?_
    refine J.seq (by kernel_rfl) ?_
    refine J.region (by kernel_rfl) ?_
    refine O.pure 1 [] [4] [] (fr' := [(4, .bool false)]) (bx' := []) (by kernel_rfl) ?_
    refine O.nil (by kernel_rfl) ?_
    obtain rfl := Option.some.inj H
    exact J.doneS [] [] [] [] [] () (vs := [.bool false]) (by kernel_rfl) (by kernel_rfl) (by kernel_rfl) (by kernel_rfl) (by kernel_rfl) (by decide)
  · refine J.condF (x := .tmp 10) (t := ((a0.length : Int) != (a1.length : Int))) (by kernel_rfl) (by kernel_rfl) hc1 ?_
    refine J.skip (by kernel_rfl) ?_
    refine J.seq (by kernel_rfl) ?_
    refine J.seq (by kernel_rfl) ?_
    refine J.region (by kernel_rfl) ?_
    refine O.pure 1 [] [0, 1, 5] [] (fr' := [(0, .slice h0.1 a0.length h0.2), (1, .slice h1.1 a1.length h1.2), (5, .int .i64 0)]) (bx' := []) (by kernel_rfl) ?_
    refine O.nil (by kernel_rfl) ?_
    refine J.block (id := 0) (by kernel_rfl) ?_
    refine J.loopI (σ := Int) (γ := Unit) (f := fun m_ s_ => haywainlaw16_same.l2 K a0 a1 m_ s_) (fun s2 g2 => [(0, .slice h0.1 a0.length h0.2), (1, .slice h1.1 a1.length h1.2), (5, .int .i64 s2)]) (fun s2 g2 => St X w [] [] [] [] [Rd kd37 h0.1 h0.2 a0, Rd kd56 h1.1 h1.2 a1]) K 0 () (by kernel_rfl) H (fun _ => rfl) (fun m_ s2 H ih2 g2 => ?_) (fun h_ => ?_)
    · unfold haywainlaw16_same.l2 at H
      refine J.seq (by kernel_rfl) ?_
      refine J.seq (by kernel_rfl) ?_
      refine J.region (by kernel_rfl) ?_
      refine O.pure 4 [] [0, 1, 5, 14] [] (fr' := [(0, .slice h0.1 a0.length h0.2), (1, .slice h1.1 a1.length h1.2), (5, .int .i64 s2), (14, .bool (decide (s2 < (a0.length : Int))))]) (bx' := []) (by kernel_rfl) ?_
      refine O.nil (by kernel_rfl) ?_
      rcases condE H with ⟨hc11, H⟩ | ⟨hc11, H⟩
      · refine J.condT (x := .tmp 14) (t := (decide (s2 < (a0.length : Int)))) (by kernel_rfl) (by kernel_rfl) hc11 ?_
        refine J.skip (by kernel_rfl) ?_
        refine J.seq (by kernel_rfl) ?_
        refine J.block (id := 1) (by kernel_rfl) ?_
        refine J.seq (by kernel_rfl) ?_
        obtain ⟨x6_2, hx6_2, H⟩ := bindE H
        obtain ⟨hx6_2a, hx6_2⟩ := idxE hx6_2
        obtain ⟨x6_7, hx6_7, H⟩ := bindE H
        obtain ⟨hx6_7a, hx6_7⟩ := idxE hx6_7
        rcases condE H with ⟨hc12, H⟩ | ⟨hc12, H⟩
        · refine J.open (d := kd37) (h := h0) (i := s2) 0 rfl hx6_2 (op37 _) (fun p6_2 hp6_2A => ?_)
          refine J.open (d := kd56) (h := h1) (i := s2) 1 rfl hx6_7 (op56 _) (fun p6_7 hp6_7A => ?_)
          refine J.drawS (by kernel_rfl) [(0, some 17, .slice h0.1 a0.length h0.2), (1, some 18, .int .i64 s2), (3, some 20, .pointer (some ⟨p6_2.1, p6_2.2.1 + s2.toNat * 3, none⟩)), (4, some 21, .int .i64 x6_2.f0), (5, some 22, .slice h1.1 a1.length h1.2), (6, some 23, .int .i64 s2), (8, some 25, .pointer (some ⟨p6_7.1, p6_7.2.1 + s2.toNat * 3, none⟩)), (9, some 26, .int .i64 x6_7.f0), (11, some 28, .bool true), (12, some 29, undef), (13, some 30, undef), (14, some 31, undef), (15, some 32, undef), (16, some 33, undef), (17, some 34, undef), (18, some 35, undef), (19, some 36, undef), (20, some 37, undef), (21, some 38, undef), (22, some 39, undef), (23, some 40, .bool true), (24, some 41, .bool true), (25, some 42, undef), (26, some 43, undef), (27, some 44, undef), (28, some 45, undef), (29, some 46, undef), (30, some 47, undef), (31, some 48, undef), (32, some 49, undef), (33, some 50, undef), (34, some 51, undef), (35, some 52, undef), (36, some 53, .bool true), (2, some 19, .pointer (some ⟨p6_2.1, p6_2.2.1 + s2.toNat * 3, none⟩)), (7, some 24, .pointer (some ⟨p6_7.1, p6_7.2.1 + s2.toNat * 3, none⟩)), (10, some 27, .bool true)] ([0, 1, 3, 4, 5, 6, 8, 9, 11, 12, 13, 14, 15, 16, 17, 18, 19, 20, 21, 22, 23, 24, 25, 26, 27, 28, 29, 30, 31, 32, 33, 34, 35, 36] ++ [2, 7, 10]) (by kernel_rfl) ?_
          refine D.fin (fr' := [(0, .slice h0.1 a0.length h0.2), (1, .slice h1.1 a1.length h1.2), (5, .int .i64 s2), (29, undef), (30, undef), (31, undef), (32, undef), (33, undef), (34, undef), (35, undef), (36, undef), (37, undef), (38, undef), (39, undef), (42, undef), (43, undef), (44, undef), (45, undef), (46, undef), (47, undef), (48, undef), (49, undef), (50, undef), (51, undef), (52, undef), (53, .bool true)]) [0, 1, 3, 4, 5, 6, 8, 9, 11, 12, 13, 14, 15, 16, 17, 18, 19, 20, 21, 22, 23, 24, 25, 26, 27, 28, 29, 30, 31, 32, 33, 34, 35, 36] [2, 7, 10] [(1, 0), (0, 0)] [p6_2.1, p6_2.2.1 + s2.toNat * 3, p6_7.1, p6_7.2.1 + s2.toNat * 3] [0, 1, 5, 29, 30, 31, 32, 33, 34, 35, 36, 37, 38, 39, 42, 43, 44, 45, 46, 47, 48, 49, 50, 51, 52, 53] (by kernel_rfl) (by kernel_rfl) (⟨QuAt.mk (v := .pointer (some ⟨p6_2.1, p6_2.2.1 + s2.toNat * 3, none⟩)) (some 19) (by kernel_rfl) (by kernel_rfl) (Qu.idx (t := 45) (x := .tmp 17) (y := .tmp 18) (c := h0.2) (kk := .i64) (sz := 3) (by kernel_rfl) (by kernel_rfl) (by kernel_rfl) (by kernel_rfl) hx6_2a (idx_lt hx6_2) hp6_2A), QuAt.mk (v := .pointer (some ⟨p6_7.1, p6_7.2.1 + s2.toNat * 3, none⟩)) (some 24) (by kernel_rfl) (by kernel_rfl) (Qu.idx (t := 48) (x := .tmp 22) (y := .tmp 23) (c := h1.2) (kk := .i64) (sz := 3) (by kernel_rfl) (by kernel_rfl) (by kernel_rfl) (by kernel_rfl) hx6_7a (idx_lt hx6_7) hp6_7A), QuAt.mk (v := .bool true) (some 27) (by kernel_rfl) (by kernel_rfl) (Qu.eqv (u := .bool (x6_2.f0 != x6_7.f0)) (v := .bool true) (0, 0) [] (by kernel_rfl) (congrArg Value.bool hc12)), trivial⟩) (by kernel_rfl) ?_
          refine J.cond (o := .tmp 53) true (by kernel_rfl) (by kernel_rfl) ?_
          refine J.seq (by kernel_rfl) ?_
          refine J.region (by kernel_rfl) ?_
          refine O.pure 1 [] [4] [] (fr' := [(4, .bool false)]) (bx' := []) (by kernel_rfl) ?_
          refine O.nil (by kernel_rfl) ?_
          obtain rfl := Option.some.inj H
          exact J.doneS [] [] [] [] [] () (vs := [.bool false]) (by kernel_rfl) (by kernel_rfl) (by kernel_rfl) (by kernel_rfl) (by kernel_rfl) (by decide)
        · obtain ⟨x6_14, hx6_14, H⟩ := bindE H
          obtain ⟨hx6_14a, hx6_14⟩ := idxE hx6_14
          obtain ⟨x6_19, hx6_19, H⟩ := bindE H
          obtain ⟨hx6_19a, hx6_19⟩ := idxE hx6_19
          rcases condE H with ⟨hc13, H⟩ | ⟨hc13, H⟩
          · refine J.open (d := kd37) (h := h0) (i := s2) 0 rfl hx6_2 (op37 _) (fun p6_2 hp6_2A => ?_)
            refine J.open (d := kd56) (h := h1) (i := s2) 1 rfl hx6_7 (op56 _) (fun p6_7 hp6_7A => ?_)
            refine J.open (d := kd37) (h := h0) (i := s2) 0 rfl hx6_14 (op37 _) (fun p6_14 hp6_14A => ?_)
            refine J.open (d := kd56) (h := h1) (i := s2) 1 rfl hx6_19 (op56 _) (fun p6_19 hp6_19A => ?_)
            refine J.drawS (by kernel_rfl) [(0, some 17, .slice h0.1 a0.length h0.2), (1, some 18, .int .i64 s2), (3, some 20, .pointer (some ⟨p6_2.1, p6_2.2.1 + s2.toNat * 3, none⟩)), (4, some 21, .int .i64 x6_2.f0), (5, some 22, .slice h1.1 a1.length h1.2), (6, some 23, .int .i64 s2), (8, some 25, .pointer (some ⟨p6_7.1, p6_7.2.1 + s2.toNat * 3, none⟩)), (9, some 26, .int .i64 x6_7.f0), (11, some 28, .bool false), (12, some 29, .slice h0.1 a0.length h0.2), (13, some 30, .int .i64 s2), (15, some 32, .pointer (some ⟨p6_14.1, p6_14.2.1 + s2.toNat * 3 + 1, none⟩)), (16, some 33, .int .i64 x6_14.f1), (17, some 34, .slice h1.1 a1.length h1.2), (18, some 35, .int .i64 s2), (20, some 37, .pointer (some ⟨p6_19.1, p6_19.2.1 + s2.toNat * 3 + 1, none⟩)), (21, some 38, .int .i64 x6_19.f1), (23, some 40, .bool true), (24, some 41, .bool true), (25, some 42, undef), (26, some 43, undef), (27, some 44, undef), (28, some 45, undef), (29, some 46, undef), (30, some 47, undef), (31, some 48, undef), (32, some 49, undef), (33, some 50, undef), (34, some 51, undef), (35, some 52, undef), (36, some 53, .bool true), (2, some 19, .pointer (some ⟨p6_2.1, p6_2.2.1 + s2.toNat * 3, none⟩)), (7, some 24, .pointer (some ⟨p6_7.1, p6_7.2.1 + s2.toNat * 3, none⟩)), (10, some 27, .bool false), (14, some 31, .pointer (some ⟨p6_14.1, p6_14.2.1 + s2.toNat * 3, none⟩)), (19, some 36, .pointer (some ⟨p6_19.1, p6_19.2.1 + s2.toNat * 3, none⟩)), (22, some 39, .bool true)] ([0, 1, 3, 4, 5, 6, 8, 9, 11, 12, 13, 15, 16, 17, 18, 20, 21, 23, 24, 25, 26, 27, 28, 29, 30, 31, 32, 33, 34, 35, 36] ++ [2, 7, 10, 14, 19, 22]) (by kernel_rfl) ?_
            refine D.fin (fr' := [(0, .slice h0.1 a0.length h0.2), (1, .slice h1.1 a1.length h1.2), (5, .int .i64 s2), (29, .slice h0.1 a0.length h0.2), (30, .int .i64 s2), (31, .pointer (some ⟨p6_14.1, p6_14.2.1 + s2.toNat * 3, none⟩)), (32, .pointer (some ⟨p6_14.1, p6_14.2.1 + s2.toNat * 3 + 1, none⟩)), (33, .int .i64 x6_14.f1), (34, .slice h1.1 a1.length h1.2), (35, .int .i64 s2), (36, .pointer (some ⟨p6_19.1, p6_19.2.1 + s2.toNat * 3, none⟩)), (37, .pointer (some ⟨p6_19.1, p6_19.2.1 + s2.toNat * 3 + 1, none⟩)), (38, .int .i64 x6_19.f1), (39, .bool true), (42, undef), (43, undef), (44, undef), (45, undef), (46, undef), (47, undef), (48, undef), (49, undef), (50, undef), (51, undef), (52, undef), (53, .bool true)]) [0, 1, 3, 4, 5, 6, 8, 9, 11, 12, 13, 15, 16, 17, 18, 20, 21, 23, 24, 25, 26, 27, 28, 29, 30, 31, 32, 33, 34, 35, 36] [2, 7, 10, 14, 19, 22] [(3, 0), (2, 0), (1, 1), (0, 1)] [p6_2.1, p6_2.2.1 + s2.toNat * 3, p6_7.1, p6_7.2.1 + s2.toNat * 3, p6_14.1, p6_14.2.1 + s2.toNat * 3 + 1, p6_19.1, p6_19.2.1 + s2.toNat * 3 + 1] [0, 1, 5, 29, 30, 31, 32, 33, 34, 35, 36, 37, 38, 39, 42, 43, 44, 45, 46, 47, 48, 49, 50, 51, 52, 53] (by kernel_rfl) (by kernel_rfl) (⟨QuAt.mk (v := .pointer (some ⟨p6_2.1, p6_2.2.1 + s2.toNat * 3, none⟩)) (some 19) (by kernel_rfl) (by kernel_rfl) (Qu.idx (t := 45) (x := .tmp 17) (y := .tmp 18) (c := h0.2) (kk := .i64) (sz := 3) (by kernel_rfl) (by kernel_rfl) (by kernel_rfl) (by kernel_rfl) hx6_2a (idx_lt hx6_2) hp6_2A), QuAt.mk (v := .pointer (some ⟨p6_7.1, p6_7.2.1 + s2.toNat * 3, none⟩)) (some 24) (by kernel_rfl) (by kernel_rfl) (Qu.idx (t := 48) (x := .tmp 22) (y := .tmp 23) (c := h1.2) (kk := .i64) (sz := 3) (by kernel_rfl) (by kernel_rfl) (by kernel_rfl) (by kernel_rfl) hx6_7a (idx_lt hx6_7) hp6_7A), QuAt.mk (v := .bool false) (some 27) (by kernel_rfl) (by kernel_rfl) (Qu.eqv (u := .bool (x6_2.f0 != x6_7.f0)) (v := .bool false) (0, 0) [] (by kernel_rfl) (congrArg Value.bool hc12)), QuAt.mk (v := .pointer (some ⟨p6_14.1, p6_14.2.1 + s2.toNat * 3, none⟩)) (some 31) (by kernel_rfl) (by kernel_rfl) (Qu.idx (t := 45) (x := .tmp 29) (y := .tmp 30) (c := h0.2) (kk := .i64) (sz := 3) (by kernel_rfl) (by kernel_rfl) (by kernel_rfl) (by kernel_rfl) hx6_14a (idx_lt hx6_14) hp6_14A), QuAt.mk (v := .pointer (some ⟨p6_19.1, p6_19.2.1 + s2.toNat * 3, none⟩)) (some 36) (by kernel_rfl) (by kernel_rfl) (Qu.idx (t := 48) (x := .tmp 34) (y := .tmp 35) (c := h1.2) (kk := .i64) (sz := 3) (by kernel_rfl) (by kernel_rfl) (by kernel_rfl) (by kernel_rfl) hx6_19a (idx_lt hx6_19) hp6_19A), QuAt.mk (v := .bool true) (some 39) (by kernel_rfl) (by kernel_rfl) (Qu.eqv (u := .bool (x6_14.f1 != x6_19.f1)) (v := .bool true) (0, 0) [] (by kernel_rfl) (congrArg Value.bool hc13)), trivial⟩) (by kernel_rfl) ?_
            refine J.cond (o := .tmp 53) true (by kernel_rfl) (by kernel_rfl) ?_
            refine J.seq (by kernel_rfl) ?_
            refine J.region (by kernel_rfl) ?_
            refine O.pure 1 [] [4] [] (fr' := [(4, .bool false)]) (bx' := []) (by kernel_rfl) ?_
            refine O.nil (by kernel_rfl) ?_
            obtain rfl := Option.some.inj H
            exact J.doneS [] [] [] [] [] () (vs := [.bool false]) (by kernel_rfl) (by kernel_rfl) (by kernel_rfl) (by kernel_rfl) (by kernel_rfl) (by decide)
          · obtain ⟨x6_27, hx6_27, H⟩ := bindE H
            obtain ⟨hx6_27a, hx6_27⟩ := idxE hx6_27
            obtain ⟨x6_32, hx6_32, H⟩ := bindE H
            obtain ⟨hx6_32a, hx6_32⟩ := idxE hx6_32
            refine J.open (d := kd37) (h := h0) (i := s2) 0 rfl hx6_2 (op37 _) (fun p6_2 hp6_2A => ?_)
            refine J.open (d := kd56) (h := h1) (i := s2) 1 rfl hx6_7 (op56 _) (fun p6_7 hp6_7A => ?_)
            refine J.open (d := kd37) (h := h0) (i := s2) 0 rfl hx6_14 (op37 _) (fun p6_14 hp6_14A => ?_)
            refine J.open (d := kd56) (h := h1) (i := s2) 1 rfl hx6_19 (op56 _) (fun p6_19 hp6_19A => ?_)
            refine J.open (d := kd37) (h := h0) (i := s2) 0 rfl hx6_27 (op37 _) (fun p6_27 hp6_27A => ?_)
            refine J.open (d := kd56) (h := h1) (i := s2) 1 rfl hx6_32 (op56 _) (fun p6_32 hp6_32A => ?_)
            refine J.drawS (by kernel_rfl) [(0, some 17, .slice h0.1 a0.length h0.2), (1, some 18, .int .i64 s2), (3, some 20, .pointer (some ⟨p6_2.1, p6_2.2.1 + s2.toNat * 3, none⟩)), (4, some 21, .int .i64 x6_2.f0), (5, some 22, .slice h1.1 a1.length h1.2), (6, some 23, .int .i64 s2), (8, some 25, .pointer (some ⟨p6_7.1, p6_7.2.1 + s2.toNat * 3, none⟩)), (9, some 26, .int .i64 x6_7.f0), (11, some 28, .bool false), (12, some 29, .slice h0.1 a0.length h0.2), (13, some 30, .int .i64 s2), (15, some 32, .pointer (some ⟨p6_14.1, p6_14.2.1 + s2.toNat * 3 + 1, none⟩)), (16, some 33, .int .i64 x6_14.f1), (17, some 34, .slice h1.1 a1.length h1.2), (18, some 35, .int .i64 s2), (20, some 37, .pointer (some ⟨p6_19.1, p6_19.2.1 + s2.toNat * 3 + 1, none⟩)), (21, some 38, .int .i64 x6_19.f1), (23, some 40, .bool false), (24, some 41, .bool false), (25, some 42, .slice h0.1 a0.length h0.2), (26, some 43, .int .i64 s2), (28, some 45, .pointer (some ⟨p6_27.1, p6_27.2.1 + s2.toNat * 3 + 2, none⟩)), (29, some 46, .string x6_27.f2), (30, some 47, .slice h1.1 a1.length h1.2), (31, some 48, .int .i64 s2), (33, some 50, .pointer (some ⟨p6_32.1, p6_32.2.1 + s2.toNat * 3 + 2, none⟩)), (34, some 51, .string x6_32.f2), (35, some 52, .bool (!(x6_27.f2.toList == x6_32.f2.toList))), (36, some 53, .bool (!(x6_27.f2.toList == x6_32.f2.toList))), (2, some 19, .pointer (some ⟨p6_2.1, p6_2.2.1 + s2.toNat * 3, none⟩)), (7, some 24, .pointer (some ⟨p6_7.1, p6_7.2.1 + s2.toNat * 3, none⟩)), (10, some 27, .bool false), (14, some 31, .pointer (some ⟨p6_14.1, p6_14.2.1 + s2.toNat * 3, none⟩)), (19, some 36, .pointer (some ⟨p6_19.1, p6_19.2.1 + s2.toNat * 3, none⟩)), (22, some 39, .bool false), (27, some 44, .pointer (some ⟨p6_27.1, p6_27.2.1 + s2.toNat * 3, none⟩)), (32, some 49, .pointer (some ⟨p6_32.1, p6_32.2.1 + s2.toNat * 3, none⟩))] ([0, 1, 3, 4, 5, 6, 8, 9, 11, 12, 13, 15, 16, 17, 18, 20, 21, 23, 24, 25, 26, 28, 29, 30, 31, 33, 34, 35, 36] ++ [2, 7, 10, 14, 19, 22, 27, 32]) (by kernel_rfl) ?_
            refine D.fin (fr' := [(0, .slice h0.1 a0.length h0.2), (1, .slice h1.1 a1.length h1.2), (5, .int .i64 s2), (29, .slice h0.1 a0.length h0.2), (30, .int .i64 s2), (31, .pointer (some ⟨p6_14.1, p6_14.2.1 + s2.toNat * 3, none⟩)), (32, .pointer (some ⟨p6_14.1, p6_14.2.1 + s2.toNat * 3 + 1, none⟩)), (33, .int .i64 x6_14.f1), (34, .slice h1.1 a1.length h1.2), (35, .int .i64 s2), (36, .pointer (some ⟨p6_19.1, p6_19.2.1 + s2.toNat * 3, none⟩)), (37, .pointer (some ⟨p6_19.1, p6_19.2.1 + s2.toNat * 3 + 1, none⟩)), (38, .int .i64 x6_19.f1), (39, .bool false), (42, .slice h0.1 a0.length h0.2), (43, .int .i64 s2), (44, .pointer (some ⟨p6_27.1, p6_27.2.1 + s2.toNat * 3, none⟩)), (45, .pointer (some ⟨p6_27.1, p6_27.2.1 + s2.toNat * 3 + 2, none⟩)), (46, .string x6_27.f2), (47, .slice h1.1 a1.length h1.2), (48, .int .i64 s2), (49, .pointer (some ⟨p6_32.1, p6_32.2.1 + s2.toNat * 3, none⟩)), (50, .pointer (some ⟨p6_32.1, p6_32.2.1 + s2.toNat * 3 + 2, none⟩)), (51, .string x6_32.f2), (52, .bool (!(x6_27.f2.toList == x6_32.f2.toList))), (53, .bool (!(x6_27.f2.toList == x6_32.f2.toList)))]) [0, 1, 3, 4, 5, 6, 8, 9, 11, 12, 13, 15, 16, 17, 18, 20, 21, 23, 24, 25, 26, 28, 29, 30, 31, 33, 34, 35, 36] [2, 7, 10, 14, 19, 22, 27, 32] [(5, 0), (4, 0), (3, 1), (2, 1), (1, 2), (0, 2)] [p6_2.1, p6_2.2.1 + s2.toNat * 3, p6_7.1, p6_7.2.1 + s2.toNat * 3, p6_14.1, p6_14.2.1 + s2.toNat * 3 + 1, p6_19.1, p6_19.2.1 + s2.toNat * 3 + 1, p6_27.1, p6_27.2.1 + s2.toNat * 3 + 2, p6_32.1, p6_32.2.1 + s2.toNat * 3 + 2] [0, 1, 5, 29, 30, 31, 32, 33, 34, 35, 36, 37, 38, 39, 42, 43, 44, 45, 46, 47, 48, 49, 50, 51, 52, 53] (by kernel_rfl) (by kernel_rfl) (⟨QuAt.mk (v := .pointer (some ⟨p6_2.1, p6_2.2.1 + s2.toNat * 3, none⟩)) (some 19) (by kernel_rfl) (by kernel_rfl) (Qu.idx (t := 45) (x := .tmp 17) (y := .tmp 18) (c := h0.2) (kk := .i64) (sz := 3) (by kernel_rfl) (by kernel_rfl) (by kernel_rfl) (by kernel_rfl) hx6_2a (idx_lt hx6_2) hp6_2A), QuAt.mk (v := .pointer (some ⟨p6_7.1, p6_7.2.1 + s2.toNat * 3, none⟩)) (some 24) (by kernel_rfl) (by kernel_rfl) (Qu.idx (t := 48) (x := .tmp 22) (y := .tmp 23) (c := h1.2) (kk := .i64) (sz := 3) (by kernel_rfl) (by kernel_rfl) (by kernel_rfl) (by kernel_rfl) hx6_7a (idx_lt hx6_7) hp6_7A), QuAt.mk (v := .bool false) (some 27) (by kernel_rfl) (by kernel_rfl) (Qu.eqv (u := .bool (x6_2.f0 != x6_7.f0)) (v := .bool false) (0, 0) [] (by kernel_rfl) (congrArg Value.bool hc12)), QuAt.mk (v := .pointer (some ⟨p6_14.1, p6_14.2.1 + s2.toNat * 3, none⟩)) (some 31) (by kernel_rfl) (by kernel_rfl) (Qu.idx (t := 45) (x := .tmp 29) (y := .tmp 30) (c := h0.2) (kk := .i64) (sz := 3) (by kernel_rfl) (by kernel_rfl) (by kernel_rfl) (by kernel_rfl) hx6_14a (idx_lt hx6_14) hp6_14A), QuAt.mk (v := .pointer (some ⟨p6_19.1, p6_19.2.1 + s2.toNat * 3, none⟩)) (some 36) (by kernel_rfl) (by kernel_rfl) (Qu.idx (t := 48) (x := .tmp 34) (y := .tmp 35) (c := h1.2) (kk := .i64) (sz := 3) (by kernel_rfl) (by kernel_rfl) (by kernel_rfl) (by kernel_rfl) hx6_19a (idx_lt hx6_19) hp6_19A), QuAt.mk (v := .bool false) (some 39) (by kernel_rfl) (by kernel_rfl) (Qu.eqv (u := .bool (x6_14.f1 != x6_19.f1)) (v := .bool false) (0, 0) [] (by kernel_rfl) (congrArg Value.bool hc13)), QuAt.mk (v := .pointer (some ⟨p6_27.1, p6_27.2.1 + s2.toNat * 3, none⟩)) (some 44) (by kernel_rfl) (by kernel_rfl) (Qu.idx (t := 45) (x := .tmp 42) (y := .tmp 43) (c := h0.2) (kk := .i64) (sz := 3) (by kernel_rfl) (by kernel_rfl) (by kernel_rfl) (by kernel_rfl) hx6_27a (idx_lt hx6_27) hp6_27A), QuAt.mk (v := .pointer (some ⟨p6_32.1, p6_32.2.1 + s2.toNat * 3, none⟩)) (some 49) (by kernel_rfl) (by kernel_rfl) (Qu.idx (t := 48) (x := .tmp 47) (y := .tmp 48) (c := h1.2) (kk := .i64) (sz := 3) (by kernel_rfl) (by kernel_rfl) (by kernel_rfl) (by kernel_rfl) hx6_32a (idx_lt hx6_32) hp6_32A), trivial⟩) (by kernel_rfl) ?_
            rcases condE H with ⟨hc14, H⟩ | ⟨hc14, H⟩
            · refine J.condT (x := .tmp 53) (t := (!(x6_27.f2.toList == x6_32.f2.toList))) (by kernel_rfl) (by kernel_rfl) hc14 ?_
              refine J.seq (by kernel_rfl) ?_
              refine J.region (by kernel_rfl) ?_
              refine O.pure 1 [] [4] [] (fr' := [(4, .bool false)]) (bx' := []) (by kernel_rfl) ?_
              refine O.nil (by kernel_rfl) ?_
              obtain rfl := Option.some.inj H
              exact J.doneS [] [] [] [] [] () (vs := [.bool false]) (by kernel_rfl) (by kernel_rfl) (by kernel_rfl) (by kernel_rfl) (by kernel_rfl) (by decide)
            · refine J.condF (x := .tmp 53) (t := (!(x6_27.f2.toList == x6_32.f2.toList))) (by kernel_rfl) (by kernel_rfl) hc14 ?_
              refine J.skip (by kernel_rfl) ?_
              refine J.out ?_
              refine J.region (by kernel_rfl) ?_
              refine O.pure 3 [] [0, 1, 5, 29, 30, 31, 32, 33, 34, 35, 36, 37, 38, 39, 42, 43, 44, 45, 46, 47, 48, 49, 50, 51, 52] [] (fr' := [(0, .slice h0.1 a0.length h0.2), (1, .slice h1.1 a1.length h1.2), (5, .int .i64 (IntKind.wrap .i64 (s2 + 1))), (29, .slice h0.1 a0.length h0.2), (30, .int .i64 s2), (31, .pointer (some ⟨p6_14.1, p6_14.2.1 + s2.toNat * 3, none⟩)), (32, .pointer (some ⟨p6_14.1, p6_14.2.1 + s2.toNat * 3 + 1, none⟩)), (33, .int .i64 x6_14.f1), (34, .slice h1.1 a1.length h1.2), (35, .int .i64 s2), (36, .pointer (some ⟨p6_19.1, p6_19.2.1 + s2.toNat * 3, none⟩)), (37, .pointer (some ⟨p6_19.1, p6_19.2.1 + s2.toNat * 3 + 1, none⟩)), (38, .int .i64 x6_19.f1), (39, .bool false), (42, .slice h0.1 a0.length h0.2), (43, .int .i64 s2), (44, .pointer (some ⟨p6_27.1, p6_27.2.1 + s2.toNat * 3, none⟩)), (45, .pointer (some ⟨p6_27.1, p6_27.2.1 + s2.toNat * 3 + 2, none⟩)), (46, .string x6_27.f2), (47, .slice h1.1 a1.length h1.2), (48, .int .i64 s2), (49, .pointer (some ⟨p6_32.1, p6_32.2.1 + s2.toNat * 3, none⟩)), (50, .pointer (some ⟨p6_32.1, p6_32.2.1 + s2.toNat * 3 + 2, none⟩)), (51, .string x6_32.f2), (52, .bool (!(x6_27.f2.toList == x6_32.f2.toList)))]) (bx' := []) (by kernel_rfl) ?_
              refine O.nil (by kernel_rfl) ?_
              exact J.conv2 [0, 1, 5] [0, 1] [] [] (by kernel_rfl) (by kernel_rfl) (by kernel_rfl) (by kernel_rfl) (by decide) (ih2 (IntKind.wrap .i64 (s2 + 1)) () H)
      · refine J.condF (x := .tmp 14) (t := (decide (s2 < (a0.length : Int)))) (by kernel_rfl) (by kernel_rfl) hc11 ?_
        refine J.exit (id := 0) (by kernel_rfl) rfl ?_
        refine J.seq (by kernel_rfl) ?_
        refine J.region (by kernel_rfl) ?_
        refine O.pure 1 [] [4] [] (fr' := [(4, .bool true)]) (bx' := []) (by kernel_rfl) ?_
        refine O.nil (by kernel_rfl) ?_
        obtain rfl := Option.some.inj H
        exact J.doneS [] [] [] [] [] () (vs := [.bool true]) (by kernel_rfl) (by kernel_rfl) (by kernel_rfl) (by kernel_rfl) (by kernel_rfl) (by decide)
    · exact J.conv2 [0, 1, 5] [0, 1] [] [] (by kernel_rfl) (by kernel_rfl) (by kernel_rfl) (by kernel_rfl) (by decide) h_
/-! ### haywain/haywainref16.Take: function 22 -/
def haywainref16_Take.l15 (K : Nat) (a1 : S56) (x1_1 : S29) : Nat → ((List S74) × Int × Int) → Option ((List S74) × Int)
  | 0, _ => none
  | k + 1, s15 => cond (decide (s15.2.1 < (x1_1.f3.length : Int))) ((idxO x1_1.f3 s15.2.1).bind fun x8_3 => cond (decide (x8_3.f0 > a1.f1)) ((idxO x1_1.f3 s15.2.1).bind fun x9_4 => (appO 24 s15.1 ([x9_4] : List S74)).bind fun y9_7 => haywainref16_Take.l15 K a1 x1_1 k ((s15.1 ++ ([x9_4] : List S74)), (IntKind.wrap .i64 (s15.2.1 + 1)), s15.2.2)) (haywainref16_Take.l15 K a1 x1_1 k (s15.1, (IntKind.wrap .i64 (s15.2.1 + 1)), 0))) (some ((s15.1, s15.2.2)))
def haywainref16_Take.f (K : Nat) (a0 : S29) (a1 : S56) : Option (S29 × ByteArray × Bool) := (haywainref16_Good.f K a0).bind fun x1_1 => cond (decide (a1.f0 < 0)) (some ((x1_1, (⟨#[]⟩ : ByteArray), false))) (cond (decide (a1.f1 < 0)) (some ((x1_1, (⟨#[]⟩ : ByteArray), false))) (cond (decide (a1.f1 > (IntKind.wrap .i64 (x1_1.f0 - 1)))) (some ((x1_1, (⟨#[]⟩ : ByteArray), false))) ((haywainref16_Take.l15 K a1 x1_1 K (([] : List S74), 0, x1_1.f2) : Option ((List S74) × Int)).bind fun o4 : (List S74) × Int => cond (decide (a1.f0 > 0)) (cond (a1.f0 == x1_1.f1) (cond (decide (x1_1.f1 < 1099511627776)) (some (((⟨x1_1.f0, (IntKind.wrap .i64 (x1_1.f1 + 1)), o4.2, o4.1, true⟩ : S29), a1.f2, true))) (some (((⟨x1_1.f0, x1_1.f1, o4.2, o4.1, true⟩ : S29), (⟨#[]⟩ : ByteArray), false)))) (some (((⟨x1_1.f0, x1_1.f1, o4.2, o4.1, true⟩ : S29), (⟨#[]⟩ : ByteArray), false)))) (some (((⟨x1_1.f0, x1_1.f1, o4.2, o4.1, x1_1.f4⟩ : S29), (⟨#[]⟩ : ByteArray), false))))))
set_option maxRecDepth 100000 in
set_option maxHeartbeats 1000000 in
theorem haywainref16_Take.con (K : Nat) (a0 : S29) (a1 : S56) (h0 : Hd) (r : (S29 × ByteArray × Bool)) (X : Nat → Nat → Prop) (w : World) (hS : St X w [] [] [] [] [Rd kd74 h0.1 h0.2 a0.f3] w) (H : haywainref16_Take.f K a0 a1 = some r) :
    Cn Try.prog 22 [.agg #[.int .i64 a0.f0, .int .i64 a0.f1, .int .i64 a0.f2, .slice h0.1 a0.f3.length h0.2, .bool a0.f4], .agg #[.int .i64 a1.f0, .int .i64 a1.f1, .string a1.f2]] X w [] (fun i : Hd => .tuple #[.agg #[.int .i64 r.1.f0, .int .i64 r.1.f1, .int .i64 r.1.f2, .slice i.1 r.1.f3.length i.2, .bool r.1.f4], .string r.2.1, .bool r.2.2]) (fun i => []) (fun i => []) (fun i => [Rd kd74 i.1 i.2 r.1.f3]) := by
  refine Cn.of Try.func22 (by kernel_rfl) hS ?_
  unfold haywainref16_Take.f at H
  refine J.seq (by kernel_rfl) ?_
  refine J.region (by kernel_rfl) ?_
  refine O.e (some 2) (Ev.box (t := 29) (x := .tmp 0) (v := .agg #[.int .i64 a0.f0, .int .i64 a0.f1, .int .i64 a0.f2, .slice h0.1 a0.f3.length h0.2, .bool a0.f4]) (by kernel_rfl) (by kernel_rfl)) (by kernel_rfl) (fun p0_0 => ?_)
  refine O.e (some 3) (Ev.box (t := 56) (x := .tmp 1) (v := .agg #[.int .i64 a1.f0, .int .i64 a1.f1, .string a1.f2]) (by kernel_rfl) (by kernel_rfl)) (by kernel_rfl) (fun p0_1 => ?_)
  refine O.e (some 4) (Ev.alloc (t := 29) (z := .agg #[.int .i64 0, .int .i64 0, .int .i64 0, .slice none 0 0, .bool false]) (by kernel_rfl) (by kernel_rfl)) (by kernel_rfl) (fun p0_2 => ?_)
  refine O.pure 2 [] [2, 3, 4] [] (fr' := [(2, .pointer (some ⟨p0_0, 0, none⟩)), (3, .pointer (some ⟨p0_1, 0, none⟩)), (4, .pointer (some ⟨p0_2, 0, none⟩))]) (bx' := [⟨p0_2, [.int .i64 0, .int .i64 0, .int .i64 0, .slice none 0 0, .bool false], 29⟩, ⟨p0_1, [.int .i64 a1.f0, .int .i64 a1.f1, .string a1.f2], 56⟩, ⟨p0_0, [.int .i64 a0.f0, .int .i64 a0.f1, .int .i64 a0.f2, .slice h0.1 a0.f3.length h0.2, .bool a0.f4], 29⟩]) (by kernel_rfl) ?_
  refine O.nil (by kernel_rfl) ?_
  refine J.seq (by kernel_rfl) ?_
  obtain ⟨x1_1, hx1_1, H⟩ := bindE H
  refine J.region (by kernel_rfl) ?_
  refine O.pure 1 [(2, 0)] [2, 3, 4, 9] [p0_0, 0] (fr' := [(2, .pointer (some ⟨p0_0, 0, none⟩)), (3, .pointer (some ⟨p0_1, 0, none⟩)), (4, .pointer (some ⟨p0_2, 0, none⟩)), (9, .agg #[.int .i64 a0.f0, .int .i64 a0.f1, .int .i64 a0.f2, .slice h0.1 a0.f3.length h0.2, .bool a0.f4])]) (bx' := [⟨p0_2, [.int .i64 0, .int .i64 0, .int .i64 0, .slice none 0 0, .bool false], 29⟩, ⟨p0_1, [.int .i64 a1.f0, .int .i64 a1.f1, .string a1.f2], 56⟩, ⟨p0_0, [.int .i64 a0.f0, .int .i64 a0.f1, .int .i64 a0.f2, .slice h0.1 a0.f3.length h0.2, .bool a0.f4], 29⟩]) (by kernel_rfl) ?_
  refine O.e (some 10) (Ev.call0 (xs := [.tmp 9]) [0] (by kernel_rfl) (by kernel_rfl) (fun w hS => haywainref16_Good.con K a0 h0  _ _ w hS hx1_1)) (by kernel_rfl) (fun p1_1 => ?_)
  refine O.pure 1 [(2, 0)] [2, 3, 4] [p0_0, 0] (fr' := [(2, .pointer (some ⟨p0_0, 0, none⟩)), (3, .pointer (some ⟨p0_1, 0, none⟩)), (4, .pointer (some ⟨p0_2, 0, none⟩))]) (bx' := [⟨p0_2, [.int .i64 0, .int .i64 0, .int .i64 0, .slice none 0 0, .bool false], 29⟩, ⟨p0_1, [.int .i64 a1.f0, .int .i64 a1.f1, .string a1.f2], 56⟩, ⟨p0_0, [.int .i64 x1_1.f0, .int .i64 x1_1.f1, .int .i64 x1_1.f2, .slice p1_1.1 x1_1.f3.length p1_1.2, .bool x1_1.f4], 29⟩]) (by kernel_rfl) ?_
  refine O.nil (by kernel_rfl) ?_
  refine J.seq (by kernel_rfl) ?_
  refine J.seq (by kernel_rfl) ?_
  rcases condE H with ⟨hc1, H⟩ | ⟨hc1, H⟩
  · refine J.region (by kernel_rfl) ?_
    refine O.pure 2 [(1, 0)] [2, 3, 4, 12] [p0_1, 0] (fr' := [(2, .pointer (some ⟨p0_0, 0, none⟩)), (3, .pointer (some ⟨p0_1, 0, none⟩)), (4, .pointer (some ⟨p0_2, 0, none⟩)), (12, .int .i64 a1.f0)]) (bx' := [⟨p0_2, [.int .i64 0, .int .i64 0, .int .i64 0, .slice none 0 0, .bool false], 29⟩, ⟨p0_1, [.int .i64 a1.f0, .int .i64 a1.f1, .string a1.f2], 56⟩, ⟨p0_0, [.int .i64 x1_1.f0, .int .i64 x1_1.f1, .int .i64 x1_1.f2, .slice p1_1.1 x1_1.f3.length p1_1.2, .bool x1_1.f4], 29⟩]) (by kernel_rfl) ?_
    refine O.q (v := .bool true) (some 13) (Qu.eqv (u := .bool (decide (a1.f0 < 0))) (v := .bool true) (0, 0) [] (by kernel_rfl) (congrArg Value.bool hc1)) (by kernel_rfl) ?_
    refine O.pure 13 [] [2, 3, 4, 26] [] (fr' := [(2, .pointer (some ⟨p0_0, 0, none⟩)), (3, .pointer (some ⟨p0_1, 0, none⟩)), (4, .pointer (some ⟨p0_2, 0, none⟩)), (26, .bool true)]) (bx' := [⟨p0_2, [.int .i64 0, .int .i64 0, .int .i64 0, .slice none 0 0, .bool false], 29⟩, ⟨p0_1, [.int .i64 a1.f0, .int .i64 a1.f1, .string a1.f2], 56⟩, ⟨p0_0, [.int .i64 x1_1.f0, .int .i64 x1_1.f1, .int .i64 x1_1.f2, .slice p1_1.1 x1_1.f3.length p1_1.2, .bool x1_1.f4], 29⟩]) (by kernel_rfl) ?_
    refine O.nil (by kernel_rfl) ?_
    refine J.cond (o := .tmp 26) true (by kernel_rfl) (by kernel_rfl) ?_
    refine J.seq (by kernel_rfl) ?_
    refine J.region (by kernel_rfl) ?_
    refine O.pure 4 [(2, 0), (0, 0)] [4, 5, 6] [p0_0, 0, p0_2, 0] (fr' := [(4, .pointer (some ⟨p0_2, 0, none⟩)), (5, .string (⟨#[]⟩ : ByteArray)), (6, .bool false)]) (bx' := [⟨p0_2, [.int .i64 x1_1.f0, .int .i64 x1_1.f1, .int .i64 x1_1.f2, .slice p1_1.1 x1_1.f3.length p1_1.2, .bool x1_1.f4], 29⟩, ⟨p0_1, [.int .i64 a1.f0, .int .i64 a1.f1, .string a1.f2], 56⟩, ⟨p0_0, [.int .i64 x1_1.f0, .int .i64 x1_1.f1, .int .i64 x1_1.f2, .slice p1_1.1 x1_1.f3.length p1_1.2, .bool x1_1.f4], 29⟩]) (by kernel_rfl) ?_
    refine O.nil (by kernel_rfl) ?_
    obtain rfl := Option.some.inj H
    exact J.doneS [(0, 0)] [p0_2, 0] [0] [] [] p1_1 (vs := [.agg #[.int .i64 x1_1.f0, .int .i64 x1_1.f1, .int .i64 x1_1.f2, .slice p1_1.1 x1_1.f3.length p1_1.2, .bool x1_1.f4], .string (⟨#[]⟩ : ByteArray), .bool false]) (by kernel_rfl) (by kernel_rfl) (by kernel_rfl) (by kernel_rfl) (by kernel_rfl) (by decide)
  · rcases condE H with ⟨hc2, H⟩ | ⟨hc2, H⟩
    · refine J.region (by kernel_rfl) ?_
      refine O.pure 2 [(1, 0)] [2, 3, 4, 12] [p0_1, 0] (fr' := [(2, .pointer (some ⟨p0_0, 0, none⟩)), (3, .pointer (some ⟨p0_1, 0, none⟩)), (4, .pointer (some ⟨p0_2, 0, none⟩)), (12, .int .i64 a1.f0)]) (bx' := [⟨p0_2, [.int .i64 0, .int .i64 0, .int .i64 0, .slice none 0 0, .bool false], 29⟩, ⟨p0_1, [.int .i64 a1.f0, .int .i64 a1.f1, .string a1.f2], 56⟩, ⟨p0_0, [.int .i64 x1_1.f0, .int .i64 x1_1.f1, .int .i64 x1_1.f2, .slice p1_1.1 x1_1.f3.length p1_1.2, .bool x1_1.f4], 29⟩]) (by kernel_rfl) ?_
      refine O.q (v := .bool false) (some 13) (Qu.eqv (u := .bool (decide (a1.f0 < 0))) (v := .bool false) (0, 0) [] (by kernel_rfl) (congrArg Value.bool hc1)) (by kernel_rfl) ?_
      refine O.pure 3 [(1, 1)] [2, 3, 4, 14, 16] [p0_1, 1] (fr' := [(2, .pointer (some ⟨p0_0, 0, none⟩)), (3, .pointer (some ⟨p0_1, 0, none⟩)), (4, .pointer (some ⟨p0_2, 0, none⟩)), (14, .bool false), (16, .int .i64 a1.f1)]) (bx' := [⟨p0_2, [.int .i64 0, .int .i64 0, .int .i64 0, .slice none 0 0, .bool false], 29⟩, ⟨p0_1, [.int .i64 a1.f0, .int .i64 a1.f1, .string a1.f2], 56⟩, ⟨p0_0, [.int .i64 x1_1.f0, .int .i64 x1_1.f1, .int .i64 x1_1.f2, .slice p1_1.1 x1_1.f3.length p1_1.2, .bool x1_1.f4], 29⟩]) (by kernel_rfl) ?_
      refine O.q (v := .bool true) (some 17) (Qu.eqv (u := .bool (decide (a1.f1 < 0))) (v := .bool true) (0, 0) [] (by kernel_rfl) (congrArg Value.bool hc2)) (by kernel_rfl) ?_
      refine O.pure 9 [] [2, 3, 4, 26] [] (fr' := [(2, .pointer (some ⟨p0_0, 0, none⟩)), (3, .pointer (some ⟨p0_1, 0, none⟩)), (4, .pointer (some ⟨p0_2, 0, none⟩)), (26, .bool true)]) (bx' := [⟨p0_2, [.int .i64 0, .int .i64 0, .int .i64 0, .slice none 0 0, .bool false], 29⟩, ⟨p0_1, [.int .i64 a1.f0, .int .i64 a1.f1, .string a1.f2], 56⟩, ⟨p0_0, [.int .i64 x1_1.f0, .int .i64 x1_1.f1, .int .i64 x1_1.f2, .slice p1_1.1 x1_1.f3.length p1_1.2, .bool x1_1.f4], 29⟩]) (by kernel_rfl) ?_
      refine O.nil (by kernel_rfl) ?_
      refine J.cond (o := .tmp 26) true (by kernel_rfl) (by kernel_rfl) ?_
      refine J.seq (by kernel_rfl) ?_
      refine J.region (by kernel_rfl) ?_
      refine O.pure 4 [(2, 0), (0, 0)] [4, 5, 6] [p0_0, 0, p0_2, 0] (fr' := [(4, .pointer (some ⟨p0_2, 0, none⟩)), (5, .string (⟨#[]⟩ : ByteArray)), (6, .bool false)]) (bx' := [⟨p0_2, [.int .i64 x1_1.f0, .int .i64 x1_1.f1, .int .i64 x1_1.f2, .slice p1_1.1 x1_1.f3.length p1_1.2, .bool x1_1.f4], 29⟩, ⟨p0_1, [.int .i64 a1.f0, .int .i64 a1.f1, .string a1.f2], 56⟩, ⟨p0_0, [.int .i64 x1_1.f0, .int .i64 x1_1.f1, .int .i64 x1_1.f2, .slice p1_1.1 x1_1.f3.length p1_1.2, .bool x1_1.f4], 29⟩]) (by kernel_rfl) ?_
      refine O.nil (by kernel_rfl) ?_
      obtain rfl := Option.some.inj H
      exact J.doneS [(0, 0)] [p0_2, 0] [0] [] [] p1_1 (vs := [.agg #[.int .i64 x1_1.f0, .int .i64 x1_1.f1, .int .i64 x1_1.f2, .slice p1_1.1 x1_1.f3.length p1_1.2, .bool x1_1.f4], .string (⟨#[]⟩ : ByteArray), .bool false]) (by kernel_rfl) (by kernel_rfl) (by kernel_rfl) (by kernel_rfl) (by kernel_rfl) (by decide)
    · refine J.region (by kernel_rfl) ?_
      refine O.pure 2 [(1, 0)] [2, 3, 4, 12] [p0_1, 0] (fr' := [(2, .pointer (some ⟨p0_0, 0, none⟩)), (3, .pointer (some ⟨p0_1, 0, none⟩)), (4, .pointer (some ⟨p0_2, 0, none⟩)), (12, .int .i64 a1.f0)]) (bx' := [⟨p0_2, [.int .i64 0, .int .i64 0, .int .i64 0, .slice none 0 0, .bool false], 29⟩, ⟨p0_1, [.int .i64 a1.f0, .int .i64 a1.f1, .string a1.f2], 56⟩, ⟨p0_0, [.int .i64 x1_1.f0, .int .i64 x1_1.f1, .int .i64 x1_1.f2, .slice p1_1.1 x1_1.f3.length p1_1.2, .bool x1_1.f4], 29⟩]) (by kernel_rfl) ?_
      refine O.q (v := .bool false) (some 13) (Qu.eqv (u := .bool (decide (a1.f0 < 0))) (v := .bool false) (0, 0) [] (by kernel_rfl) (congrArg Value.bool hc1)) (by kernel_rfl) ?_
      refine O.pure 3 [(1, 1)] [2, 3, 4, 14, 16] [p0_1, 1] (fr' := [(2, .pointer (some ⟨p0_0, 0, none⟩)), (3, .pointer (some ⟨p0_1, 0, none⟩)), (4, .pointer (some ⟨p0_2, 0, none⟩)), (14, .bool false), (16, .int .i64 a1.f1)]) (bx' := [⟨p0_2, [.int .i64 0, .int .i64 0, .int .i64 0, .slice none 0 0, .bool false], 29⟩, ⟨p0_1, [.int .i64 a1.f0, .int .i64 a1.f1, .string a1.f2], 56⟩, ⟨p0_0, [.int .i64 x1_1.f0, .int .i64 x1_1.f1, .int .i64 x1_1.f2, .slice p1_1.1 x1_1.f3.length p1_1.2, .bool x1_1.f4], 29⟩]) (by kernel_rfl) ?_
      refine O.q (v := .bool false) (some 17) (Qu.eqv (u := .bool (decide (a1.f1 < 0))) (v := .bool false) (0, 0) [] (by kernel_rfl) (congrArg Value.bool hc2)) (by kernel_rfl) ?_
      refine O.pure 9 [(1, 1), (2, 0)] [2, 3, 4, 26] [p0_1, 1, p0_0, 0] (fr' := [(2, .pointer (some ⟨p0_0, 0, none⟩)), (3, .pointer (some ⟨p0_1, 0, none⟩)), (4, .pointer (some ⟨p0_2, 0, none⟩)), (26, .bool (decide (a1.f1 > (IntKind.wrap .i64 (x1_1.f0 - 1)))))]) (bx' := [⟨p0_2, [.int .i64 0, .int .i64 0, .int .i64 0, .slice none 0 0, .bool false], 29⟩, ⟨p0_1, [.int .i64 a1.f0, .int .i64 a1.f1, .string a1.f2], 56⟩, ⟨p0_0, [.int .i64 x1_1.f0, .int .i64 x1_1.f1, .int .i64 x1_1.f2, .slice p1_1.1 x1_1.f3.length p1_1.2, .bool x1_1.f4], 29⟩]) (by kernel_rfl) ?_
      refine O.nil (by kernel_rfl) ?_
      rcases condE H with ⟨hc3, H⟩ | ⟨hc3, H⟩
      · refine J.condT (x := .tmp 26) (t := (decide (a1.f1 > (IntKind.wrap .i64 (x1_1.f0 - 1))))) (by kernel_rfl) (by kernel_rfl) hc3 ?_
        refine J.seq (by kernel_rfl) ?_
        refine J.region (by kernel_rfl) ?_
        refine O.pure 4 [(2, 0), (0, 0)] [4, 5, 6] [p0_0, 0, p0_2, 0] (fr' := [(4, .pointer (some ⟨p0_2, 0, none⟩)), (5, .string (⟨#[]⟩ : ByteArray)), (6, .bool false)]) (bx' := [⟨p0_2, [.int .i64 x1_1.f0, .int .i64 x1_1.f1, .int .i64 x1_1.f2, .slice p1_1.1 x1_1.f3.length p1_1.2, .bool x1_1.f4], 29⟩, ⟨p0_1, [.int .i64 a1.f0, .int .i64 a1.f1, .string a1.f2], 56⟩, ⟨p0_0, [.int .i64 x1_1.f0, .int .i64 x1_1.f1, .int .i64 x1_1.f2, .slice p1_1.1 x1_1.f3.length p1_1.2, .bool x1_1.f4], 29⟩]) (by kernel_rfl) ?_
        refine O.nil (by kernel_rfl) ?_
        obtain rfl := Option.some.inj H
        exact J.doneS [(0, 0)] [p0_2, 0] [0] [] [] p1_1 (vs := [.agg #[.int .i64 x1_1.f0, .int .i64 x1_1.f1, .int .i64 x1_1.f2, .slice p1_1.1 x1_1.f3.length p1_1.2, .bool x1_1.f4], .string (⟨#[]⟩ : ByteArray), .bool false]) (by kernel_rfl) (by kernel_rfl) (by kernel_rfl) (by kernel_rfl) (by kernel_rfl) (by decide)
      · refine J.condF (x := .tmp 26) (t := (decide (a1.f1 > (IntKind.wrap .i64 (x1_1.f0 - 1))))) (by kernel_rfl) (by kernel_rfl) hc3 ?_
        refine J.skip (by kernel_rfl) ?_
        refine J.seq (by kernel_rfl) ?_
        refine J.region (by kernel_rfl) ?_
        refine O.pure 1 [] [2, 3, 4, 7] [] (fr' := [(2, .pointer (some ⟨p0_0, 0, none⟩)), (3, .pointer (some ⟨p0_1, 0, none⟩)), (4, .pointer (some ⟨p0_2, 0, none⟩)), (7, .slice none 0 0)]) (bx' := [⟨p0_2, [.int .i64 0, .int .i64 0, .int .i64 0, .slice none 0 0, .bool false], 29⟩, ⟨p0_1, [.int .i64 a1.f0, .int .i64 a1.f1, .string a1.f2], 56⟩, ⟨p0_0, [.int .i64 x1_1.f0, .int .i64 x1_1.f1, .int .i64 x1_1.f2, .slice p1_1.1 x1_1.f3.length p1_1.2, .bool x1_1.f4], 29⟩]) (by kernel_rfl) ?_
        refine O.nil (by kernel_rfl) ?_
        refine J.seq (by kernel_rfl) ?_
        refine J.seq (by kernel_rfl) ?_
        refine J.region (by kernel_rfl) ?_
        refine O.pure 1 [] [2, 3, 4, 7, 8] [] (fr' := [(2, .pointer (some ⟨p0_0, 0, none⟩)), (3, .pointer (some ⟨p0_1, 0, none⟩)), (4, .pointer (some ⟨p0_2, 0, none⟩)), (7, .slice none 0 0), (8, .int .i64 0)]) (bx' := [⟨p0_2, [.int .i64 0, .int .i64 0, .int .i64 0, .slice none 0 0, .bool false], 29⟩, ⟨p0_1, [.int .i64 a1.f0, .int .i64 a1.f1, .string a1.f2], 56⟩, ⟨p0_0, [.int .i64 x1_1.f0, .int .i64 x1_1.f1, .int .i64 x1_1.f2, .slice p1_1.1 x1_1.f3.length p1_1.2, .bool x1_1.f4], 29⟩]) (by kernel_rfl) ?_
        refine O.nil (by kernel_rfl) ?_
        refine J.join (α := (List S74) × Int) (γ := Hd) (fun o4 q4 => [(2, .pointer (some ⟨p0_0, 0, none⟩)), (3, .pointer (some ⟨p0_1, 0, none⟩)), (4, .pointer (some ⟨p0_2, 0, none⟩)), (7, .slice q4.1 o4.1.length q4.2)]) (fun o4 q4 => St X w [] [⟨p0_2, [.int .i64 0, .int .i64 0, .int .i64 0, .slice none 0 0, .bool false], 29⟩, ⟨p0_1, [.int .i64 a1.f0, .int .i64 a1.f1, .string a1.f2], 56⟩, ⟨p0_0, [.int .i64 x1_1.f0, .int .i64 x1_1.f1, .int .i64 o4.2, .slice p1_1.1 x1_1.f3.length p1_1.2, .bool x1_1.f4], 29⟩] [mkRow kd74 74 (.slice q4.1 o4.1.length q4.2) o4.1] [] [Rd kd74 p1_1.1 p1_1.2 x1_1.f3, Rd kd74 h0.1 h0.2 a0.f3]) H (fun o4 q4 H => ?_) (fun o4 H hj4 => ?_)
        · refine J.seq (by kernel_rfl) ?_
          refine J.region (by kernel_rfl) ?_
          refine O.pure 3 [(2, 3)] [2, 3, 4] [p0_0, 3] (fr' := [(2, .pointer (some ⟨p0_0, 0, none⟩)), (3, .pointer (some ⟨p0_1, 0, none⟩)), (4, .pointer (some ⟨p0_2, 0, none⟩))]) (bx' := [⟨p0_2, [.int .i64 0, .int .i64 0, .int .i64 0, .slice none 0 0, .bool false], 29⟩, ⟨p0_1, [.int .i64 a1.f0, .int .i64 a1.f1, .string a1.f2], 56⟩, ⟨p0_0, [.int .i64 x1_1.f0, .int .i64 x1_1.f1, .int .i64 o4.2, .slice q4.1 o4.1.length q4.2, .bool x1_1.f4], 29⟩]) (by kernel_rfl) ?_
          refine O.nil (by kernel_rfl) ?_
          refine J.seq (by kernel_rfl) ?_
          refine J.seq (by kernel_rfl) ?_
          refine J.region (by kernel_rfl) ?_
          refine O.pure 3 [(1, 0)] [2, 3, 4, 57] [p0_1, 0] (fr' := [(2, .pointer (some ⟨p0_0, 0, none⟩)), (3, .pointer (some ⟨p0_1, 0, none⟩)), (4, .pointer (some ⟨p0_2, 0, none⟩)), (57, .bool (decide (a1.f0 > 0)))]) (bx' := [⟨p0_2, [.int .i64 0, .int .i64 0, .int .i64 0, .slice none 0 0, .bool false], 29⟩, ⟨p0_1, [.int .i64 a1.f0, .int .i64 a1.f1, .string a1.f2], 56⟩, ⟨p0_0, [.int .i64 x1_1.f0, .int .i64 x1_1.f1, .int .i64 o4.2, .slice q4.1 o4.1.length q4.2, .bool x1_1.f4], 29⟩]) (by kernel_rfl) ?_
          refine O.nil (by kernel_rfl) ?_
          rcases condE H with ⟨hc12, H⟩ | ⟨hc12, H⟩
          · refine J.condT (x := .tmp 57) (t := (decide (a1.f0 > 0))) (by kernel_rfl) (by kernel_rfl) hc12 ?_
            refine J.seq (by kernel_rfl) ?_
            refine J.region (by kernel_rfl) ?_
            refine O.pure 2 [(2, 4)] [2, 3, 4] [p0_0, 4] (fr' := [(2, .pointer (some ⟨p0_0, 0, none⟩)), (3, .pointer (some ⟨p0_1, 0, none⟩)), (4, .pointer (some ⟨p0_2, 0, none⟩))]) (bx' := [⟨p0_2, [.int .i64 0, .int .i64 0, .int .i64 0, .slice none 0 0, .bool false], 29⟩, ⟨p0_1, [.int .i64 a1.f0, .int .i64 a1.f1, .string a1.f2], 56⟩, ⟨p0_0, [.int .i64 x1_1.f0, .int .i64 x1_1.f1, .int .i64 o4.2, .slice q4.1 o4.1.length q4.2, .bool true], 29⟩]) (by kernel_rfl) ?_
            refine O.nil (by kernel_rfl) ?_
            refine J.seq (by kernel_rfl) ?_
            rcases condE H with ⟨hc13, H⟩ | ⟨hc13, H⟩
            · refine J.region (by kernel_rfl) ?_
              refine O.pure 4 [(1, 0), (2, 1)] [2, 3, 4, 60, 62] [p0_1, 0, p0_0, 1] (fr' := [(2, .pointer (some ⟨p0_0, 0, none⟩)), (3, .pointer (some ⟨p0_1, 0, none⟩)), (4, .pointer (some ⟨p0_2, 0, none⟩)), (60, .int .i64 a1.f0), (62, .int .i64 x1_1.f1)]) (bx' := [⟨p0_2, [.int .i64 0, .int .i64 0, .int .i64 0, .slice none 0 0, .bool false], 29⟩, ⟨p0_1, [.int .i64 a1.f0, .int .i64 a1.f1, .string a1.f2], 56⟩, ⟨p0_0, [.int .i64 x1_1.f0, .int .i64 x1_1.f1, .int .i64 o4.2, .slice q4.1 o4.1.length q4.2, .bool true], 29⟩]) (by kernel_rfl) ?_
              refine O.q (v := .bool true) (some 63) (Qu.eqv (u := .bool (a1.f0 == x1_1.f1)) (v := .bool true) (0, 0) [] (by kernel_rfl) (congrArg Value.bool hc13)) (by kernel_rfl) ?_
              refine O.pure 5 [(2, 1)] [2, 3, 4, 68] [p0_0, 1] (fr' := [(2, .pointer (some ⟨p0_0, 0, none⟩)), (3, .pointer (some ⟨p0_1, 0, none⟩)), (4, .pointer (some ⟨p0_2, 0, none⟩)), (68, .bool (decide (x1_1.f1 < 1099511627776)))]) (bx' := [⟨p0_2, [.int .i64 0, .int .i64 0, .int .i64 0, .slice none 0 0, .bool false], 29⟩, ⟨p0_1, [.int .i64 a1.f0, .int .i64 a1.f1, .string a1.f2], 56⟩, ⟨p0_0, [.int .i64 x1_1.f0, .int .i64 x1_1.f1, .int .i64 o4.2, .slice q4.1 o4.1.length q4.2, .bool true], 29⟩]) (by kernel_rfl) ?_
              refine O.nil (by kernel_rfl) ?_
              rcases condE H with ⟨hc14, H⟩ | ⟨hc14, H⟩
              · refine J.condT (x := .tmp 68) (t := (decide (x1_1.f1 < 1099511627776))) (by kernel_rfl) (by kernel_rfl) hc14 ?_
                refine J.seq (by kernel_rfl) ?_
                refine J.region (by kernel_rfl) ?_
                refine O.pure 5 [(2, 1), (2, 1)] [2, 3, 4] [p0_0, 1, p0_0, 1] (fr' := [(2, .pointer (some ⟨p0_0, 0, none⟩)), (3, .pointer (some ⟨p0_1, 0, none⟩)), (4, .pointer (some ⟨p0_2, 0, none⟩))]) (bx' := [⟨p0_2, [.int .i64 0, .int .i64 0, .int .i64 0, .slice none 0 0, .bool false], 29⟩, ⟨p0_1, [.int .i64 a1.f0, .int .i64 a1.f1, .string a1.f2], 56⟩, ⟨p0_0, [.int .i64 x1_1.f0, .int .i64 (IntKind.wrap .i64 (x1_1.f1 + 1)), .int .i64 o4.2, .slice q4.1 o4.1.length q4.2, .bool true], 29⟩]) (by kernel_rfl) ?_
                refine O.nil (by kernel_rfl) ?_
                refine J.seq (by kernel_rfl) ?_
                refine J.drawS (by kernel_rfl) [(0, some 73, .agg #[.int .i64 x1_1.f0, .int .i64 (IntKind.wrap .i64 (x1_1.f1 + 1)), .int .i64 o4.2, .slice q4.1 o4.1.length q4.2, .bool true]), (1, some 74, .pointer (some ⟨p0_1, 2, none⟩)), (2, some 75, .string a1.f2)] ([0, 1, 2] ++ []) (by kernel_rfl) ?_
                refine D.mid (cs := [3]) [0, 1, 2] [] [(2, 0), (1, 2)] [p0_0, 0, p0_1, 2] (by kernel_rfl) (by kernel_rfl) trivial (by kernel_rfl) ⟨?_, trivial⟩
                refine EvStep.mk none (new := fun _ => [(4, some 5, .string a1.f2), (5, some 6, .bool true)]) ([1, 2, 4, 5] ++ []) (by kernel_rfl) (Ev.store (kk := 0) (cs := [.int .i64 x1_1.f0, .int .i64 (IntKind.wrap .i64 (x1_1.f1 + 1)), .int .i64 o4.2, .slice q4.1 o4.1.length q4.2, .bool true]) (0, 0) [p0_2, 0] (by kernel_rfl)) (fun _ => by kernel_rfl) (fun _ => ?_)
                refine D.fin (fr' := [(4, .pointer (some ⟨p0_2, 0, none⟩)), (5, .string a1.f2), (6, .bool true)]) [1, 2, 4, 5] [] [(1, 2)] [p0_1, 2] [4, 5, 6] (by kernel_rfl) (by kernel_rfl) trivial (by kernel_rfl) ?_
                obtain rfl := Option.some.inj H
                refine J.mono (fun w hS => hS.freezeH (h := q4) (xs := o4.1)) ?_
                exact J.doneS [(0, 0)] [p0_2, 0] [0] [] [] q4 (vs := [.agg #[.int .i64 x1_1.f0, .int .i64 (IntKind.wrap .i64 (x1_1.f1 + 1)), .int .i64 o4.2, .slice q4.1 o4.1.length q4.2, .bool true], .string a1.f2, .bool true]) (by kernel_rfl) (by kernel_rfl) (by kernel_rfl) (by kernel_rfl) (by kernel_rfl) (by decide)
              · refine J.condF (x := .tmp 68) (t := (decide (x1_1.f1 < 1099511627776))) (by kernel_rfl) (by kernel_rfl) hc14 ?_
                refine J.skip (by kernel_rfl) ?_
                refine J.seq (by kernel_rfl) ?_
                refine J.region (by kernel_rfl) ?_
                refine O.pure 4 [(2, 0), (0, 0)] [4, 5, 6] [p0_0, 0, p0_2, 0] (fr' := [(4, .pointer (some ⟨p0_2, 0, none⟩)), (5, .string (⟨#[]⟩ : ByteArray)), (6, .bool false)]) (bx' := [⟨p0_2, [.int .i64 x1_1.f0, .int .i64 x1_1.f1, .int .i64 o4.2, .slice q4.1 o4.1.length q4.2, .bool true], 29⟩, ⟨p0_1, [.int .i64 a1.f0, .int .i64 a1.f1, .string a1.f2], 56⟩, ⟨p0_0, [.int .i64 x1_1.f0, .int .i64 x1_1.f1, .int .i64 o4.2, .slice q4.1 o4.1.length q4.2, .bool true], 29⟩]) (by kernel_rfl) ?_
                refine O.nil (by kernel_rfl) ?_
                obtain rfl := Option.some.inj H
                refine J.mono (fun w hS => hS.freezeH (h := q4) (xs := o4.1)) ?_
                exact J.doneS [(0, 0)] [p0_2, 0] [0] [] [] q4 (vs := [.agg #[.int .i64 x1_1.f0, .int .i64 x1_1.f1, .int .i64 o4.2, .slice q4.1 o4.1.length q4.2, .bool true], .string (⟨#[]⟩ : ByteArray), .bool false]) (by kernel_rfl) (by kernel_rfl) (by kernel_rfl) (by kernel_rfl) (by kernel_rfl) (by decide)
            · refine J.region (by kernel_rfl) ?_
              refine O.pure 4 [(1, 0), (2, 1)] [2, 3, 4, 60, 62] [p0_1, 0, p0_0, 1] (fr' := [(2, .pointer (some ⟨p0_0, 0, none⟩)), (3, .pointer (some ⟨p0_1, 0, none⟩)), (4, .pointer (some ⟨p0_2, 0, none⟩)), (60, .int .i64 a1.f0), (62, .int .i64 x1_1.f1)]) (bx' := [⟨p0_2, [.int .i64 0, .int .i64 0, .int .i64 0, .slice none 0 0, .bool false], 29⟩, ⟨p0_1, [.int .i64 a1.f0, .int .i64 a1.f1, .string a1.f2], 56⟩, ⟨p0_0, [.int .i64 x1_1.f0, .int .i64 x1_1.f1, .int .i64 o4.2, .slice q4.1 o4.1.length q4.2, .bool true], 29⟩]) (by kernel_rfl) ?_
              refine O.q (v := .bool false) (some 63) (Qu.eqv (u := .bool (a1.f0 == x1_1.f1)) (v := .bool false) (0, 0) [] (by kernel_rfl) (congrArg Value.bool hc13)) (by kernel_rfl) ?_
              refine O.pure 5 [] [2, 3, 4, 68] [] (fr' := [(2, .pointer (some ⟨p0_0, 0, none⟩)), (3, .pointer (some ⟨p0_1, 0, none⟩)), (4, .pointer (some ⟨p0_2, 0, none⟩)), (68, .bool false)]) (bx' := [⟨p0_2, [.int .i64 0, .int .i64 0, .int .i64 0, .slice none 0 0, .bool false], 29⟩, ⟨p0_1, [.int .i64 a1.f0, .int .i64 a1.f1, .string a1.f2], 56⟩, ⟨p0_0, [.int .i64 x1_1.f0, .int .i64 x1_1.f1, .int .i64 o4.2, .slice q4.1 o4.1.length q4.2, .bool true], 29⟩]) (by kernel_rfl) ?_
              refine O.nil (by kernel_rfl) ?_
              refine J.cond (o := .tmp 68) false (by kernel_rfl) (by kernel_rfl) ?_
              refine J.skip (by kernel_rfl) ?_
              refine J.seq (by kernel_rfl) ?_
              refine J.region (by kernel_rfl) ?_
              refine O.pure 4 [(2, 0), (0, 0)] [4, 5, 6] [p0_0, 0, p0_2, 0] (fr' := [(4, .pointer (some ⟨p0_2, 0, none⟩)), (5, .string (⟨#[]⟩ : ByteArray)), (6, .bool false)]) (bx' := [⟨p0_2, [.int .i64 x1_1.f0, .int .i64 x1_1.f1, .int .i64 o4.2, .slice q4.1 o4.1.length q4.2, .bool true], 29⟩, ⟨p0_1, [.int .i64 a1.f0, .int .i64 a1.f1, .string a1.f2], 56⟩, ⟨p0_0, [.int .i64 x1_1.f0, .int .i64 x1_1.f1, .int .i64 o4.2, .slice q4.1 o4.1.length q4.2, .bool true], 29⟩]) (by kernel_rfl) ?_
              refine O.nil (by kernel_rfl) ?_
              obtain rfl := Option.some.inj H
              refine J.mono (fun w hS => hS.freezeH (h := q4) (xs := o4.1)) ?_
              exact J.doneS [(0, 0)] [p0_2, 0] [0] [] [] q4 (vs := [.agg #[.int .i64 x1_1.f0, .int .i64 x1_1.f1, .int .i64 o4.2, .slice q4.1 o4.1.length q4.2, .bool true], .string (⟨#[]⟩ : ByteArray), .bool false]) (by kernel_rfl) (by kernel_rfl) (by kernel_rfl) (by kernel_rfl) (by kernel_rfl) (by decide)
          · refine J.condF (x := .tmp 57) (t := (decide (a1.f0 > 0))) (by kernel_rfl) (by kernel_rfl) hc12 ?_
            refine J.skip (by kernel_rfl) ?_
            refine J.seq (by kernel_rfl) ?_
            refine J.region (by kernel_rfl) ?_
            refine O.pure 4 [(2, 0), (0, 0)] [4, 5, 6] [p0_0, 0, p0_2, 0] (fr' := [(4, .pointer (some ⟨p0_2, 0, none⟩)), (5, .string (⟨#[]⟩ : ByteArray)), (6, .bool false)]) (bx' := [⟨p0_2, [.int .i64 x1_1.f0, .int .i64 x1_1.f1, .int .i64 o4.2, .slice q4.1 o4.1.length q4.2, .bool x1_1.f4], 29⟩, ⟨p0_1, [.int .i64 a1.f0, .int .i64 a1.f1, .string a1.f2], 56⟩, ⟨p0_0, [.int .i64 x1_1.f0, .int .i64 x1_1.f1, .int .i64 o4.2, .slice q4.1 o4.1.length q4.2, .bool x1_1.f4], 29⟩]) (by kernel_rfl) ?_
            refine O.nil (by kernel_rfl) ?_
            obtain rfl := Option.some.inj H
            refine J.mono (fun w hS => hS.freezeH (h := q4) (xs := o4.1)) ?_
            exact J.doneS [(0, 0)] [p0_2, 0] [0] [] [] q4 (vs := [.agg #[.int .i64 x1_1.f0, .int .i64 x1_1.f1, .int .i64 o4.2, .slice q4.1 o4.1.length q4.2, .bool x1_1.f4], .string (⟨#[]⟩ : ByteArray), .bool false]) (by kernel_rfl) (by kernel_rfl) (by kernel_rfl) (by kernel_rfl) (by kernel_rfl) (by decide)
        · refine J.block (id := 0) (by kernel_rfl) ?_
          refine J.loopI (σ := (List S74) × Int × Int) (γ := Hd) (f := fun m_ s_ => haywainref16_Take.l15 K a1 x1_1 m_ s_) (fun s15 g15 => [(2, .pointer (some ⟨p0_0, 0, none⟩)), (3, .pointer (some ⟨p0_1, 0, none⟩)), (4, .pointer (some ⟨p0_2, 0, none⟩)), (7, .slice g15.1 s15.1.length g15.2), (8, .int .i64 s15.2.1)]) (fun s15 g15 => St X w [] [⟨p0_2, [.int .i64 0, .int .i64 0, .int .i64 0, .slice none 0 0, .bool false], 29⟩, ⟨p0_1, [.int .i64 a1.f0, .int .i64 a1.f1, .string a1.f2], 56⟩, ⟨p0_0, [.int .i64 x1_1.f0, .int .i64 x1_1.f1, .int .i64 s15.2.2, .slice p1_1.1 x1_1.f3.length p1_1.2, .bool x1_1.f4], 29⟩] [mkRow kd74 74 (.slice g15.1 s15.1.length g15.2) s15.1] [] [Rd kd74 p1_1.1 p1_1.2 x1_1.f3, Rd kd74 h0.1 h0.2 a0.f3]) K (([] : List S74), 0, x1_1.f2) (none, 0) (by kernel_rfl) H (fun _ => rfl) (fun m_ s15 H ih15 g15 => ?_) (fun h_ => ?_)
          · unfold haywainref16_Take.l15 at H
            refine J.seq (by kernel_rfl) ?_
            refine J.seq (by kernel_rfl) ?_
            refine J.region (by kernel_rfl) ?_
            refine O.pure 5 [(2, 3)] [2, 3, 4, 7, 8, 32] [p0_0, 3] (fr' := [(2, .pointer (some ⟨p0_0, 0, none⟩)), (3, .pointer (some ⟨p0_1, 0, none⟩)), (4, .pointer (some ⟨p0_2, 0, none⟩)), (7, .slice g15.1 s15.1.length g15.2), (8, .int .i64 s15.2.1), (32, .bool (decide (s15.2.1 < (x1_1.f3.length : Int))))]) (bx' := [⟨p0_2, [.int .i64 0, .int .i64 0, .int .i64 0, .slice none 0 0, .bool false], 29⟩, ⟨p0_1, [.int .i64 a1.f0, .int .i64 a1.f1, .string a1.f2], 56⟩, ⟨p0_0, [.int .i64 x1_1.f0, .int .i64 x1_1.f1, .int .i64 s15.2.2, .slice p1_1.1 x1_1.f3.length p1_1.2, .bool x1_1.f4], 29⟩]) (by kernel_rfl) ?_
            refine O.nil (by kernel_rfl) ?_
            rcases condE H with ⟨hc20, H⟩ | ⟨hc20, H⟩
            · refine J.condT (x := .tmp 32) (t := (decide (s15.2.1 < (x1_1.f3.length : Int)))) (by kernel_rfl) (by kernel_rfl) hc20 ?_
              refine J.skip (by kernel_rfl) ?_
              refine J.seq (by kernel_rfl) ?_
              refine J.block (id := 1) (by kernel_rfl) ?_
              refine J.seq (by kernel_rfl) ?_
              obtain ⟨x8_3, hx8_3, H⟩ := bindE H
              obtain ⟨hx8_3a, hx8_3⟩ := idxE hx8_3
              refine J.open (d := kd74) (h := p1_1) (i := s15.2.1) 0 rfl hx8_3 (op74 _) (fun p8_3 hp8_3A => ?_)
              refine J.drawS (by kernel_rfl) [(0, some 35, .pointer (some ⟨p0_0, 3, none⟩)), (1, some 36, .slice p1_1.1 x1_1.f3.length p1_1.2), (2, some 37, .int .i64 s15.2.1), (4, some 39, .pointer (some ⟨p8_3.1, p8_3.2.1 + s15.2.1.toNat * 2, none⟩)), (5, some 40, .int .i64 x8_3.f0), (6, some 41, .pointer (some ⟨p0_1, 1, none⟩)), (7, some 42, .int .i64 a1.f1), (8, some 43, .bool (decide (x8_3.f0 > a1.f1))), (3, some 38, .pointer (some ⟨p8_3.1, p8_3.2.1 + s15.2.1.toNat * 2, none⟩))] ([0, 1, 2, 4, 5, 6, 7, 8] ++ [3]) (by kernel_rfl) ?_
              refine D.fin (fr' := [(2, .pointer (some ⟨p0_0, 0, none⟩)), (3, .pointer (some ⟨p0_1, 0, none⟩)), (4, .pointer (some ⟨p0_2, 0, none⟩)), (7, .slice g15.1 s15.1.length g15.2), (8, .int .i64 s15.2.1), (43, .bool (decide (x8_3.f0 > a1.f1)))]) [0, 1, 2, 4, 5, 6, 7, 8] [3] [(2, 3), (3, 0), (1, 1)] [p0_0, 3, p8_3.1, p8_3.2.1 + s15.2.1.toNat * 2, p0_1, 1] [2, 3, 4, 7, 8, 43] (by kernel_rfl) (by kernel_rfl) (⟨QuAt.mk (v := .pointer (some ⟨p8_3.1, p8_3.2.1 + s15.2.1.toNat * 2, none⟩)) (some 38) (by kernel_rfl) (by kernel_rfl) (Qu.idx (t := 27) (x := .tmp 36) (y := .tmp 37) (c := p1_1.2) (kk := .i64) (sz := 2) (by kernel_rfl) (by kernel_rfl) (by kernel_rfl) (by kernel_rfl) hx8_3a (idx_lt hx8_3) hp8_3A), trivial⟩) (by kernel_rfl) ?_
              rcases condE H with ⟨hc21, H⟩ | ⟨hc21, H⟩
              · refine J.condT (x := .tmp 43) (t := (decide (x8_3.f0 > a1.f1))) (by kernel_rfl) (by kernel_rfl) hc21 ?_
                obtain ⟨x9_4, hx9_4, H⟩ := bindE H
                obtain ⟨hx9_4a, hx9_4⟩ := idxE hx9_4
                obtain ⟨y9_7, hy9_7, H⟩ := bindE H
                have hy9_7a := (appE hy9_7).1
                refine J.region (by kernel_rfl) ?_
                refine O.pure 4 [(2, 3)] [2, 3, 4, 7, 8, 44, 46, 47] [p0_0, 3] (fr' := [(2, .pointer (some ⟨p0_0, 0, none⟩)), (3, .pointer (some ⟨p0_1, 0, none⟩)), (4, .pointer (some ⟨p0_2, 0, none⟩)), (7, .slice g15.1 s15.1.length g15.2), (8, .int .i64 s15.2.1), (44, .slice g15.1 s15.1.length g15.2), (46, .slice p1_1.1 x1_1.f3.length p1_1.2), (47, .int .i64 s15.2.1)]) (bx' := [⟨p0_2, [.int .i64 0, .int .i64 0, .int .i64 0, .slice none 0 0, .bool false], 29⟩, ⟨p0_1, [.int .i64 a1.f0, .int .i64 a1.f1, .string a1.f2], 56⟩, ⟨p0_0, [.int .i64 x1_1.f0, .int .i64 x1_1.f1, .int .i64 s15.2.2, .slice p1_1.1 x1_1.f3.length p1_1.2, .bool x1_1.f4], 29⟩]) (by kernel_rfl) ?_
                refine O.open (d := kd74) (h := p1_1) (i := s15.2.1) 0 rfl hx9_4 (op74 _) (fun p9_4 hp9_4A => ?_)
                refine O.q (v := .pointer (some ⟨p9_4.1, p9_4.2.1 + s15.2.1.toNat * 2, none⟩)) (some 48) (Qu.idx (t := 27) (x := .tmp 46) (y := .tmp 47) (c := p1_1.2) (kk := .i64) (sz := 2) (by kernel_rfl) (by kernel_rfl) (by kernel_rfl) (by kernel_rfl) hx9_4a (idx_lt hx9_4) hp9_4A) (by kernel_rfl) ?_
                refine O.pure 1 [(3, 0)] [2, 3, 4, 7, 8, 44, 49] [p9_4.1, p9_4.2.1 + s15.2.1.toNat * 2] (fr' := [(2, .pointer (some ⟨p0_0, 0, none⟩)), (3, .pointer (some ⟨p0_1, 0, none⟩)), (4, .pointer (some ⟨p0_2, 0, none⟩)), (7, .slice g15.1 s15.1.length g15.2), (8, .int .i64 s15.2.1), (44, .slice g15.1 s15.1.length g15.2), (49, .agg #[.int .i64 x9_4.f0, .string x9_4.f1])]) (bx' := [⟨p0_2, [.int .i64 0, .int .i64 0, .int .i64 0, .slice none 0 0, .bool false], 29⟩, ⟨p0_1, [.int .i64 a1.f0, .int .i64 a1.f1, .string a1.f2], 56⟩, ⟨p0_0, [.int .i64 x1_1.f0, .int .i64 x1_1.f1, .int .i64 s15.2.2, .slice p1_1.1 x1_1.f3.length p1_1.2, .bool x1_1.f4], 29⟩]) (by kernel_rfl) ?_
                refine O.e (some 50) (Ev.lit (t := 27) (len := 1) (parts := #[(0, .tmp 49)]) (ps := [(0, .agg #[.int .i64 x9_4.f0, .string x9_4.f1])]) (cs := [.int .i64 x9_4.f0, .string x9_4.f1]) (e := 74) kd74 ([x9_4] : List S74) (by kernel_rfl) (by kernel_rfl) (by kernel_rfl) (by kernel_rfl) (by kernel_rfl) (by decide) (fun w' hφ => (Els.cons (c := [.int .i64 x9_4.f0, .string x9_4.f1]) (rfl) (Els.nil _ _ _)))) (by kernel_rfl) (fun p9_6 => ?_)
                refine O.e (some 51) (Ev.appLit (x := .tmp 44) (y := .tmp 50) (t := 27) (bytes := 24) (by kernel_rfl) (by kernel_rfl) (by kernel_rfl) (by kernel_rfl) (by kernel_rfl) (by decide) hy9_7a) (by kernel_rfl) (fun p9_7 => ?_)
                refine O.pure 1 [] [2, 3, 4, 7, 8] [] (fr' := [(2, .pointer (some ⟨p0_0, 0, none⟩)), (3, .pointer (some ⟨p0_1, 0, none⟩)), (4, .pointer (some ⟨p0_2, 0, none⟩)), (7, .slice p9_7.1 (s15.1 ++ ([x9_4] : List S74)).length p9_7.2), (8, .int .i64 s15.2.1)]) (bx' := [⟨p0_2, [.int .i64 0, .int .i64 0, .int .i64 0, .slice none 0 0, .bool false], 29⟩, ⟨p0_1, [.int .i64 a1.f0, .int .i64 a1.f1, .string a1.f2], 56⟩, ⟨p0_0, [.int .i64 x1_1.f0, .int .i64 x1_1.f1, .int .i64 s15.2.2, .slice p1_1.1 x1_1.f3.length p1_1.2, .bool x1_1.f4], 29⟩]) (by kernel_rfl) ?_
                refine O.nil (by kernel_rfl) ?_
                refine J.out ?_
                refine J.region (by kernel_rfl) ?_
                refine O.pure 3 [] [2, 3, 4, 7, 8] [] (fr' := [(2, .pointer (some ⟨p0_0, 0, none⟩)), (3, .pointer (some ⟨p0_1, 0, none⟩)), (4, .pointer (some ⟨p0_2, 0, none⟩)), (7, .slice p9_7.1 (s15.1 ++ ([x9_4] : List S74)).length p9_7.2), (8, .int .i64 (IntKind.wrap .i64 (s15.2.1 + 1)))]) (bx' := [⟨p0_2, [.int .i64 0, .int .i64 0, .int .i64 0, .slice none 0 0, .bool false], 29⟩, ⟨p0_1, [.int .i64 a1.f0, .int .i64 a1.f1, .string a1.f2], 56⟩, ⟨p0_0, [.int .i64 x1_1.f0, .int .i64 x1_1.f1, .int .i64 s15.2.2, .slice p1_1.1 x1_1.f3.length p1_1.2, .bool x1_1.f4], 29⟩]) (by kernel_rfl) ?_
                refine O.nil (by kernel_rfl) ?_
                exact J.conv2 [2, 3, 4, 7, 8] [0, 1] [0, 1, 2] [0] (by kernel_rfl) (by kernel_rfl) (by kernel_rfl) (by kernel_rfl) (by decide) (ih15 ((s15.1 ++ ([x9_4] : List S74)), (IntKind.wrap .i64 (s15.2.1 + 1)), s15.2.2) p9_7 H)
              · refine J.condF (x := .tmp 43) (t := (decide (x8_3.f0 > a1.f1))) (by kernel_rfl) (by kernel_rfl) hc21 ?_
                refine J.region (by kernel_rfl) ?_
                refine O.pure 2 [(2, 2)] [2, 3, 4, 7, 8] [p0_0, 2] (fr' := [(2, .pointer (some ⟨p0_0, 0, none⟩)), (3, .pointer (some ⟨p0_1, 0, none⟩)), (4, .pointer (some ⟨p0_2, 0, none⟩)), (7, .slice g15.1 s15.1.length g15.2), (8, .int .i64 s15.2.1)]) (bx' := [⟨p0_2, [.int .i64 0, .int .i64 0, .int .i64 0, .slice none 0 0, .bool false], 29⟩, ⟨p0_1, [.int .i64 a1.f0, .int .i64 a1.f1, .string a1.f2], 56⟩, ⟨p0_0, [.int .i64 x1_1.f0, .int .i64 x1_1.f1, .int .i64 0, .slice p1_1.1 x1_1.f3.length p1_1.2, .bool x1_1.f4], 29⟩]) (by kernel_rfl) ?_
                refine O.nil (by kernel_rfl) ?_
                refine J.out ?_
                refine J.region (by kernel_rfl) ?_
                refine O.pure 3 [] [2, 3, 4, 7, 8] [] (fr' := [(2, .pointer (some ⟨p0_0, 0, none⟩)), (3, .pointer (some ⟨p0_1, 0, none⟩)), (4, .pointer (some ⟨p0_2, 0, none⟩)), (7, .slice g15.1 s15.1.length g15.2), (8, .int .i64 (IntKind.wrap .i64 (s15.2.1 + 1)))]) (bx' := [⟨p0_2, [.int .i64 0, .int .i64 0, .int .i64 0, .slice none 0 0, .bool false], 29⟩, ⟨p0_1, [.int .i64 a1.f0, .int .i64 a1.f1, .string a1.f2], 56⟩, ⟨p0_0, [.int .i64 x1_1.f0, .int .i64 x1_1.f1, .int .i64 0, .slice p1_1.1 x1_1.f3.length p1_1.2, .bool x1_1.f4], 29⟩]) (by kernel_rfl) ?_
                refine O.nil (by kernel_rfl) ?_
                exact J.conv2 [2, 3, 4, 7, 8] [0, 1] [0, 1, 2] [0] (by kernel_rfl) (by kernel_rfl) (by kernel_rfl) (by kernel_rfl) (by decide) (ih15 (s15.1, (IntKind.wrap .i64 (s15.2.1 + 1)), 0) g15 H)
            · refine J.condF (x := .tmp 32) (t := (decide (s15.2.1 < (x1_1.f3.length : Int)))) (by kernel_rfl) (by kernel_rfl) hc20 ?_
              refine J.exit (id := 0) (by kernel_rfl) rfl ?_
              obtain rfl := Option.some.inj H
              exact J.conv2 [2, 3, 4, 7] [0, 1] [0, 1, 2] [0] (by kernel_rfl) (by kernel_rfl) (by kernel_rfl) (by kernel_rfl) (by decide) (hj4 g15)
          · refine J.nilrow kd74 74 ?_
            exact J.conv2 [2, 3, 4, 7, 8] [0, 1] [0, 1, 2] [0] (by kernel_rfl) (by kernel_rfl) (by kernel_rfl) (by kernel_rfl) (by decide) h_
/-! ### (*haywain/haywainlaw16.ends).tick: function 25 -/
def haywainlaw16_ends_tick.l6 (K : Nat) (a0 : S63) (x0_4 : S24 × (List S37)) (x1_4 : S24 × (List S37)) : Nat → (Int × (List S78)) → Option S63
  | 0, _ => none
  | k + 1, s6 => cond (decide (s6.1 < (x1_4.2.length : Int))) ((idxO x1_4.2 s6.1).bind fun x10_7 => (appO 40 s6.2 ([(⟨(⟨x10_7.f0, x10_7.f1, x10_7.f2⟩ : S37), true⟩ : S78)] : List S78)).bind fun y10_11 => haywainlaw16_ends_tick.l6 K a0 x0_4 x1_4 k ((IntKind.wrap .i64 (s6.1 + 1)), (s6.2 ++ ([(⟨(⟨x10_7.f0, x10_7.f1, x10_7.f2⟩ : S37), true⟩ : S78)] : List S78)))) (some ((⟨(⟨x0_4.1.f0, x0_4.1.f1, x0_4.1.f2, x0_4.1.f3, x0_4.1.f4⟩ : S24), (⟨x1_4.1.f0, x1_4.1.f1, x1_4.1.f2, x1_4.1.f3, x1_4.1.f4⟩ : S24), s6.2, a0.f3, a0.f4, a0.f5, a0.f6⟩ : S63)))
def haywainlaw16_ends_tick.l10 (K : Nat) (x0_4 : S24 × (List S37)) : Nat → (Int × (List S78)) → Option (List S78)
  | 0, _ => none
  | k + 1, s10 => cond (decide (s10.1 < (x0_4.2.length : Int))) ((idxO x0_4.2 s10.1).bind fun x6_7 => (appO 40 s10.2 ([(⟨(⟨x6_7.f0, x6_7.f1, x6_7.f2⟩ : S37), false⟩ : S78)] : List S78)).bind fun y6_11 => haywainlaw16_ends_tick.l10 K x0_4 k ((IntKind.wrap .i64 (s10.1 + 1)), (s10.2 ++ ([(⟨(⟨x6_7.f0, x6_7.f1, x6_7.f2⟩ : S37), false⟩ : S78)] : List S78)))) (some (s10.2))
def haywainlaw16_ends_tick.f (K : Nat) (a0 : S63) : Option S63 := (link_Tick.f K a0.f0).bind fun x0_4 => (link_Tick.f K a0.f1).bind fun x1_4 => (haywainlaw16_ends_tick.l10 K x0_4 K (0, a0.f2) : Option (List S78)).bind fun o1 : (List S78) => haywainlaw16_ends_tick.l6 K a0 x0_4 x1_4 K (0, o1)
set_option maxRecDepth 100000 in
set_option maxHeartbeats 1000000 in
theorem haywainlaw16_ends_tick.con (K : Nat) (a0 : S63) (g0_ t0_ : Nat) (h0 : Hd) (h1 : Hd) (h2 : Hd) (h3 : Hd) (h4 : Hd) (h5 : Hd) (h6 : Hd) (r : S63) (X : Nat → Nat → Prop) (w : World) (hS : St X w (keys [⟨g0_, [.int .i64 a0.f0.f0, .int .i64 a0.f0.f1, .int .i64 a0.f0.f2, .slice h0.1 a0.f0.f3.length h0.2, .bool a0.f0.f4, .int .i64 a0.f1.f0, .int .i64 a0.f1.f1, .int .i64 a0.f1.f2, .slice h1.1 a0.f1.f3.length h1.2, .bool a0.f1.f4, .slice h2.1 a0.f2.length h2.2, .slice h3.1 a0.f3.length h3.2, .slice h4.1 a0.f4.length h4.2, .slice h5.1 a0.f5.length h5.2, .slice h6.1 a0.f6.length h6.2], t0_⟩] [mkRow kd78 78 (.slice h2.1 a0.f2.length h2.2) a0.f2, mkRow Kd.string 9 (.slice h3.1 a0.f3.length h3.2) a0.f3, mkRow Kd.string 9 (.slice h4.1 a0.f4.length h4.2) a0.f4, mkRow Kd.string 9 (.slice h5.1 a0.f5.length h5.2) a0.f5, mkRow Kd.string 9 (.slice h6.1 a0.f6.length h6.2) a0.f6]) [⟨g0_, [.int .i64 a0.f0.f0, .int .i64 a0.f0.f1, .int .i64 a0.f0.f2, .slice h0.1 a0.f0.f3.length h0.2, .bool a0.f0.f4, .int .i64 a0.f1.f0, .int .i64 a0.f1.f1, .int .i64 a0.f1.f2, .slice h1.1 a0.f1.f3.length h1.2, .bool a0.f1.f4, .slice h2.1 a0.f2.length h2.2, .slice h3.1 a0.f3.length h3.2, .slice h4.1 a0.f4.length h4.2, .slice h5.1 a0.f5.length h5.2, .slice h6.1 a0.f6.length h6.2], t0_⟩] [mkRow kd78 78 (.slice h2.1 a0.f2.length h2.2) a0.f2, mkRow Kd.string 9 (.slice h3.1 a0.f3.length h3.2) a0.f3, mkRow Kd.string 9 (.slice h4.1 a0.f4.length h4.2) a0.f4, mkRow Kd.string 9 (.slice h5.1 a0.f5.length h5.2) a0.f5, mkRow Kd.string 9 (.slice h6.1 a0.f6.length h6.2) a0.f6] [] [Rd kd71 h0.1 h0.2 a0.f0.f3, Rd kd71 h1.1 h1.2 a0.f1.f3] w) (H : haywainlaw16_ends_tick.f K a0 = some r) :
    Cn Try.prog 25 [.pointer (some ⟨g0_, 0, none⟩)] X w (keys [⟨g0_, [.int .i64 a0.f0.f0, .int .i64 a0.f0.f1, .int .i64 a0.f0.f2, .slice h0.1 a0.f0.f3.length h0.2, .bool a0.f0.f4, .int .i64 a0.f1.f0, .int .i64 a0.f1.f1, .int .i64 a0.f1.f2, .slice h1.1 a0.f1.f3.length h1.2, .bool a0.f1.f4, .slice h2.1 a0.f2.length h2.2, .slice h3.1 a0.f3.length h3.2, .slice h4.1 a0.f4.length h4.2, .slice h5.1 a0.f5.length h5.2, .slice h6.1 a0.f6.length h6.2], t0_⟩] [mkRow kd78 78 (.slice h2.1 a0.f2.length h2.2) a0.f2, mkRow Kd.string 9 (.slice h3.1 a0.f3.length h3.2) a0.f3, mkRow Kd.string 9 (.slice h4.1 a0.f4.length h4.2) a0.f4, mkRow Kd.string 9 (.slice h5.1 a0.f5.length h5.2) a0.f5, mkRow Kd.string 9 (.slice h6.1 a0.f6.length h6.2) a0.f6]) (fun i : Hd × Hd × Hd × Hd × Hd × Hd × Hd => .tuple #[]) (fun i => [⟨g0_, [.int .i64 r.f0.f0, .int .i64 r.f0.f1, .int .i64 r.f0.f2, .slice i.1.1 r.f0.f3.length i.1.2, .bool r.f0.f4, .int .i64 r.f1.f0, .int .i64 r.f1.f1, .int .i64 r.f1.f2, .slice i.2.1.1 r.f1.f3.length i.2.1.2, .bool r.f1.f4, .slice i.2.2.1.1 r.f2.length i.2.2.1.2, .slice i.2.2.2.1.1 r.f3.length i.2.2.2.1.2, .slice i.2.2.2.2.1.1 r.f4.length i.2.2.2.2.1.2, .slice i.2.2.2.2.2.1.1 r.f5.length i.2.2.2.2.2.1.2, .slice i.2.2.2.2.2.2.1 r.f6.length i.2.2.2.2.2.2.2], t0_⟩]) (fun i => [mkRow kd78 78 (.slice i.2.2.1.1 r.f2.length i.2.2.1.2) r.f2, mkRow Kd.string 9 (.slice i.2.2.2.1.1 r.f3.length i.2.2.2.1.2) r.f3, mkRow Kd.string 9 (.slice i.2.2.2.2.1.1 r.f4.length i.2.2.2.2.1.2) r.f4, mkRow Kd.string 9 (.slice i.2.2.2.2.2.1.1 r.f5.length i.2.2.2.2.2.1.2) r.f5, mkRow Kd.string 9 (.slice i.2.2.2.2.2.2.1 r.f6.length i.2.2.2.2.2.2.2) r.f6]) (fun i => [Rd kd71 i.1.1 i.1.2 r.f0.f3, Rd kd71 i.2.1.1 i.2.1.2 r.f1.f3]) := by
  refine Cn.of Try.func25 (by kernel_rfl) hS ?_
  unfold haywainlaw16_ends_tick.f at H
  refine J.seq (by kernel_rfl) ?_
  obtain ⟨x0_4, hx0_4, H⟩ := bindE H
  refine J.region (by kernel_rfl) ?_
  refine O.pure 4 [(0, 0)] [0, 12] [g0_, 0] (fr' := [(0, .pointer (some ⟨g0_, 0, none⟩)), (12, .agg #[.int .i64 a0.f0.f0, .int .i64 a0.f0.f1, .int .i64 a0.f0.f2, .slice h0.1 a0.f0.f3.length h0.2, .bool a0.f0.f4])]) (bx' := [⟨g0_, [.int .i64 a0.f0.f0, .int .i64 a0.f0.f1, .int .i64 a0.f0.f2, .slice h0.1 a0.f0.f3.length h0.2, .bool a0.f0.f4, .int .i64 a0.f1.f0, .int .i64 a0.f1.f1, .int .i64 a0.f1.f2, .slice h1.1 a0.f1.f3.length h1.2, .bool a0.f1.f4, .slice h2.1 a0.f2.length h2.2, .slice h3.1 a0.f3.length h3.2, .slice h4.1 a0.f4.length h4.2, .slice h5.1 a0.f5.length h5.2, .slice h6.1 a0.f6.length h6.2], t0_⟩]) (by kernel_rfl) ?_
  refine O.e (some 13) (Ev.call0 (xs := [.tmp 12]) [0] (by kernel_rfl) (by kernel_rfl) (fun w hS => link_Tick.con K a0.f0 h0  _ _ w hS hx0_4)) (by kernel_rfl) (fun p0_4 => ?_)
  refine O.pure 3 [] [0, 14, 15] [] (fr' := [(0, .pointer (some ⟨g0_, 0, none⟩)), (14, .agg #[.int .i64 x0_4.1.f0, .int .i64 x0_4.1.f1, .int .i64 x0_4.1.f2, .slice p0_4.1.1 x0_4.1.f3.length p0_4.1.2, .bool x0_4.1.f4]), (15, .slice p0_4.2.1 x0_4.2.length p0_4.2.2)]) (bx' := [⟨g0_, [.int .i64 a0.f0.f0, .int .i64 a0.f0.f1, .int .i64 a0.f0.f2, .slice h0.1 a0.f0.f3.length h0.2, .bool a0.f0.f4, .int .i64 a0.f1.f0, .int .i64 a0.f1.f1, .int .i64 a0.f1.f2, .slice h1.1 a0.f1.f3.length h1.2, .bool a0.f1.f4, .slice h2.1 a0.f2.length h2.2, .slice h3.1 a0.f3.length h3.2, .slice h4.1 a0.f4.length h4.2, .slice h5.1 a0.f5.length h5.2, .slice h6.1 a0.f6.length h6.2], t0_⟩]) (by kernel_rfl) ?_
  refine O.e (some 2) (Ev.alloc (t := 24) (z := .agg #[.int .i64 0, .int .i64 0, .int .i64 0, .slice none 0 0, .bool false]) (by kernel_rfl) (by kernel_rfl)) (by kernel_rfl) (fun p0_8 => ?_)
  refine O.pure 2 [(0, 0)] [0, 2, 3] [p0_8, 0] (fr' := [(0, .pointer (some ⟨g0_, 0, none⟩)), (2, .pointer (some ⟨p0_8, 0, none⟩)), (3, .slice p0_4.2.1 x0_4.2.length p0_4.2.2)]) (bx' := [⟨p0_8, [.int .i64 x0_4.1.f0, .int .i64 x0_4.1.f1, .int .i64 x0_4.1.f2, .slice p0_4.1.1 x0_4.1.f3.length p0_4.1.2, .bool x0_4.1.f4], 24⟩, ⟨g0_, [.int .i64 a0.f0.f0, .int .i64 a0.f0.f1, .int .i64 a0.f0.f2, .slice h0.1 a0.f0.f3.length h0.2, .bool a0.f0.f4, .int .i64 a0.f1.f0, .int .i64 a0.f1.f1, .int .i64 a0.f1.f2, .slice h1.1 a0.f1.f3.length h1.2, .bool a0.f1.f4, .slice h2.1 a0.f2.length h2.2, .slice h3.1 a0.f3.length h3.2, .slice h4.1 a0.f4.length h4.2, .slice h5.1 a0.f5.length h5.2, .slice h6.1 a0.f6.length h6.2], t0_⟩]) (by kernel_rfl) ?_
  refine O.nil (by kernel_rfl) ?_
  refine J.seq (by kernel_rfl) ?_
  obtain ⟨x1_4, hx1_4, H⟩ := bindE H
  refine J.region (by kernel_rfl) ?_
  refine O.pure 4 [(1, 5)] [0, 2, 3, 20] [g0_, 5] (fr' := [(0, .pointer (some ⟨g0_, 0, none⟩)), (2, .pointer (some ⟨p0_8, 0, none⟩)), (3, .slice p0_4.2.1 x0_4.2.length p0_4.2.2), (20, .agg #[.int .i64 a0.f1.f0, .int .i64 a0.f1.f1, .int .i64 a0.f1.f2, .slice h1.1 a0.f1.f3.length h1.2, .bool a0.f1.f4])]) (bx' := [⟨p0_8, [.int .i64 x0_4.1.f0, .int .i64 x0_4.1.f1, .int .i64 x0_4.1.f2, .slice p0_4.1.1 x0_4.1.f3.length p0_4.1.2, .bool x0_4.1.f4], 24⟩, ⟨g0_, [.int .i64 a0.f0.f0, .int .i64 a0.f0.f1, .int .i64 a0.f0.f2, .slice h0.1 a0.f0.f3.length h0.2, .bool a0.f0.f4, .int .i64 a0.f1.f0, .int .i64 a0.f1.f1, .int .i64 a0.f1.f2, .slice h1.1 a0.f1.f3.length h1.2, .bool a0.f1.f4, .slice h2.1 a0.f2.length h2.2, .slice h3.1 a0.f3.length h3.2, .slice h4.1 a0.f4.length h4.2, .slice h5.1 a0.f5.length h5.2, .slice h6.1 a0.f6.length h6.2], t0_⟩]) (by kernel_rfl) ?_
  refine O.e (some 21) (Ev.call0 (xs := [.tmp 20]) [2] (by kernel_rfl) (by kernel_rfl) (fun w hS => link_Tick.con K a0.f1 h1  _ _ w hS hx1_4)) (by kernel_rfl) (fun p1_4 => ?_)
  refine O.pure 3 [] [0, 2, 3, 22, 23] [] (fr' := [(0, .pointer (some ⟨g0_, 0, none⟩)), (2, .pointer (some ⟨p0_8, 0, none⟩)), (3, .slice p0_4.2.1 x0_4.2.length p0_4.2.2), (22, .agg #[.int .i64 x1_4.1.f0, .int .i64 x1_4.1.f1, .int .i64 x1_4.1.f2, .slice p1_4.1.1 x1_4.1.f3.length p1_4.1.2, .bool x1_4.1.f4]), (23, .slice p1_4.2.1 x1_4.2.length p1_4.2.2)]) (bx' := [⟨p0_8, [.int .i64 x0_4.1.f0, .int .i64 x0_4.1.f1, .int .i64 x0_4.1.f2, .slice p0_4.1.1 x0_4.1.f3.length p0_4.1.2, .bool x0_4.1.f4], 24⟩, ⟨g0_, [.int .i64 a0.f0.f0, .int .i64 a0.f0.f1, .int .i64 a0.f0.f2, .slice h0.1 a0.f0.f3.length h0.2, .bool a0.f0.f4, .int .i64 a0.f1.f0, .int .i64 a0.f1.f1, .int .i64 a0.f1.f2, .slice h1.1 a0.f1.f3.length h1.2, .bool a0.f1.f4, .slice h2.1 a0.f2.length h2.2, .slice h3.1 a0.f3.length h3.2, .slice h4.1 a0.f4.length h4.2, .slice h5.1 a0.f5.length h5.2, .slice h6.1 a0.f6.length h6.2], t0_⟩]) (by kernel_rfl) ?_
  refine O.e (some 4) (Ev.alloc (t := 24) (z := .agg #[.int .i64 0, .int .i64 0, .int .i64 0, .slice none 0 0, .bool false]) (by kernel_rfl) (by kernel_rfl)) (by kernel_rfl) (fun p1_8 => ?_)
  refine O.pure 2 [(0, 0)] [0, 2, 3, 4, 5] [p1_8, 0] (fr' := [(0, .pointer (some ⟨g0_, 0, none⟩)), (2, .pointer (some ⟨p0_8, 0, none⟩)), (3, .slice p0_4.2.1 x0_4.2.length p0_4.2.2), (4, .pointer (some ⟨p1_8, 0, none⟩)), (5, .slice p1_4.2.1 x1_4.2.length p1_4.2.2)]) (bx' := [⟨p1_8, [.int .i64 x1_4.1.f0, .int .i64 x1_4.1.f1, .int .i64 x1_4.1.f2, .slice p1_4.1.1 x1_4.1.f3.length p1_4.1.2, .bool x1_4.1.f4], 24⟩, ⟨p0_8, [.int .i64 x0_4.1.f0, .int .i64 x0_4.1.f1, .int .i64 x0_4.1.f2, .slice p0_4.1.1 x0_4.1.f3.length p0_4.1.2, .bool x0_4.1.f4], 24⟩, ⟨g0_, [.int .i64 a0.f0.f0, .int .i64 a0.f0.f1, .int .i64 a0.f0.f2, .slice h0.1 a0.f0.f3.length h0.2, .bool a0.f0.f4, .int .i64 a0.f1.f0, .int .i64 a0.f1.f1, .int .i64 a0.f1.f2, .slice h1.1 a0.f1.f3.length h1.2, .bool a0.f1.f4, .slice h2.1 a0.f2.length h2.2, .slice h3.1 a0.f3.length h3.2, .slice h4.1 a0.f4.length h4.2, .slice h5.1 a0.f5.length h5.2, .slice h6.1 a0.f6.length h6.2], t0_⟩]) (by kernel_rfl) ?_
  refine O.nil (by kernel_rfl) ?_
  refine J.seq (by kernel_rfl) ?_
  refine J.drawS (by kernel_rfl) [(0, some 24, .pointer (some ⟨g0_, 0, none⟩)), (1, some 25, .pointer (some ⟨g0_, 0, none⟩)), (2, some 26, .agg #[.int .i64 x0_4.1.f0, .int .i64 x0_4.1.f1, .int .i64 x0_4.1.f2, .slice p0_4.1.1 x0_4.1.f3.length p0_4.1.2, .bool x0_4.1.f4]), (3, some 27, .agg #[.int .i64 x1_4.1.f0, .int .i64 x1_4.1.f1, .int .i64 x1_4.1.f2, .slice p1_4.1.1 x1_4.1.f3.length p1_4.1.2, .bool x1_4.1.f4]), (4, some 28, .pointer (some ⟨g0_, 0, none⟩)), (5, some 29, .pointer (some ⟨g0_, 0, none⟩))] ([0, 1, 2, 3, 4, 5] ++ []) (by kernel_rfl) ?_
  refine D.mid (cs := [6]) [0, 1, 2, 3, 4, 5] [] [(1, 0), (0, 0)] [p0_8, 0, p1_8, 0] (by kernel_rfl) (by kernel_rfl) trivial (by kernel_rfl) ⟨?_, trivial⟩
  refine EvStep.mk none (new := fun _ => [(7, some 30, .pointer (some ⟨g0_, 0, none⟩)), (8, some 31, .pointer (some ⟨g0_, 5, none⟩))]) ([1, 3, 4, 7, 8] ++ []) (by kernel_rfl) (Ev.store (kk := 2) (cs := [.int .i64 x0_4.1.f0, .int .i64 x0_4.1.f1, .int .i64 x0_4.1.f2, .slice p0_4.1.1 x0_4.1.f3.length p0_4.1.2, .bool x0_4.1.f4, .int .i64 a0.f1.f0, .int .i64 a0.f1.f1, .int .i64 a0.f1.f2, .slice h1.1 a0.f1.f3.length h1.2, .bool a0.f1.f4, .slice h2.1 a0.f2.length h2.2, .slice h3.1 a0.f3.length h3.2, .slice h4.1 a0.f4.length h4.2, .slice h5.1 a0.f5.length h5.2, .slice h6.1 a0.f6.length h6.2]) (2, 0) [g0_, 0] (by kernel_rfl)) (fun _ => by kernel_rfl) (fun _ => ?_)
  refine D.mid (cs := [9]) [1, 3, 4, 7, 8] [] [(0, 0)] [p1_8, 0] (by kernel_rfl) (by kernel_rfl) trivial (by kernel_rfl) ⟨?_, trivial⟩
  refine EvStep.mk none (new := fun _ => []) ([7] ++ []) (by kernel_rfl) (Ev.store (kk := 2) (cs := [.int .i64 x0_4.1.f0, .int .i64 x0_4.1.f1, .int .i64 x0_4.1.f2, .slice p0_4.1.1 x0_4.1.f3.length p0_4.1.2, .bool x0_4.1.f4, .int .i64 x1_4.1.f0, .int .i64 x1_4.1.f1, .int .i64 x1_4.1.f2, .slice p1_4.1.1 x1_4.1.f3.length p1_4.1.2, .bool x1_4.1.f4, .slice h2.1 a0.f2.length h2.2, .slice h3.1 a0.f3.length h3.2, .slice h4.1 a0.f4.length h4.2, .slice h5.1 a0.f5.length h5.2, .slice h6.1 a0.f6.length h6.2]) (2, 5) [g0_, 5] (by kernel_rfl)) (fun _ => by kernel_rfl) (fun _ => ?_)
  refine D.fin (fr' := [(0, .pointer (some ⟨g0_, 0, none⟩)), (3, .slice p0_4.2.1 x0_4.2.length p0_4.2.2), (5, .slice p1_4.2.1 x1_4.2.length p1_4.2.2)]) [7] [] [] [] [0, 3, 5] (by kernel_rfl) (by kernel_rfl) trivial (by kernel_rfl) ?_
  refine J.seq (by kernel_rfl) ?_
  refine J.seq (by kernel_rfl) ?_
  refine J.region (by kernel_rfl) ?_
  refine O.pure 1 [] [0, 3, 5, 6] [] (fr' := [(0, .pointer (some ⟨g0_, 0, none⟩)), (3, .slice p0_4.2.1 x0_4.2.length p0_4.2.2), (5, .slice p1_4.2.1 x1_4.2.length p1_4.2.2), (6, .int .i64 0)]) (bx' := [⟨p1_8, [.int .i64 x1_4.1.f0, .int .i64 x1_4.1.f1, .int .i64 x1_4.1.f2, .slice p1_4.1.1 x1_4.1.f3.length p1_4.1.2, .bool x1_4.1.f4], 24⟩, ⟨p0_8, [.int .i64 x0_4.1.f0, .int .i64 x0_4.1.f1, .int .i64 x0_4.1.f2, .slice p0_4.1.1 x0_4.1.f3.length p0_4.1.2, .bool x0_4.1.f4], 24⟩, ⟨g0_, [.int .i64 x0_4.1.f0, .int .i64 x0_4.1.f1, .int .i64 x0_4.1.f2, .slice p0_4.1.1 x0_4.1.f3.length p0_4.1.2, .bool x0_4.1.f4, .int .i64 x1_4.1.f0, .int .i64 x1_4.1.f1, .int .i64 x1_4.1.f2, .slice p1_4.1.1 x1_4.1.f3.length p1_4.1.2, .bool x1_4.1.f4, .slice h2.1 a0.f2.length h2.2, .slice h3.1 a0.f3.length h3.2, .slice h4.1 a0.f4.length h4.2, .slice h5.1 a0.f5.length h5.2, .slice h6.1 a0.f6.length h6.2], t0_⟩]) (by kernel_rfl) ?_
  refine O.nil (by kernel_rfl) ?_
  refine J.join (α := (List S78)) (γ := Hd) (fun o1 q1 => [(0, .pointer (some ⟨g0_, 0, none⟩)), (5, .slice p1_4.2.1 x1_4.2.length p1_4.2.2)]) (fun o1 q1 => St X w (keys [⟨g0_, [.int .i64 a0.f0.f0, .int .i64 a0.f0.f1, .int .i64 a0.f0.f2, .slice h0.1 a0.f0.f3.length h0.2, .bool a0.f0.f4, .int .i64 a0.f1.f0, .int .i64 a0.f1.f1, .int .i64 a0.f1.f2, .slice h1.1 a0.f1.f3.length h1.2, .bool a0.f1.f4, .slice h2.1 a0.f2.length h2.2, .slice h3.1 a0.f3.length h3.2, .slice h4.1 a0.f4.length h4.2, .slice h5.1 a0.f5.length h5.2, .slice h6.1 a0.f6.length h6.2], t0_⟩] [mkRow kd78 78 (.slice h2.1 a0.f2.length h2.2) a0.f2, mkRow Kd.string 9 (.slice h3.1 a0.f3.length h3.2) a0.f3, mkRow Kd.string 9 (.slice h4.1 a0.f4.length h4.2) a0.f4, mkRow Kd.string 9 (.slice h5.1 a0.f5.length h5.2) a0.f5, mkRow Kd.string 9 (.slice h6.1 a0.f6.length h6.2) a0.f6]) [⟨g0_, [.int .i64 x0_4.1.f0, .int .i64 x0_4.1.f1, .int .i64 x0_4.1.f2, .slice p0_4.1.1 x0_4.1.f3.length p0_4.1.2, .bool x0_4.1.f4, .int .i64 x1_4.1.f0, .int .i64 x1_4.1.f1, .int .i64 x1_4.1.f2, .slice p1_4.1.1 x1_4.1.f3.length p1_4.1.2, .bool x1_4.1.f4, .slice q1.1 o1.length q1.2, .slice h3.1 a0.f3.length h3.2, .slice h4.1 a0.f4.length h4.2, .slice h5.1 a0.f5.length h5.2, .slice h6.1 a0.f6.length h6.2], t0_⟩] [mkRow kd78 78 (.slice q1.1 o1.length q1.2) o1, mkRow kd37 37 (.slice p1_4.2.1 x1_4.2.length p1_4.2.2) x1_4.2, mkRow Kd.string 9 (.slice h3.1 a0.f3.length h3.2) a0.f3, mkRow Kd.string 9 (.slice h4.1 a0.f4.length h4.2) a0.f4, mkRow Kd.string 9 (.slice h5.1 a0.f5.length h5.2) a0.f5, mkRow Kd.string 9 (.slice h6.1 a0.f6.length h6.2) a0.f6] [] [Rd kd71 p1_4.1.1 p1_4.1.2 x1_4.1.f3, Rd kd71 p0_4.1.1 p0_4.1.2 x0_4.1.f3]) H (fun o1 q1 H => ?_) (fun o1 H hj1 => ?_)
  · refine J.seq (by kernel_rfl) ?_
    refine J.region (by kernel_rfl) ?_
    refine O.pure 1 [] [0, 5, 7] [] (fr' := [(0, .pointer (some ⟨g0_, 0, none⟩)), (5, .slice p1_4.2.1 x1_4.2.length p1_4.2.2), (7, .int .i64 0)]) (bx' := [⟨g0_, [.int .i64 x0_4.1.f0, .int .i64 x0_4.1.f1, .int .i64 x0_4.1.f2, .slice p0_4.1.1 x0_4.1.f3.length p0_4.1.2, .bool x0_4.1.f4, .int .i64 x1_4.1.f0, .int .i64 x1_4.1.f1, .int .i64 x1_4.1.f2, .slice p1_4.1.1 x1_4.1.f3.length p1_4.1.2, .bool x1_4.1.f4, .slice q1.1 o1.length q1.2, .slice h3.1 a0.f3.length h3.2, .slice h4.1 a0.f4.length h4.2, .slice h5.1 a0.f5.length h5.2, .slice h6.1 a0.f6.length h6.2], t0_⟩]) (by kernel_rfl) ?_
    refine O.nil (by kernel_rfl) ?_
    refine J.block (id := 2) (by kernel_rfl) ?_
    refine J.loopI (σ := Int × (List S78)) (γ := Hd) (f := fun m_ s_ => haywainlaw16_ends_tick.l6 K a0 x0_4 x1_4 m_ s_) (fun s6 g6 => [(0, .pointer (some ⟨g0_, 0, none⟩)), (5, .slice p1_4.2.1 x1_4.2.length p1_4.2.2), (7, .int .i64 s6.1)]) (fun s6 g6 => St X w (keys [⟨g0_, [.int .i64 a0.f0.f0, .int .i64 a0.f0.f1, .int .i64 a0.f0.f2, .slice h0.1 a0.f0.f3.length h0.2, .bool a0.f0.f4, .int .i64 a0.f1.f0, .int .i64 a0.f1.f1, .int .i64 a0.f1.f2, .slice h1.1 a0.f1.f3.length h1.2, .bool a0.f1.f4, .slice h2.1 a0.f2.length h2.2, .slice h3.1 a0.f3.length h3.2, .slice h4.1 a0.f4.length h4.2, .slice h5.1 a0.f5.length h5.2, .slice h6.1 a0.f6.length h6.2], t0_⟩] [mkRow kd78 78 (.slice h2.1 a0.f2.length h2.2) a0.f2, mkRow Kd.string 9 (.slice h3.1 a0.f3.length h3.2) a0.f3, mkRow Kd.string 9 (.slice h4.1 a0.f4.length h4.2) a0.f4, mkRow Kd.string 9 (.slice h5.1 a0.f5.length h5.2) a0.f5, mkRow Kd.string 9 (.slice h6.1 a0.f6.length h6.2) a0.f6]) [⟨g0_, [.int .i64 x0_4.1.f0, .int .i64 x0_4.1.f1, .int .i64 x0_4.1.f2, .slice p0_4.1.1 x0_4.1.f3.length p0_4.1.2, .bool x0_4.1.f4, .int .i64 x1_4.1.f0, .int .i64 x1_4.1.f1, .int .i64 x1_4.1.f2, .slice p1_4.1.1 x1_4.1.f3.length p1_4.1.2, .bool x1_4.1.f4, .slice g6.1 s6.2.length g6.2, .slice h3.1 a0.f3.length h3.2, .slice h4.1 a0.f4.length h4.2, .slice h5.1 a0.f5.length h5.2, .slice h6.1 a0.f6.length h6.2], t0_⟩] [mkRow kd78 78 (.slice g6.1 s6.2.length g6.2) s6.2, mkRow Kd.string 9 (.slice h3.1 a0.f3.length h3.2) a0.f3, mkRow Kd.string 9 (.slice h4.1 a0.f4.length h4.2) a0.f4, mkRow Kd.string 9 (.slice h5.1 a0.f5.length h5.2) a0.f5, mkRow Kd.string 9 (.slice h6.1 a0.f6.length h6.2) a0.f6] [] [Rd kd71 p1_4.1.1 p1_4.1.2 x1_4.1.f3, Rd kd71 p0_4.1.1 p0_4.1.2 x0_4.1.f3, Rd kd37 p1_4.2.1 p1_4.2.2 x1_4.2]) K (0, o1) q1 (by kernel_rfl) H (fun _ => rfl) (fun m_ s6 H ih6 g6 => ?_) (fun h_ => ?_)
    · unfold haywainlaw16_ends_tick.l6 at H
      refine J.seq (by kernel_rfl) ?_
      refine J.seq (by kernel_rfl) ?_
      refine J.region (by kernel_rfl) ?_
      refine O.pure 4 [] [0, 5, 7, 55] [] (fr' := [(0, .pointer (some ⟨g0_, 0, none⟩)), (5, .slice p1_4.2.1 x1_4.2.length p1_4.2.2), (7, .int .i64 s6.1), (55, .bool (decide (s6.1 < (x1_4.2.length : Int))))]) (bx' := [⟨g0_, [.int .i64 x0_4.1.f0, .int .i64 x0_4.1.f1, .int .i64 x0_4.1.f2, .slice p0_4.1.1 x0_4.1.f3.length p0_4.1.2, .bool x0_4.1.f4, .int .i64 x1_4.1.f0, .int .i64 x1_4.1.f1, .int .i64 x1_4.1.f2, .slice p1_4.1.1 x1_4.1.f3.length p1_4.1.2, .bool x1_4.1.f4, .slice g6.1 s6.2.length g6.2, .slice h3.1 a0.f3.length h3.2, .slice h4.1 a0.f4.length h4.2, .slice h5.1 a0.f5.length h5.2, .slice h6.1 a0.f6.length h6.2], t0_⟩]) (by kernel_rfl) ?_
      refine O.nil (by kernel_rfl) ?_
      rcases condE H with ⟨hc9, H⟩ | ⟨hc9, H⟩
      · refine J.condT (x := .tmp 55) (t := (decide (s6.1 < (x1_4.2.length : Int)))) (by kernel_rfl) (by kernel_rfl) hc9 ?_
        refine J.skip (by kernel_rfl) ?_
        refine J.seq (by kernel_rfl) ?_
        refine J.block (id := 3) (by kernel_rfl) ?_
        obtain ⟨x10_7, hx10_7, H⟩ := bindE H
        obtain ⟨hx10_7a, hx10_7⟩ := idxE hx10_7
        obtain ⟨y10_11, hy10_11, H⟩ := bindE H
        have hy10_11a := (appE hy10_11).1
        refine J.open (d := kd37) (h := p1_4.2) (i := s6.1) 2 rfl hx10_7 (op37 _) (fun p10_7 hp10_7A => ?_)
        refine J.drawS (by kernel_rfl) [(0, some 58, .pointer (some ⟨g0_, 0, none⟩)), (1, some 59, .pointer (some ⟨g0_, 0, none⟩)), (2, some 60, .pointer (some ⟨g0_, 0, none⟩)), (3, some 61, .pointer (some ⟨g0_, 10, none⟩)), (4, some 62, .slice g6.1 s6.2.length g6.2), (5, some 63, .slice p1_4.2.1 x1_4.2.length p1_4.2.2), (6, some 64, .int .i64 s6.1), (8, some 66, .agg #[.int .i64 x10_7.f0, .int .i64 x10_7.f1, .string x10_7.f2]), (9, some 67, .agg #[.int .i64 x10_7.f0, .int .i64 x10_7.f1, .string x10_7.f2, .bool true]), (7, some 65, .pointer (some ⟨p10_7.1, p10_7.2.1 + s6.1.toNat * 3, none⟩))] ([0, 1, 2, 3, 4, 5, 6, 8, 9] ++ [7]) (by kernel_rfl) ?_
        refine D.mid (cs := [10]) [0, 1, 2, 3, 4, 5, 6, 8, 9] [7] [(0, 10), (1, 0)] [g0_, 10, p10_7.1, p10_7.2.1 + s6.1.toNat * 3] (by kernel_rfl) (by kernel_rfl) (⟨QuAt.mk (v := .pointer (some ⟨p10_7.1, p10_7.2.1 + s6.1.toNat * 3, none⟩)) (some 65) (by kernel_rfl) (by kernel_rfl) (Qu.idx (t := 45) (x := .tmp 63) (y := .tmp 64) (c := p1_4.2.2) (kk := .i64) (sz := 3) (by kernel_rfl) (by kernel_rfl) (by kernel_rfl) (by kernel_rfl) hx10_7a (idx_lt hx10_7) hp10_7A), trivial⟩) (by kernel_rfl) ⟨?_, trivial⟩
        refine EvStep.mk (some 68) (new := fun p10_10 => []) ([0, 1, 2, 3, 4, 5, 6, 8] ++ [7]) (by kernel_rfl) (Ev.lit (t := 60) (len := 1) (parts := #[(0, .tmp 67)]) (ps := [(0, .agg #[.int .i64 x10_7.f0, .int .i64 x10_7.f1, .string x10_7.f2, .bool true])]) (cs := [.int .i64 x10_7.f0, .int .i64 x10_7.f1, .string x10_7.f2, .bool true]) (e := 78) kd78 ([(⟨(⟨x10_7.f0, x10_7.f1, x10_7.f2⟩ : S37), true⟩ : S78)] : List S78) (by kernel_rfl) (by kernel_rfl) (by kernel_rfl) (by kernel_rfl) (by kernel_rfl) (by decide) (fun w' hφ => (Els.cons (c := [.int .i64 x10_7.f0, .int .i64 x10_7.f1, .string x10_7.f2, .bool true]) (rfl) (Els.nil _ _ _)))) (fun p10_10 => by kernel_rfl) (fun p10_10 => ?_)
        refine D.mid (cs := [11]) [0, 1, 2, 3, 4, 5, 6, 8] [7] [(0, 10), (1, 0)] [g0_, 10, p10_7.1, p10_7.2.1 + s6.1.toNat * 3] (by kernel_rfl) (by kernel_rfl) (⟨QuAt.mk (v := .pointer (some ⟨p10_7.1, p10_7.2.1 + s6.1.toNat * 3, none⟩)) (some 65) (by kernel_rfl) (by kernel_rfl) (Qu.idx (t := 45) (x := .tmp 63) (y := .tmp 64) (c := p1_4.2.2) (kk := .i64) (sz := 3) (by kernel_rfl) (by kernel_rfl) (by kernel_rfl) (by kernel_rfl) hx10_7a (idx_lt hx10_7) hp10_7A), trivial⟩) (by kernel_rfl) ⟨?_, trivial⟩
        refine EvStep.mk (some 69) (new := fun p10_11 => [(12, some 70, .pointer (some ⟨g0_, 0, none⟩)), (13, some 71, .pointer (some ⟨g0_, 10, none⟩))]) ([0, 1, 2, 3, 5, 6, 8, 12, 13] ++ [7]) (by kernel_rfl) (Ev.appLit (x := .tmp 62) (y := .tmp 68) (t := 60) (bytes := 40) (by kernel_rfl) (by kernel_rfl) (by kernel_rfl) (by kernel_rfl) (by kernel_rfl) (by decide) hy10_11a) (fun p10_11 => by kernel_rfl) (fun p10_11 => ?_)
        refine D.mid (cs := [14]) [0, 1, 2, 3, 5, 6, 8, 12, 13] [7] [(1, 0)] [p10_7.1, p10_7.2.1 + s6.1.toNat * 3] (by kernel_rfl) (by kernel_rfl) (⟨QuAt.mk (v := .pointer (some ⟨p10_7.1, p10_7.2.1 + s6.1.toNat * 3, none⟩)) (some 65) (by kernel_rfl) (by kernel_rfl) (Qu.idx (t := 45) (x := .tmp 63) (y := .tmp 64) (c := p1_4.2.2) (kk := .i64) (sz := 3) (by kernel_rfl) (by kernel_rfl) (by kernel_rfl) (by kernel_rfl) hx10_7a (idx_lt hx10_7) hp10_7A), trivial⟩) (by kernel_rfl) ⟨?_, trivial⟩
        refine EvStep.mk none (new := fun _ => []) ([12] ++ []) (by kernel_rfl) (Ev.store (kk := 0) (cs := [.int .i64 x0_4.1.f0, .int .i64 x0_4.1.f1, .int .i64 x0_4.1.f2, .slice p0_4.1.1 x0_4.1.f3.length p0_4.1.2, .bool x0_4.1.f4, .int .i64 x1_4.1.f0, .int .i64 x1_4.1.f1, .int .i64 x1_4.1.f2, .slice p1_4.1.1 x1_4.1.f3.length p1_4.1.2, .bool x1_4.1.f4, .slice p10_11.1 (s6.2 ++ ([(⟨(⟨x10_7.f0, x10_7.f1, x10_7.f2⟩ : S37), true⟩ : S78)] : List S78)).length p10_11.2, .slice h3.1 a0.f3.length h3.2, .slice h4.1 a0.f4.length h4.2, .slice h5.1 a0.f5.length h5.2, .slice h6.1 a0.f6.length h6.2]) (0, 10) [g0_, 10] (by kernel_rfl)) (fun _ => by kernel_rfl) (fun _ => ?_)
        refine D.fin (fr' := [(0, .pointer (some ⟨g0_, 0, none⟩)), (5, .slice p1_4.2.1 x1_4.2.length p1_4.2.2), (7, .int .i64 s6.1)]) [12] [] [] [] [0, 5, 7] (by kernel_rfl) (by kernel_rfl) trivial (by kernel_rfl) ?_
        refine J.out ?_
        refine J.region (by kernel_rfl) ?_
        refine O.pure 3 [] [0, 5, 7] [] (fr' := [(0, .pointer (some ⟨g0_, 0, none⟩)), (5, .slice p1_4.2.1 x1_4.2.length p1_4.2.2), (7, .int .i64 (IntKind.wrap .i64 (s6.1 + 1)))]) (bx' := [⟨g0_, [.int .i64 x0_4.1.f0, .int .i64 x0_4.1.f1, .int .i64 x0_4.1.f2, .slice p0_4.1.1 x0_4.1.f3.length p0_4.1.2, .bool x0_4.1.f4, .int .i64 x1_4.1.f0, .int .i64 x1_4.1.f1, .int .i64 x1_4.1.f2, .slice p1_4.1.1 x1_4.1.f3.length p1_4.1.2, .bool x1_4.1.f4, .slice p10_11.1 (s6.2 ++ ([(⟨(⟨x10_7.f0, x10_7.f1, x10_7.f2⟩ : S37), true⟩ : S78)] : List S78)).length p10_11.2, .slice h3.1 a0.f3.length h3.2, .slice h4.1 a0.f4.length h4.2, .slice h5.1 a0.f5.length h5.2, .slice h6.1 a0.f6.length h6.2], t0_⟩]) (by kernel_rfl) ?_
        refine O.nil (by kernel_rfl) ?_
        exact J.conv2 [0, 5, 7] [0, 1, 2] [0] [0, 1, 2, 3, 4] (by kernel_rfl) (by kernel_rfl) (by kernel_rfl) (by kernel_rfl) (by decide) (ih6 ((IntKind.wrap .i64 (s6.1 + 1)), (s6.2 ++ ([(⟨(⟨x10_7.f0, x10_7.f1, x10_7.f2⟩ : S37), true⟩ : S78)] : List S78))) p10_11 H)
      · refine J.condF (x := .tmp 55) (t := (decide (s6.1 < (x1_4.2.length : Int)))) (by kernel_rfl) (by kernel_rfl) hc9 ?_
        refine J.exit (id := 2) (by kernel_rfl) rfl ?_
        obtain rfl := Option.some.inj H
        exact J.fallS [] [] [1, 0] [0] [0, 1, 2, 3, 4] (p0_4.1, p1_4.1, g6, h3, h4, h5, h6) (vs := []) (by kernel_rfl) (by kernel_rfl) (by kernel_rfl) (by kernel_rfl) (by decide)
    · refine J.mono (fun w hS => hS.rowsel [1, 0, 2, 3, 4, 5] rfl (by decide)) ?_
      refine J.mono (fun w hS => hS.freezeH (h := p1_4.2) (xs := x1_4.2)) ?_
      exact J.conv2 [0, 5, 7] [1, 2, 0] [0] [0, 1, 2, 3, 4] (by kernel_rfl) (by kernel_rfl) (by kernel_rfl) (by kernel_rfl) (by decide) h_
  · refine J.block (id := 0) (by kernel_rfl) ?_
    refine J.loopI (σ := Int × (List S78)) (γ := Hd) (f := fun m_ s_ => haywainlaw16_ends_tick.l10 K x0_4 m_ s_) (fun s10 g10 => [(0, .pointer (some ⟨g0_, 0, none⟩)), (3, .slice p0_4.2.1 x0_4.2.length p0_4.2.2), (5, .slice p1_4.2.1 x1_4.2.length p1_4.2.2), (6, .int .i64 s10.1)]) (fun s10 g10 => St X w (keys [⟨g0_, [.int .i64 a0.f0.f0, .int .i64 a0.f0.f1, .int .i64 a0.f0.f2, .slice h0.1 a0.f0.f3.length h0.2, .bool a0.f0.f4, .int .i64 a0.f1.f0, .int .i64 a0.f1.f1, .int .i64 a0.f1.f2, .slice h1.1 a0.f1.f3.length h1.2, .bool a0.f1.f4, .slice h2.1 a0.f2.length h2.2, .slice h3.1 a0.f3.length h3.2, .slice h4.1 a0.f4.length h4.2, .slice h5.1 a0.f5.length h5.2, .slice h6.1 a0.f6.length h6.2], t0_⟩] [mkRow kd78 78 (.slice h2.1 a0.f2.length h2.2) a0.f2, mkRow Kd.string 9 (.slice h3.1 a0.f3.length h3.2) a0.f3, mkRow Kd.string 9 (.slice h4.1 a0.f4.length h4.2) a0.f4, mkRow Kd.string 9 (.slice h5.1 a0.f5.length h5.2) a0.f5, mkRow Kd.string 9 (.slice h6.1 a0.f6.length h6.2) a0.f6]) [⟨g0_, [.int .i64 x0_4.1.f0, .int .i64 x0_4.1.f1, .int .i64 x0_4.1.f2, .slice p0_4.1.1 x0_4.1.f3.length p0_4.1.2, .bool x0_4.1.f4, .int .i64 x1_4.1.f0, .int .i64 x1_4.1.f1, .int .i64 x1_4.1.f2, .slice p1_4.1.1 x1_4.1.f3.length p1_4.1.2, .bool x1_4.1.f4, .slice g10.1 s10.2.length g10.2, .slice h3.1 a0.f3.length h3.2, .slice h4.1 a0.f4.length h4.2, .slice h5.1 a0.f5.length h5.2, .slice h6.1 a0.f6.length h6.2], t0_⟩] [mkRow kd78 78 (.slice g10.1 s10.2.length g10.2) s10.2, mkRow kd37 37 (.slice p1_4.2.1 x1_4.2.length p1_4.2.2) x1_4.2, mkRow Kd.string 9 (.slice h3.1 a0.f3.length h3.2) a0.f3, mkRow Kd.string 9 (.slice h4.1 a0.f4.length h4.2) a0.f4, mkRow Kd.string 9 (.slice h5.1 a0.f5.length h5.2) a0.f5, mkRow Kd.string 9 (.slice h6.1 a0.f6.length h6.2) a0.f6] [] [Rd kd71 p1_4.1.1 p1_4.1.2 x1_4.1.f3, Rd kd71 p0_4.1.1 p0_4.1.2 x0_4.1.f3, Rd kd37 p0_4.2.1 p0_4.2.2 x0_4.2]) K (0, a0.f2) h2 (by kernel_rfl) H (fun _ => rfl) (fun m_ s10 H ih10 g10 => ?_) (fun h_ => ?_)
    · unfold haywainlaw16_ends_tick.l10 at H
      refine J.seq (by kernel_rfl) ?_
      refine J.seq (by kernel_rfl) ?_
      refine J.region (by kernel_rfl) ?_
      refine O.pure 4 [] [0, 3, 5, 6, 35] [] (fr' := [(0, .pointer (some ⟨g0_, 0, none⟩)), (3, .slice p0_4.2.1 x0_4.2.length p0_4.2.2), (5, .slice p1_4.2.1 x1_4.2.length p1_4.2.2), (6, .int .i64 s10.1), (35, .bool (decide (s10.1 < (x0_4.2.length : Int))))]) (bx' := [⟨g0_, [.int .i64 x0_4.1.f0, .int .i64 x0_4.1.f1, .int .i64 x0_4.1.f2, .slice p0_4.1.1 x0_4.1.f3.length p0_4.1.2, .bool x0_4.1.f4, .int .i64 x1_4.1.f0, .int .i64 x1_4.1.f1, .int .i64 x1_4.1.f2, .slice p1_4.1.1 x1_4.1.f3.length p1_4.1.2, .bool x1_4.1.f4, .slice g10.1 s10.2.length g10.2, .slice h3.1 a0.f3.length h3.2, .slice h4.1 a0.f4.length h4.2, .slice h5.1 a0.f5.length h5.2, .slice h6.1 a0.f6.length h6.2], t0_⟩]) (by kernel_rfl) ?_
      refine O.nil (by kernel_rfl) ?_
      rcases condE H with ⟨hc13, H⟩ | ⟨hc13, H⟩
      · refine J.condT (x := .tmp 35) (t := (decide (s10.1 < (x0_4.2.length : Int)))) (by kernel_rfl) (by kernel_rfl) hc13 ?_
        refine J.skip (by kernel_rfl) ?_
        refine J.seq (by kernel_rfl) ?_
        refine J.block (id := 1) (by kernel_rfl) ?_
        obtain ⟨x6_7, hx6_7, H⟩ := bindE H
        obtain ⟨hx6_7a, hx6_7⟩ := idxE hx6_7
        obtain ⟨y6_11, hy6_11, H⟩ := bindE H
        have hy6_11a := (appE hy6_11).1
        refine J.open (d := kd37) (h := p0_4.2) (i := s10.1) 2 rfl hx6_7 (op37 _) (fun p6_7 hp6_7A => ?_)
        refine J.drawS (by kernel_rfl) [(0, some 38, .pointer (some ⟨g0_, 0, none⟩)), (1, some 39, .pointer (some ⟨g0_, 0, none⟩)), (2, some 40, .pointer (some ⟨g0_, 0, none⟩)), (3, some 41, .pointer (some ⟨g0_, 10, none⟩)), (4, some 42, .slice g10.1 s10.2.length g10.2), (5, some 43, .slice p0_4.2.1 x0_4.2.length p0_4.2.2), (6, some 44, .int .i64 s10.1), (8, some 46, .agg #[.int .i64 x6_7.f0, .int .i64 x6_7.f1, .string x6_7.f2]), (9, some 47, .agg #[.int .i64 x6_7.f0, .int .i64 x6_7.f1, .string x6_7.f2, .bool false]), (7, some 45, .pointer (some ⟨p6_7.1, p6_7.2.1 + s10.1.toNat * 3, none⟩))] ([0, 1, 2, 3, 4, 5, 6, 8, 9] ++ [7]) (by kernel_rfl) ?_
        refine D.mid (cs := [10]) [0, 1, 2, 3, 4, 5, 6, 8, 9] [7] [(0, 10), (1, 0)] [g0_, 10, p6_7.1, p6_7.2.1 + s10.1.toNat * 3] (by kernel_rfl) (by kernel_rfl) (⟨QuAt.mk (v := .pointer (some ⟨p6_7.1, p6_7.2.1 + s10.1.toNat * 3, none⟩)) (some 45) (by kernel_rfl) (by kernel_rfl) (Qu.idx (t := 45) (x := .tmp 43) (y := .tmp 44) (c := p0_4.2.2) (kk := .i64) (sz := 3) (by kernel_rfl) (by kernel_rfl) (by kernel_rfl) (by kernel_rfl) hx6_7a (idx_lt hx6_7) hp6_7A), trivial⟩) (by kernel_rfl) ⟨?_, trivial⟩
        refine EvStep.mk (some 48) (new := fun p6_10 => []) ([0, 1, 2, 3, 4, 5, 6, 8] ++ [7]) (by kernel_rfl) (Ev.lit (t := 60) (len := 1) (parts := #[(0, .tmp 47)]) (ps := [(0, .agg #[.int .i64 x6_7.f0, .int .i64 x6_7.f1, .string x6_7.f2, .bool false])]) (cs := [.int .i64 x6_7.f0, .int .i64 x6_7.f1, .string x6_7.f2, .bool false]) (e := 78) kd78 ([(⟨(⟨x6_7.f0, x6_7.f1, x6_7.f2⟩ : S37), false⟩ : S78)] : List S78) (by kernel_rfl) (by kernel_rfl) (by kernel_rfl) (by kernel_rfl) (by kernel_rfl) (by decide) (fun w' hφ => (Els.cons (c := [.int .i64 x6_7.f0, .int .i64 x6_7.f1, .string x6_7.f2, .bool false]) (rfl) (Els.nil _ _ _)))) (fun p6_10 => by kernel_rfl) (fun p6_10 => ?_)
        refine D.mid (cs := [11]) [0, 1, 2, 3, 4, 5, 6, 8] [7] [(0, 10), (1, 0)] [g0_, 10, p6_7.1, p6_7.2.1 + s10.1.toNat * 3] (by kernel_rfl) (by kernel_rfl) (⟨QuAt.mk (v := .pointer (some ⟨p6_7.1, p6_7.2.1 + s10.1.toNat * 3, none⟩)) (some 45) (by kernel_rfl) (by kernel_rfl) (Qu.idx (t := 45) (x := .tmp 43) (y := .tmp 44) (c := p0_4.2.2) (kk := .i64) (sz := 3) (by kernel_rfl) (by kernel_rfl) (by kernel_rfl) (by kernel_rfl) hx6_7a (idx_lt hx6_7) hp6_7A), trivial⟩) (by kernel_rfl) ⟨?_, trivial⟩
        refine EvStep.mk (some 49) (new := fun p6_11 => [(12, some 50, .pointer (some ⟨g0_, 0, none⟩)), (13, some 51, .pointer (some ⟨g0_, 10, none⟩))]) ([0, 1, 2, 3, 5, 6, 8, 12, 13] ++ [7]) (by kernel_rfl) (Ev.appLit (x := .tmp 42) (y := .tmp 48) (t := 60) (bytes := 40) (by kernel_rfl) (by kernel_rfl) (by kernel_rfl) (by kernel_rfl) (by kernel_rfl) (by decide) hy6_11a) (fun p6_11 => by kernel_rfl) (fun p6_11 => ?_)
        refine D.mid (cs := [14]) [0, 1, 2, 3, 5, 6, 8, 12, 13] [7] [(1, 0)] [p6_7.1, p6_7.2.1 + s10.1.toNat * 3] (by kernel_rfl) (by kernel_rfl) (⟨QuAt.mk (v := .pointer (some ⟨p6_7.1, p6_7.2.1 + s10.1.toNat * 3, none⟩)) (some 45) (by kernel_rfl) (by kernel_rfl) (Qu.idx (t := 45) (x := .tmp 43) (y := .tmp 44) (c := p0_4.2.2) (kk := .i64) (sz := 3) (by kernel_rfl) (by kernel_rfl) (by kernel_rfl) (by kernel_rfl) hx6_7a (idx_lt hx6_7) hp6_7A), trivial⟩) (by kernel_rfl) ⟨?_, trivial⟩
        refine EvStep.mk none (new := fun _ => []) ([12] ++ []) (by kernel_rfl) (Ev.store (kk := 0) (cs := [.int .i64 x0_4.1.f0, .int .i64 x0_4.1.f1, .int .i64 x0_4.1.f2, .slice p0_4.1.1 x0_4.1.f3.length p0_4.1.2, .bool x0_4.1.f4, .int .i64 x1_4.1.f0, .int .i64 x1_4.1.f1, .int .i64 x1_4.1.f2, .slice p1_4.1.1 x1_4.1.f3.length p1_4.1.2, .bool x1_4.1.f4, .slice p6_11.1 (s10.2 ++ ([(⟨(⟨x6_7.f0, x6_7.f1, x6_7.f2⟩ : S37), false⟩ : S78)] : List S78)).length p6_11.2, .slice h3.1 a0.f3.length h3.2, .slice h4.1 a0.f4.length h4.2, .slice h5.1 a0.f5.length h5.2, .slice h6.1 a0.f6.length h6.2]) (0, 10) [g0_, 10] (by kernel_rfl)) (fun _ => by kernel_rfl) (fun _ => ?_)
        refine D.fin (fr' := [(0, .pointer (some ⟨g0_, 0, none⟩)), (3, .slice p0_4.2.1 x0_4.2.length p0_4.2.2), (5, .slice p1_4.2.1 x1_4.2.length p1_4.2.2), (6, .int .i64 s10.1)]) [12] [] [] [] [0, 3, 5, 6] (by kernel_rfl) (by kernel_rfl) trivial (by kernel_rfl) ?_
        refine J.out ?_
        refine J.region (by kernel_rfl) ?_
        refine O.pure 3 [] [0, 3, 5, 6] [] (fr' := [(0, .pointer (some ⟨g0_, 0, none⟩)), (3, .slice p0_4.2.1 x0_4.2.length p0_4.2.2), (5, .slice p1_4.2.1 x1_4.2.length p1_4.2.2), (6, .int .i64 (IntKind.wrap .i64 (s10.1 + 1)))]) (bx' := [⟨g0_, [.int .i64 x0_4.1.f0, .int .i64 x0_4.1.f1, .int .i64 x0_4.1.f2, .slice p0_4.1.1 x0_4.1.f3.length p0_4.1.2, .bool x0_4.1.f4, .int .i64 x1_4.1.f0, .int .i64 x1_4.1.f1, .int .i64 x1_4.1.f2, .slice p1_4.1.1 x1_4.1.f3.length p1_4.1.2, .bool x1_4.1.f4, .slice p6_11.1 (s10.2 ++ ([(⟨(⟨x6_7.f0, x6_7.f1, x6_7.f2⟩ : S37), false⟩ : S78)] : List S78)).length p6_11.2, .slice h3.1 a0.f3.length h3.2, .slice h4.1 a0.f4.length h4.2, .slice h5.1 a0.f5.length h5.2, .slice h6.1 a0.f6.length h6.2], t0_⟩]) (by kernel_rfl) ?_
        refine O.nil (by kernel_rfl) ?_
        exact J.conv2 [0, 3, 5, 6] [0, 1, 2] [0] [0, 1, 2, 3, 4, 5] (by kernel_rfl) (by kernel_rfl) (by kernel_rfl) (by kernel_rfl) (by decide) (ih10 ((IntKind.wrap .i64 (s10.1 + 1)), (s10.2 ++ ([(⟨(⟨x6_7.f0, x6_7.f1, x6_7.f2⟩ : S37), false⟩ : S78)] : List S78))) p6_11 H)
      · refine J.condF (x := .tmp 35) (t := (decide (s10.1 < (x0_4.2.length : Int)))) (by kernel_rfl) (by kernel_rfl) hc13 ?_
        refine J.exit (id := 0) (by kernel_rfl) rfl ?_
        obtain rfl := Option.some.inj H
        exact J.conv2 [0, 5] [0, 1] [0] [0, 1, 2, 3, 4, 5] (by kernel_rfl) (by kernel_rfl) (by kernel_rfl) (by kernel_rfl) (by decide) (hj1 g10)
    · refine J.mono (fun w hS => hS.rowsel [1, 0, 2, 3, 4, 5, 6] rfl (by decide)) ?_
      refine J.mono (fun w hS => hS.freezeH (h := p0_4.2) (xs := x0_4.2)) ?_
      exact J.conv2 [0, 3, 5, 6] [1, 2, 0] [2] [1, 0, 2, 3, 4, 5] (by kernel_rfl) (by kernel_rfl) (by kernel_rfl) (by kernel_rfl) (by decide) h_
/-! ### (*haywain/haywainlaw16.ends).come: function 26 -/
def haywainlaw16_ends_come.f (K : Nat) (a0 : S63) (a1 : Int) : Option S63 := (idxO a0.f2 a1).bind fun x0_5 => cond x0_5.f1 ((link_Take.f K a0.f0 x0_5.f0).bind fun x2_6 => cond x2_6.2.2 ((appO 16 a0.f6 ([x2_6.2.1] : List ByteArray)).bind fun y5_7 => some ((⟨(⟨x2_6.1.f0, x2_6.1.f1, x2_6.1.f2, x2_6.1.f3, x2_6.1.f4⟩ : S24), (⟨a0.f1.f0, a0.f1.f1, a0.f1.f2, a0.f1.f3, a0.f1.f4⟩ : S24), a0.f2, a0.f3, a0.f4, a0.f5, (a0.f6 ++ ([x2_6.2.1] : List ByteArray))⟩ : S63))) (some ((⟨(⟨x2_6.1.f0, x2_6.1.f1, x2_6.1.f2, x2_6.1.f3, x2_6.1.f4⟩ : S24), (⟨a0.f1.f0, a0.f1.f1, a0.f1.f2, a0.f1.f3, a0.f1.f4⟩ : S24), a0.f2, a0.f3, a0.f4, a0.f5, a0.f6⟩ : S63)))) ((link_Take.f K a0.f1 x0_5.f0).bind fun x6_6 => cond x6_6.2.2 ((appO 16 a0.f4 ([x6_6.2.1] : List ByteArray)).bind fun y9_7 => some ((⟨(⟨a0.f0.f0, a0.f0.f1, a0.f0.f2, a0.f0.f3, a0.f0.f4⟩ : S24), (⟨x6_6.1.f0, x6_6.1.f1, x6_6.1.f2, x6_6.1.f3, x6_6.1.f4⟩ : S24), a0.f2, a0.f3, (a0.f4 ++ ([x6_6.2.1] : List ByteArray)), a0.f5, a0.f6⟩ : S63))) (some ((⟨(⟨a0.f0.f0, a0.f0.f1, a0.f0.f2, a0.f0.f3, a0.f0.f4⟩ : S24), (⟨x6_6.1.f0, x6_6.1.f1, x6_6.1.f2, x6_6.1.f3, x6_6.1.f4⟩ : S24), a0.f2, a0.f3, a0.f4, a0.f5, a0.f6⟩ : S63))))
set_option maxRecDepth 100000 in
set_option maxHeartbeats 1000000 in
theorem haywainlaw16_ends_come.con (K : Nat) (a0 : S63) (a1 : Int) (g0_ t0_ : Nat) (h0 : Hd) (h1 : Hd) (h2 : Hd) (h3 : Hd) (h4 : Hd) (h5 : Hd) (h6 : Hd) (r : S63) (X : Nat → Nat → Prop) (w : World) (hS : St X w (keys [⟨g0_, [.int .i64 a0.f0.f0, .int .i64 a0.f0.f1, .int .i64 a0.f0.f2, .slice h0.1 a0.f0.f3.length h0.2, .bool a0.f0.f4, .int .i64 a0.f1.f0, .int .i64 a0.f1.f1, .int .i64 a0.f1.f2, .slice h1.1 a0.f1.f3.length h1.2, .bool a0.f1.f4, .slice h2.1 a0.f2.length h2.2, .slice h3.1 a0.f3.length h3.2, .slice h4.1 a0.f4.length h4.2, .slice h5.1 a0.f5.length h5.2, .slice h6.1 a0.f6.length h6.2], t0_⟩] [mkRow kd78 78 (.slice h2.1 a0.f2.length h2.2) a0.f2, mkRow Kd.string 9 (.slice h3.1 a0.f3.length h3.2) a0.f3, mkRow Kd.string 9 (.slice h4.1 a0.f4.length h4.2) a0.f4, mkRow Kd.string 9 (.slice h5.1 a0.f5.length h5.2) a0.f5, mkRow Kd.string 9 (.slice h6.1 a0.f6.length h6.2) a0.f6]) [⟨g0_, [.int .i64 a0.f0.f0, .int .i64 a0.f0.f1, .int .i64 a0.f0.f2, .slice h0.1 a0.f0.f3.length h0.2, .bool a0.f0.f4, .int .i64 a0.f1.f0, .int .i64 a0.f1.f1, .int .i64 a0.f1.f2, .slice h1.1 a0.f1.f3.length h1.2, .bool a0.f1.f4, .slice h2.1 a0.f2.length h2.2, .slice h3.1 a0.f3.length h3.2, .slice h4.1 a0.f4.length h4.2, .slice h5.1 a0.f5.length h5.2, .slice h6.1 a0.f6.length h6.2], t0_⟩] [mkRow kd78 78 (.slice h2.1 a0.f2.length h2.2) a0.f2, mkRow Kd.string 9 (.slice h3.1 a0.f3.length h3.2) a0.f3, mkRow Kd.string 9 (.slice h4.1 a0.f4.length h4.2) a0.f4, mkRow Kd.string 9 (.slice h5.1 a0.f5.length h5.2) a0.f5, mkRow Kd.string 9 (.slice h6.1 a0.f6.length h6.2) a0.f6] [] [Rd kd71 h0.1 h0.2 a0.f0.f3, Rd kd71 h1.1 h1.2 a0.f1.f3] w) (H : haywainlaw16_ends_come.f K a0 a1 = some r) :
    Cn Try.prog 26 [.pointer (some ⟨g0_, 0, none⟩), .int .i64 a1] X w (keys [⟨g0_, [.int .i64 a0.f0.f0, .int .i64 a0.f0.f1, .int .i64 a0.f0.f2, .slice h0.1 a0.f0.f3.length h0.2, .bool a0.f0.f4, .int .i64 a0.f1.f0, .int .i64 a0.f1.f1, .int .i64 a0.f1.f2, .slice h1.1 a0.f1.f3.length h1.2, .bool a0.f1.f4, .slice h2.1 a0.f2.length h2.2, .slice h3.1 a0.f3.length h3.2, .slice h4.1 a0.f4.length h4.2, .slice h5.1 a0.f5.length h5.2, .slice h6.1 a0.f6.length h6.2], t0_⟩] [mkRow kd78 78 (.slice h2.1 a0.f2.length h2.2) a0.f2, mkRow Kd.string 9 (.slice h3.1 a0.f3.length h3.2) a0.f3, mkRow Kd.string 9 (.slice h4.1 a0.f4.length h4.2) a0.f4, mkRow Kd.string 9 (.slice h5.1 a0.f5.length h5.2) a0.f5, mkRow Kd.string 9 (.slice h6.1 a0.f6.length h6.2) a0.f6]) (fun i : Hd × Hd × Hd × Hd × Hd × Hd × Hd => .tuple #[]) (fun i => [⟨g0_, [.int .i64 r.f0.f0, .int .i64 r.f0.f1, .int .i64 r.f0.f2, .slice i.1.1 r.f0.f3.length i.1.2, .bool r.f0.f4, .int .i64 r.f1.f0, .int .i64 r.f1.f1, .int .i64 r.f1.f2, .slice i.2.1.1 r.f1.f3.length i.2.1.2, .bool r.f1.f4, .slice i.2.2.1.1 r.f2.length i.2.2.1.2, .slice i.2.2.2.1.1 r.f3.length i.2.2.2.1.2, .slice i.2.2.2.2.1.1 r.f4.length i.2.2.2.2.1.2, .slice i.2.2.2.2.2.1.1 r.f5.length i.2.2.2.2.2.1.2, .slice i.2.2.2.2.2.2.1 r.f6.length i.2.2.2.2.2.2.2], t0_⟩]) (fun i => [mkRow kd78 78 (.slice i.2.2.1.1 r.f2.length i.2.2.1.2) r.f2, mkRow Kd.string 9 (.slice i.2.2.2.1.1 r.f3.length i.2.2.2.1.2) r.f3, mkRow Kd.string 9 (.slice i.2.2.2.2.1.1 r.f4.length i.2.2.2.2.1.2) r.f4, mkRow Kd.string 9 (.slice i.2.2.2.2.2.1.1 r.f5.length i.2.2.2.2.2.1.2) r.f5, mkRow Kd.string 9 (.slice i.2.2.2.2.2.2.1 r.f6.length i.2.2.2.2.2.2.2) r.f6]) (fun i => [Rd kd71 i.1.1 i.1.2 r.f0.f3, Rd kd71 i.2.1.1 i.2.1.2 r.f1.f3]) := by
  refine Cn.of Try.func26 (by kernel_rfl) hS ?_
  unfold haywainlaw16_ends_come.f at H
  refine J.seq (by kernel_rfl) ?_
  obtain ⟨x0_5, hx0_5, H⟩ := bindE H
  obtain ⟨hx0_5a, hx0_5⟩ := idxE hx0_5
  refine J.region (by kernel_rfl) ?_
  refine O.pure 5 [(0, 10)] [0, 14, 15] [g0_, 10] (fr' := [(0, .pointer (some ⟨g0_, 0, none⟩)), (14, .slice h2.1 a0.f2.length h2.2), (15, .int .i64 a1)]) (bx' := [⟨g0_, [.int .i64 a0.f0.f0, .int .i64 a0.f0.f1, .int .i64 a0.f0.f2, .slice h0.1 a0.f0.f3.length h0.2, .bool a0.f0.f4, .int .i64 a0.f1.f0, .int .i64 a0.f1.f1, .int .i64 a0.f1.f2, .slice h1.1 a0.f1.f3.length h1.2, .bool a0.f1.f4, .slice h2.1 a0.f2.length h2.2, .slice h3.1 a0.f3.length h3.2, .slice h4.1 a0.f4.length h4.2, .slice h5.1 a0.f5.length h5.2, .slice h6.1 a0.f6.length h6.2], t0_⟩]) (by kernel_rfl) ?_
  refine O.mono (fun w hS => hS.pk) ?_
  refine O.peek (d := kd78) (hh := h2) (m := a0.f2.length) (i := a1) (by simpa only [List.length_set] using hx0_5) (op78 _) (fun p0_5 hp0_5A => ?_)
  refine O.q (v := .pointer (some ⟨p0_5.1, 0 + a1.toNat * 4, none⟩)) (some 16) (Qu.idx (t := 60) (x := .tmp 14) (y := .tmp 15) (len := a0.f2.length) (c := h2.2) (kk := .i64) (sz := 4) (by kernel_rfl) (by kernel_rfl) (by kernel_rfl) (by kernel_rfl) hx0_5a (by have := idx_lt hx0_5; simpa only [List.length_set, List.length_replicate] using this) hp0_5A) (by kernel_rfl) ?_
  refine O.q (v := .agg #[.int .i64 x0_5.f0.f0, .int .i64 x0_5.f0.f1, .string x0_5.f0.f2, .bool x0_5.f1]) (some 17) (Qu.loadR (t := 78) (x := .tmp 16) (hh := h2) (m := a0.f2.length) (i := a1.toNat) (u := .pointer (some ⟨p0_5.1, 0 + a1.toNat * 4, none⟩)) (r := .agg #[.int .i64 x0_5.f0.f0, .int .i64 x0_5.f0.f1, .string x0_5.f0.f2, .bool x0_5.f1]) (cs := [.int .i64 x0_5.f0.f0, .int .i64 x0_5.f0.f1, .string x0_5.f0.f2, .bool x0_5.f1]) 0 0 [p0_5.1, 0 + a1.toNat * 4] (by kernel_rfl) (by kernel_rfl) hp0_5A rfl (by kernel_rfl)) (by kernel_rfl) ?_
  refine O.e (some 4) (Ev.alloc (t := 78) (z := .agg #[.int .i64 0, .int .i64 0, .string (⟨#[]⟩ : ByteArray), .bool false]) (by kernel_rfl) (by kernel_rfl)) (by kernel_rfl) (fun p0_7 => ?_)
  refine O.pure 1 [(0, 0)] [0, 4] [p0_7, 0] (fr' := [(0, .pointer (some ⟨g0_, 0, none⟩)), (4, .pointer (some ⟨p0_7, 0, none⟩))]) (bx' := [⟨p0_7, [.int .i64 x0_5.f0.f0, .int .i64 x0_5.f0.f1, .string x0_5.f0.f2, .bool x0_5.f1], 78⟩, ⟨g0_, [.int .i64 a0.f0.f0, .int .i64 a0.f0.f1, .int .i64 a0.f0.f2, .slice h0.1 a0.f0.f3.length h0.2, .bool a0.f0.f4, .int .i64 a0.f1.f0, .int .i64 a0.f1.f1, .int .i64 a0.f1.f2, .slice h1.1 a0.f1.f3.length h1.2, .bool a0.f1.f4, .slice h2.1 a0.f2.length h2.2, .slice h3.1 a0.f3.length h3.2, .slice h4.1 a0.f4.length h4.2, .slice h5.1 a0.f5.length h5.2, .slice h6.1 a0.f6.length h6.2], t0_⟩]) (by kernel_rfl) ?_
  refine O.nil (by kernel_rfl) ?_
  refine J.mono (fun w hS => hS.unpk) ?_
  refine J.seq (by kernel_rfl) ?_
  refine J.seq (by kernel_rfl) ?_
  refine J.region (by kernel_rfl) ?_
  refine O.pure 2 [(0, 3)] [0, 4, 19] [p0_7, 3] (fr' := [(0, .pointer (some ⟨g0_, 0, none⟩)), (4, .pointer (some ⟨p0_7, 0, none⟩)), (19, .bool x0_5.f1)]) (bx' := [⟨p0_7, [.int .i64 x0_5.f0.f0, .int .i64 x0_5.f0.f1, .string x0_5.f0.f2, .bool x0_5.f1], 78⟩, ⟨g0_, [.int .i64 a0.f0.f0, .int .i64 a0.f0.f1, .int .i64 a0.f0.f2, .slice h0.1 a0.f0.f3.length h0.2, .bool a0.f0.f4, .int .i64 a0.f1.f0, .int .i64 a0.f1.f1, .int .i64 a0.f1.f2, .slice h1.1 a0.f1.f3.length h1.2, .bool a0.f1.f4, .slice h2.1 a0.f2.length h2.2, .slice h3.1 a0.f3.length h3.2, .slice h4.1 a0.f4.length h4.2, .slice h5.1 a0.f5.length h5.2, .slice h6.1 a0.f6.length h6.2], t0_⟩]) (by kernel_rfl) ?_
  refine O.nil (by kernel_rfl) ?_
  rcases condE H with ⟨hc1, H⟩ | ⟨hc1, H⟩
  · refine J.condT (x := .tmp 19) (t := x0_5.f1) (by kernel_rfl) (by kernel_rfl) hc1 ?_
    refine J.seq (by kernel_rfl) ?_
    obtain ⟨x2_6, hx2_6, H⟩ := bindE H
    refine J.cutAt (γ := Hd × Nat) (fun q_ => [(0, .pointer (some ⟨g0_, 0, none⟩)), (5, .pointer (some ⟨q_.2, 0, none⟩)), (6, .string x2_6.2.1), (7, .bool x2_6.2.2)]) (fun q_ => St X w (keys [⟨g0_, [.int .i64 a0.f0.f0, .int .i64 a0.f0.f1, .int .i64 a0.f0.f2, .slice h0.1 a0.f0.f3.length h0.2, .bool a0.f0.f4, .int .i64 a0.f1.f0, .int .i64 a0.f1.f1, .int .i64 a0.f1.f2, .slice h1.1 a0.f1.f3.length h1.2, .bool a0.f1.f4, .slice h2.1 a0.f2.length h2.2, .slice h3.1 a0.f3.length h3.2, .slice h4.1 a0.f4.length h4.2, .slice h5.1 a0.f5.length h5.2, .slice h6.1 a0.f6.length h6.2], t0_⟩] [mkRow kd78 78 (.slice h2.1 a0.f2.length h2.2) a0.f2, mkRow Kd.string 9 (.slice h3.1 a0.f3.length h3.2) a0.f3, mkRow Kd.string 9 (.slice h4.1 a0.f4.length h4.2) a0.f4, mkRow Kd.string 9 (.slice h5.1 a0.f5.length h5.2) a0.f5, mkRow Kd.string 9 (.slice h6.1 a0.f6.length h6.2) a0.f6]) [⟨q_.2, [.int .i64 x2_6.1.f0, .int .i64 x2_6.1.f1, .int .i64 x2_6.1.f2, .slice q_.1.1 x2_6.1.f3.length q_.1.2, .bool x2_6.1.f4], 24⟩, ⟨p0_7, [.int .i64 x0_5.f0.f0, .int .i64 x0_5.f0.f1, .string x0_5.f0.f2, .bool x0_5.f1], 78⟩, ⟨g0_, [.int .i64 a0.f0.f0, .int .i64 a0.f0.f1, .int .i64 a0.f0.f2, .slice h0.1 a0.f0.f3.length h0.2, .bool a0.f0.f4, .int .i64 a0.f1.f0, .int .i64 a0.f1.f1, .int .i64 a0.f1.f2, .slice h1.1 a0.f1.f3.length h1.2, .bool a0.f1.f4, .slice h2.1 a0.f2.length h2.2, .slice h3.1 a0.f3.length h3.2, .slice h4.1 a0.f4.length h4.2, .slice h5.1 a0.f5.length h5.2, .slice h6.1 a0.f6.length h6.2], t0_⟩] [mkRow kd78 78 (.slice h2.1 a0.f2.length h2.2) a0.f2, mkRow Kd.string 9 (.slice h3.1 a0.f3.length h3.2) a0.f3, mkRow Kd.string 9 (.slice h4.1 a0.f4.length h4.2) a0.f4, mkRow Kd.string 9 (.slice h5.1 a0.f5.length h5.2) a0.f5, mkRow Kd.string 9 (.slice h6.1 a0.f6.length h6.2) a0.f6] [] [Rd kd71 q_.1.1 q_.1.2 x2_6.1.f3, Rd kd71 h0.1 h0.2 a0.f0.f3, Rd kd71 h1.1 h1.2 a0.f1.f3]) (fun q_ => ?_) (fun hk_ => ?_)
    · obtain ⟨p2_6, p2_11⟩ := q_
      refine J.seq (by kernel_rfl) ?_
      refine J.region (by kernel_rfl) ?_
      refine O.pure 5 [(0, 0), (2, 0)] [0, 6, 7] [p2_11, 0, g0_, 0] (fr' := [(0, .pointer (some ⟨g0_, 0, none⟩)), (6, .string x2_6.2.1), (7, .bool x2_6.2.2)]) (bx' := [⟨p2_11, [.int .i64 x2_6.1.f0, .int .i64 x2_6.1.f1, .int .i64 x2_6.1.f2, .slice p2_6.1 x2_6.1.f3.length p2_6.2, .bool x2_6.1.f4], 24⟩, ⟨p0_7, [.int .i64 x0_5.f0.f0, .int .i64 x0_5.f0.f1, .string x0_5.f0.f2, .bool x0_5.f1], 78⟩, ⟨g0_, [.int .i64 x2_6.1.f0, .int .i64 x2_6.1.f1, .int .i64 x2_6.1.f2, .slice p2_6.1 x2_6.1.f3.length p2_6.2, .bool x2_6.1.f4, .int .i64 a0.f1.f0, .int .i64 a0.f1.f1, .int .i64 a0.f1.f2, .slice h1.1 a0.f1.f3.length h1.2, .bool a0.f1.f4, .slice h2.1 a0.f2.length h2.2, .slice h3.1 a0.f3.length h3.2, .slice h4.1 a0.f4.length h4.2, .slice h5.1 a0.f5.length h5.2, .slice h6.1 a0.f6.length h6.2], t0_⟩]) (by kernel_rfl) ?_
      refine O.nil (by kernel_rfl) ?_
      refine J.seq (by kernel_rfl) ?_
      refine J.seq (by kernel_rfl) ?_
      refine J.region (by kernel_rfl) ?_
      refine O.pure 1 [] [0, 6, 35] [] (fr' := [(0, .pointer (some ⟨g0_, 0, none⟩)), (6, .string x2_6.2.1), (35, .bool x2_6.2.2)]) (bx' := [⟨p2_11, [.int .i64 x2_6.1.f0, .int .i64 x2_6.1.f1, .int .i64 x2_6.1.f2, .slice p2_6.1 x2_6.1.f3.length p2_6.2, .bool x2_6.1.f4], 24⟩, ⟨p0_7, [.int .i64 x0_5.f0.f0, .int .i64 x0_5.f0.f1, .string x0_5.f0.f2, .bool x0_5.f1], 78⟩, ⟨g0_, [.int .i64 x2_6.1.f0, .int .i64 x2_6.1.f1, .int .i64 x2_6.1.f2, .slice p2_6.1 x2_6.1.f3.length p2_6.2, .bool x2_6.1.f4, .int .i64 a0.f1.f0, .int .i64 a0.f1.f1, .int .i64 a0.f1.f2, .slice h1.1 a0.f1.f3.length h1.2, .bool a0.f1.f4, .slice h2.1 a0.f2.length h2.2, .slice h3.1 a0.f3.length h3.2, .slice h4.1 a0.f4.length h4.2, .slice h5.1 a0.f5.length h5.2, .slice h6.1 a0.f6.length h6.2], t0_⟩]) (by kernel_rfl) ?_
      refine O.nil (by kernel_rfl) ?_
      rcases condE H with ⟨hc2, H⟩ | ⟨hc2, H⟩
      · refine J.condT (x := .tmp 35) (t := x2_6.2.2) (by kernel_rfl) (by kernel_rfl) hc2 ?_
        obtain ⟨y5_7, hy5_7, H⟩ := bindE H
        have hy5_7a := (appE hy5_7).1
        refine J.region (by kernel_rfl) ?_
        refine O.pure 6 [(2, 14)] [36, 40, 41] [g0_, 14] (fr' := [(36, .pointer (some ⟨g0_, 0, none⟩)), (40, .slice h6.1 a0.f6.length h6.2), (41, .string x2_6.2.1)]) (bx' := [⟨p2_11, [.int .i64 x2_6.1.f0, .int .i64 x2_6.1.f1, .int .i64 x2_6.1.f2, .slice p2_6.1 x2_6.1.f3.length p2_6.2, .bool x2_6.1.f4], 24⟩, ⟨p0_7, [.int .i64 x0_5.f0.f0, .int .i64 x0_5.f0.f1, .string x0_5.f0.f2, .bool x0_5.f1], 78⟩, ⟨g0_, [.int .i64 x2_6.1.f0, .int .i64 x2_6.1.f1, .int .i64 x2_6.1.f2, .slice p2_6.1 x2_6.1.f3.length p2_6.2, .bool x2_6.1.f4, .int .i64 a0.f1.f0, .int .i64 a0.f1.f1, .int .i64 a0.f1.f2, .slice h1.1 a0.f1.f3.length h1.2, .bool a0.f1.f4, .slice h2.1 a0.f2.length h2.2, .slice h3.1 a0.f3.length h3.2, .slice h4.1 a0.f4.length h4.2, .slice h5.1 a0.f5.length h5.2, .slice h6.1 a0.f6.length h6.2], t0_⟩]) (by kernel_rfl) ?_
        refine O.e (some 42) (Ev.mono (fun w hS => hS.rowsel [4, 0, 1, 2, 3] rfl (by decide)) (Ev.lit (t := 61) (len := 1) (parts := #[(0, .tmp 41)]) (ps := [(0, .string x2_6.2.1)]) (cs := [.string x2_6.2.1]) (e := 9) Kd.string ([x2_6.2.1] : List ByteArray) (by kernel_rfl) (by kernel_rfl) (by kernel_rfl) (by kernel_rfl) (by kernel_rfl) (by decide) (fun w' hφ => (Els.cons (c := [.string x2_6.2.1]) (rfl) (Els.nil _ _ _))))) (by kernel_rfl) (fun p5_6 => ?_)
        refine O.e (some 43) (Ev.appLit (x := .tmp 40) (y := .tmp 42) (t := 61) (bytes := 16) (by kernel_rfl) (by kernel_rfl) (by kernel_rfl) (by kernel_rfl) (by kernel_rfl) (by decide) hy5_7a) (by kernel_rfl) (fun p5_7 => ?_)
        refine O.pure 3 [(2, 14)] [] [g0_, 14] (fr' := []) (bx' := [⟨p2_11, [.int .i64 x2_6.1.f0, .int .i64 x2_6.1.f1, .int .i64 x2_6.1.f2, .slice p2_6.1 x2_6.1.f3.length p2_6.2, .bool x2_6.1.f4], 24⟩, ⟨p0_7, [.int .i64 x0_5.f0.f0, .int .i64 x0_5.f0.f1, .string x0_5.f0.f2, .bool x0_5.f1], 78⟩, ⟨g0_, [.int .i64 x2_6.1.f0, .int .i64 x2_6.1.f1, .int .i64 x2_6.1.f2, .slice p2_6.1 x2_6.1.f3.length p2_6.2, .bool x2_6.1.f4, .int .i64 a0.f1.f0, .int .i64 a0.f1.f1, .int .i64 a0.f1.f2, .slice h1.1 a0.f1.f3.length h1.2, .bool a0.f1.f4, .slice h2.1 a0.f2.length h2.2, .slice h3.1 a0.f3.length h3.2, .slice h4.1 a0.f4.length h4.2, .slice h5.1 a0.f5.length h5.2, .slice p5_7.1 (a0.f6 ++ ([x2_6.2.1] : List ByteArray)).length p5_7.2], t0_⟩]) (by kernel_rfl) ?_
        refine O.nil (by kernel_rfl) ?_
        obtain rfl := Option.some.inj H
        exact J.doneS [] [] [0, 2] [2] [1, 2, 3, 4, 0] (p2_6, h1, h2, h3, h4, h5, p5_7) (vs := []) (by kernel_rfl) (by kernel_rfl) (by kernel_rfl) (by kernel_rfl) (by kernel_rfl) (by decide)
      · refine J.condF (x := .tmp 35) (t := x2_6.2.2) (by kernel_rfl) (by kernel_rfl) hc2 ?_
        refine J.skip (by kernel_rfl) ?_
        obtain rfl := Option.some.inj H
        exact J.doneS [] [] [0, 2] [2] [0, 1, 2, 3, 4] (p2_6, h1, h2, h3, h4, h5, h6) (vs := []) (by kernel_rfl) (by kernel_rfl) (by kernel_rfl) (by kernel_rfl) (by kernel_rfl) (by decide)
    · refine J.drawS (by kernel_rfl) [(0, some 21, .pointer (some ⟨g0_, 0, none⟩)), (1, some 22, .pointer (some ⟨g0_, 0, none⟩)), (2, some 23, .pointer (some ⟨g0_, 0, none⟩)), (3, some 24, .agg #[.int .i64 a0.f0.f0, .int .i64 a0.f0.f1, .int .i64 a0.f0.f2, .slice h0.1 a0.f0.f3.length h0.2, .bool a0.f0.f4]), (4, some 25, .pointer (some ⟨p0_7, 0, none⟩)), (5, some 26, .agg #[.int .i64 x0_5.f0.f0, .int .i64 x0_5.f0.f1, .string x0_5.f0.f2])] ([0, 1, 2, 3, 4, 5] ++ []) (by kernel_rfl) ?_
      refine D.mid (cs := [6, 11]) [0, 1, 2, 3, 4, 5] [] [(1, 0), (0, 0)] [g0_, 0, p0_7, 0] (by kernel_rfl) (by kernel_rfl) trivial (by kernel_rfl) ⟨?_, ?_, trivial⟩
      · refine EvStep.mk (some 27) (new := fun p2_6 => [(7, some 20, .tuple #[.agg #[.int .i64 x2_6.1.f0, .int .i64 x2_6.1.f1, .int .i64 x2_6.1.f2, .slice p2_6.1 x2_6.1.f3.length p2_6.2, .bool x2_6.1.f4], .string x2_6.2.1, .bool x2_6.2.2]), (8, some 28, .agg #[.int .i64 x2_6.1.f0, .int .i64 x2_6.1.f1, .int .i64 x2_6.1.f2, .slice p2_6.1 x2_6.1.f3.length p2_6.2, .bool x2_6.1.f4]), (9, some 29, .string x2_6.2.1), (10, some 30, .bool x2_6.2.2)]) ([0, 1, 2, 4, 7, 8, 9, 10] ++ []) (by kernel_rfl) (Ev.call0 (xs := [.tmp 24, .tmp 26]) [0] (by kernel_rfl) (by kernel_rfl) (fun w hS => link_Take.con K a0.f0 x0_5.f0 h0  _ _ w hS hx2_6)) (fun p2_6 => by kernel_rfl) (fun p2_6 => ?_)
        refine D.mid (cs := [11]) [0, 1, 2, 4, 7, 8, 9, 10] [] [] [] (by kernel_rfl) (by kernel_rfl) trivial (by kernel_rfl) ⟨?_, trivial⟩
        refine EvStep.mk (some 5) (new := fun p2_11 => []) ([0, 1, 2, 4, 7, 8, 9, 10] ++ []) (by kernel_rfl) (Ev.alloc (t := 24) (z := .agg #[.int .i64 0, .int .i64 0, .int .i64 0, .slice none 0 0, .bool false]) (by kernel_rfl) (by kernel_rfl)) (fun p2_11 => by kernel_rfl) (fun p2_11 => ?_)
        refine D.mid (cs := [12]) [0, 1, 2, 4, 7, 8, 9, 10] [] [] [] (by kernel_rfl) (by kernel_rfl) trivial (by kernel_rfl) ⟨?_, trivial⟩
        refine EvStep.mk none (new := fun _ => [(13, some 6, .string x2_6.2.1), (14, some 7, .bool x2_6.2.2)]) ([9, 10, 13, 14] ++ []) (by kernel_rfl) (Ev.store (kk := 0) (cs := [.int .i64 x2_6.1.f0, .int .i64 x2_6.1.f1, .int .i64 x2_6.1.f2, .slice p2_6.1 x2_6.1.f3.length p2_6.2, .bool x2_6.1.f4]) (0, 0) [p2_11, 0] (by kernel_rfl)) (fun _ => by kernel_rfl) (fun _ => ?_)
        refine D.fin (fr' := [(0, .pointer (some ⟨g0_, 0, none⟩)), (5, .pointer (some ⟨p2_11, 0, none⟩)), (6, .string x2_6.2.1), (7, .bool x2_6.2.2)]) [9, 10, 13, 14] [] [] [] [0, 5, 6, 7] (by kernel_rfl) (by kernel_rfl) trivial (by kernel_rfl) ?_
        exact J.conv2 [0, 5, 6, 7] [0, 1, 2] [0, 1, 2] [0, 1, 2, 3, 4] (by kernel_rfl) (by kernel_rfl) (by kernel_rfl) (by kernel_rfl) (by decide) (hk_ (p2_6, p2_11))
      · refine EvStep.mk (some 5) (new := fun p2_11 => []) ([0, 1, 2, 3, 4, 5] ++ []) (by kernel_rfl) (Ev.alloc (t := 24) (z := .agg #[.int .i64 0, .int .i64 0, .int .i64 0, .slice none 0 0, .bool false]) (by kernel_rfl) (by kernel_rfl)) (fun p2_11 => by kernel_rfl) (fun p2_11 => ?_)
        refine D.mid (cs := [6]) [0, 1, 2, 3, 4, 5] [] [(2, 0), (1, 0)] [g0_, 0, p0_7, 0] (by kernel_rfl) (by kernel_rfl) trivial (by kernel_rfl) ⟨?_, trivial⟩
        refine EvStep.mk (some 27) (new := fun p2_6 => [(7, some 20, .tuple #[.agg #[.int .i64 x2_6.1.f0, .int .i64 x2_6.1.f1, .int .i64 x2_6.1.f2, .slice p2_6.1 x2_6.1.f3.length p2_6.2, .bool x2_6.1.f4], .string x2_6.2.1, .bool x2_6.2.2]), (8, some 28, .agg #[.int .i64 x2_6.1.f0, .int .i64 x2_6.1.f1, .int .i64 x2_6.1.f2, .slice p2_6.1 x2_6.1.f3.length p2_6.2, .bool x2_6.1.f4]), (9, some 29, .string x2_6.2.1), (10, some 30, .bool x2_6.2.2)]) ([0, 1, 2, 4, 7, 8, 9, 10] ++ []) (by kernel_rfl) (Ev.call0 (xs := [.tmp 24, .tmp 26]) [0] (by kernel_rfl) (by kernel_rfl) (fun w hS => link_Take.con K a0.f0 x0_5.f0 h0  _ _ w hS hx2_6)) (fun p2_6 => by kernel_rfl) (fun p2_6 => ?_)
        refine D.mid (cs := [12]) [0, 1, 2, 4, 7, 8, 9, 10] [] [] [] (by kernel_rfl) (by kernel_rfl) trivial (by kernel_rfl) ⟨?_, trivial⟩
        refine EvStep.mk none (new := fun _ => [(13, some 6, .string x2_6.2.1), (14, some 7, .bool x2_6.2.2)]) ([9, 10, 13, 14] ++ []) (by kernel_rfl) (Ev.store (kk := 0) (cs := [.int .i64 x2_6.1.f0, .int .i64 x2_6.1.f1, .int .i64 x2_6.1.f2, .slice p2_6.1 x2_6.1.f3.length p2_6.2, .bool x2_6.1.f4]) (0, 0) [p2_11, 0] (by kernel_rfl)) (fun _ => by kernel_rfl) (fun _ => ?_)
        refine D.fin (fr' := [(0, .pointer (some ⟨g0_, 0, none⟩)), (5, .pointer (some ⟨p2_11, 0, none⟩)), (6, .string x2_6.2.1), (7, .bool x2_6.2.2)]) [9, 10, 13, 14] [] [] [] [0, 5, 6, 7] (by kernel_rfl) (by kernel_rfl) trivial (by kernel_rfl) ?_
        exact J.conv2 [0, 5, 6, 7] [0, 1, 2] [0, 1, 2] [0, 1, 2, 3, 4] (by kernel_rfl) (by kernel_rfl) (by kernel_rfl) (by kernel_rfl) (by decide) (hk_ (p2_6, p2_11))
  · refine J.condF (x := .tmp 19) (t := x0_5.f1) (by kernel_rfl) (by kernel_rfl) hc1 ?_
    refine J.skip (by kernel_rfl) ?_
    refine J.seq (by kernel_rfl) ?_
    obtain ⟨x6_6, hx6_6, H⟩ := bindE H
    refine J.cutAt (γ := Hd × Nat) (fun q_ => [(0, .pointer (some ⟨g0_, 0, none⟩)), (8, .pointer (some ⟨q_.2, 0, none⟩)), (9, .string x6_6.2.1), (10, .bool x6_6.2.2)]) (fun q_ => St X w (keys [⟨g0_, [.int .i64 a0.f0.f0, .int .i64 a0.f0.f1, .int .i64 a0.f0.f2, .slice h0.1 a0.f0.f3.length h0.2, .bool a0.f0.f4, .int .i64 a0.f1.f0, .int .i64 a0.f1.f1, .int .i64 a0.f1.f2, .slice h1.1 a0.f1.f3.length h1.2, .bool a0.f1.f4, .slice h2.1 a0.f2.length h2.2, .slice h3.1 a0.f3.length h3.2, .slice h4.1 a0.f4.length h4.2, .slice h5.1 a0.f5.length h5.2, .slice h6.1 a0.f6.length h6.2], t0_⟩] [mkRow kd78 78 (.slice h2.1 a0.f2.length h2.2) a0.f2, mkRow Kd.string 9 (.slice h3.1 a0.f3.length h3.2) a0.f3, mkRow Kd.string 9 (.slice h4.1 a0.f4.length h4.2) a0.f4, mkRow Kd.string 9 (.slice h5.1 a0.f5.length h5.2) a0.f5, mkRow Kd.string 9 (.slice h6.1 a0.f6.length h6.2) a0.f6]) [⟨q_.2, [.int .i64 x6_6.1.f0, .int .i64 x6_6.1.f1, .int .i64 x6_6.1.f2, .slice q_.1.1 x6_6.1.f3.length q_.1.2, .bool x6_6.1.f4], 24⟩, ⟨p0_7, [.int .i64 x0_5.f0.f0, .int .i64 x0_5.f0.f1, .string x0_5.f0.f2, .bool x0_5.f1], 78⟩, ⟨g0_, [.int .i64 a0.f0.f0, .int .i64 a0.f0.f1, .int .i64 a0.f0.f2, .slice h0.1 a0.f0.f3.length h0.2, .bool a0.f0.f4, .int .i64 a0.f1.f0, .int .i64 a0.f1.f1, .int .i64 a0.f1.f2, .slice h1.1 a0.f1.f3.length h1.2, .bool a0.f1.f4, .slice h2.1 a0.f2.length h2.2, .slice h3.1 a0.f3.length h3.2, .slice h4.1 a0.f4.length h4.2, .slice h5.1 a0.f5.length h5.2, .slice h6.1 a0.f6.length h6.2], t0_⟩] [mkRow kd78 78 (.slice h2.1 a0.f2.length h2.2) a0.f2, mkRow Kd.string 9 (.slice h3.1 a0.f3.length h3.2) a0.f3, mkRow Kd.string 9 (.slice h4.1 a0.f4.length h4.2) a0.f4, mkRow Kd.string 9 (.slice h5.1 a0.f5.length h5.2) a0.f5, mkRow Kd.string 9 (.slice h6.1 a0.f6.length h6.2) a0.f6] [] [Rd kd71 q_.1.1 q_.1.2 x6_6.1.f3, Rd kd71 h0.1 h0.2 a0.f0.f3, Rd kd71 h1.1 h1.2 a0.f1.f3]) (fun q_ => ?_) (fun hk_ => ?_)
    · obtain ⟨p6_6, p6_11⟩ := q_
      refine J.seq (by kernel_rfl) ?_
      refine J.region (by kernel_rfl) ?_
      refine O.pure 5 [(0, 0), (2, 5)] [0, 9, 10] [p6_11, 0, g0_, 5] (fr' := [(0, .pointer (some ⟨g0_, 0, none⟩)), (9, .string x6_6.2.1), (10, .bool x6_6.2.2)]) (bx' := [⟨p6_11, [.int .i64 x6_6.1.f0, .int .i64 x6_6.1.f1, .int .i64 x6_6.1.f2, .slice p6_6.1 x6_6.1.f3.length p6_6.2, .bool x6_6.1.f4], 24⟩, ⟨p0_7, [.int .i64 x0_5.f0.f0, .int .i64 x0_5.f0.f1, .string x0_5.f0.f2, .bool x0_5.f1], 78⟩, ⟨g0_, [.int .i64 a0.f0.f0, .int .i64 a0.f0.f1, .int .i64 a0.f0.f2, .slice h0.1 a0.f0.f3.length h0.2, .bool a0.f0.f4, .int .i64 x6_6.1.f0, .int .i64 x6_6.1.f1, .int .i64 x6_6.1.f2, .slice p6_6.1 x6_6.1.f3.length p6_6.2, .bool x6_6.1.f4, .slice h2.1 a0.f2.length h2.2, .slice h3.1 a0.f3.length h3.2, .slice h4.1 a0.f4.length h4.2, .slice h5.1 a0.f5.length h5.2, .slice h6.1 a0.f6.length h6.2], t0_⟩]) (by kernel_rfl) ?_
      refine O.nil (by kernel_rfl) ?_
      refine J.seq (by kernel_rfl) ?_
      refine J.region (by kernel_rfl) ?_
      refine O.pure 1 [] [0, 9, 61] [] (fr' := [(0, .pointer (some ⟨g0_, 0, none⟩)), (9, .string x6_6.2.1), (61, .bool x6_6.2.2)]) (bx' := [⟨p6_11, [.int .i64 x6_6.1.f0, .int .i64 x6_6.1.f1, .int .i64 x6_6.1.f2, .slice p6_6.1 x6_6.1.f3.length p6_6.2, .bool x6_6.1.f4], 24⟩, ⟨p0_7, [.int .i64 x0_5.f0.f0, .int .i64 x0_5.f0.f1, .string x0_5.f0.f2, .bool x0_5.f1], 78⟩, ⟨g0_, [.int .i64 a0.f0.f0, .int .i64 a0.f0.f1, .int .i64 a0.f0.f2, .slice h0.1 a0.f0.f3.length h0.2, .bool a0.f0.f4, .int .i64 x6_6.1.f0, .int .i64 x6_6.1.f1, .int .i64 x6_6.1.f2, .slice p6_6.1 x6_6.1.f3.length p6_6.2, .bool x6_6.1.f4, .slice h2.1 a0.f2.length h2.2, .slice h3.1 a0.f3.length h3.2, .slice h4.1 a0.f4.length h4.2, .slice h5.1 a0.f5.length h5.2, .slice h6.1 a0.f6.length h6.2], t0_⟩]) (by kernel_rfl) ?_
      refine O.nil (by kernel_rfl) ?_
      rcases condE H with ⟨hc3, H⟩ | ⟨hc3, H⟩
      · refine J.condT (x := .tmp 61) (t := x6_6.2.2) (by kernel_rfl) (by kernel_rfl) hc3 ?_
        obtain ⟨y9_7, hy9_7, H⟩ := bindE H
        have hy9_7a := (appE hy9_7).1
        refine J.region (by kernel_rfl) ?_
        refine O.pure 6 [(2, 12)] [62, 66, 67] [g0_, 12] (fr' := [(62, .pointer (some ⟨g0_, 0, none⟩)), (66, .slice h4.1 a0.f4.length h4.2), (67, .string x6_6.2.1)]) (bx' := [⟨p6_11, [.int .i64 x6_6.1.f0, .int .i64 x6_6.1.f1, .int .i64 x6_6.1.f2, .slice p6_6.1 x6_6.1.f3.length p6_6.2, .bool x6_6.1.f4], 24⟩, ⟨p0_7, [.int .i64 x0_5.f0.f0, .int .i64 x0_5.f0.f1, .string x0_5.f0.f2, .bool x0_5.f1], 78⟩, ⟨g0_, [.int .i64 a0.f0.f0, .int .i64 a0.f0.f1, .int .i64 a0.f0.f2, .slice h0.1 a0.f0.f3.length h0.2, .bool a0.f0.f4, .int .i64 x6_6.1.f0, .int .i64 x6_6.1.f1, .int .i64 x6_6.1.f2, .slice p6_6.1 x6_6.1.f3.length p6_6.2, .bool x6_6.1.f4, .slice h2.1 a0.f2.length h2.2, .slice h3.1 a0.f3.length h3.2, .slice h4.1 a0.f4.length h4.2, .slice h5.1 a0.f5.length h5.2, .slice h6.1 a0.f6.length h6.2], t0_⟩]) (by kernel_rfl) ?_
        refine O.e (some 68) (Ev.mono (fun w hS => hS.rowsel [2, 0, 1, 3, 4] rfl (by decide)) (Ev.lit (t := 61) (len := 1) (parts := #[(0, .tmp 67)]) (ps := [(0, .string x6_6.2.1)]) (cs := [.string x6_6.2.1]) (e := 9) Kd.string ([x6_6.2.1] : List ByteArray) (by kernel_rfl) (by kernel_rfl) (by kernel_rfl) (by kernel_rfl) (by kernel_rfl) (by decide) (fun w' hφ => (Els.cons (c := [.string x6_6.2.1]) (rfl) (Els.nil _ _ _))))) (by kernel_rfl) (fun p9_6 => ?_)
        refine O.e (some 69) (Ev.appLit (x := .tmp 66) (y := .tmp 68) (t := 61) (bytes := 16) (by kernel_rfl) (by kernel_rfl) (by kernel_rfl) (by kernel_rfl) (by kernel_rfl) (by decide) hy9_7a) (by kernel_rfl) (fun p9_7 => ?_)
        refine O.pure 3 [(2, 12)] [] [g0_, 12] (fr' := []) (bx' := [⟨p6_11, [.int .i64 x6_6.1.f0, .int .i64 x6_6.1.f1, .int .i64 x6_6.1.f2, .slice p6_6.1 x6_6.1.f3.length p6_6.2, .bool x6_6.1.f4], 24⟩, ⟨p0_7, [.int .i64 x0_5.f0.f0, .int .i64 x0_5.f0.f1, .string x0_5.f0.f2, .bool x0_5.f1], 78⟩, ⟨g0_, [.int .i64 a0.f0.f0, .int .i64 a0.f0.f1, .int .i64 a0.f0.f2, .slice h0.1 a0.f0.f3.length h0.2, .bool a0.f0.f4, .int .i64 x6_6.1.f0, .int .i64 x6_6.1.f1, .int .i64 x6_6.1.f2, .slice p6_6.1 x6_6.1.f3.length p6_6.2, .bool x6_6.1.f4, .slice h2.1 a0.f2.length h2.2, .slice h3.1 a0.f3.length h3.2, .slice p9_7.1 (a0.f4 ++ ([x6_6.2.1] : List ByteArray)).length p9_7.2, .slice h5.1 a0.f5.length h5.2, .slice h6.1 a0.f6.length h6.2], t0_⟩]) (by kernel_rfl) ?_
        refine O.nil (by kernel_rfl) ?_
        obtain rfl := Option.some.inj H
        exact J.fallS [] [] [1, 0] [2] [1, 2, 0, 3, 4] (h0, p6_6, h2, h3, p9_7, h5, h6) (vs := []) (by kernel_rfl) (by kernel_rfl) (by kernel_rfl) (by kernel_rfl) (by decide)
      · refine J.condF (x := .tmp 61) (t := x6_6.2.2) (by kernel_rfl) (by kernel_rfl) hc3 ?_
        refine J.skip (by kernel_rfl) ?_
        obtain rfl := Option.some.inj H
        exact J.fallS [] [] [1, 0] [2] [0, 1, 2, 3, 4] (h0, p6_6, h2, h3, h4, h5, h6) (vs := []) (by kernel_rfl) (by kernel_rfl) (by kernel_rfl) (by kernel_rfl) (by decide)
    · refine J.drawS (by kernel_rfl) [(0, some 47, .pointer (some ⟨g0_, 0, none⟩)), (1, some 48, .pointer (some ⟨g0_, 0, none⟩)), (2, some 49, .pointer (some ⟨g0_, 5, none⟩)), (3, some 50, .agg #[.int .i64 a0.f1.f0, .int .i64 a0.f1.f1, .int .i64 a0.f1.f2, .slice h1.1 a0.f1.f3.length h1.2, .bool a0.f1.f4]), (4, some 51, .pointer (some ⟨p0_7, 0, none⟩)), (5, some 52, .agg #[.int .i64 x0_5.f0.f0, .int .i64 x0_5.f0.f1, .string x0_5.f0.f2])] ([0, 1, 2, 3, 4, 5] ++ []) (by kernel_rfl) ?_
      refine D.mid (cs := [6, 11]) [0, 1, 2, 3, 4, 5] [] [(1, 5), (0, 0)] [g0_, 5, p0_7, 0] (by kernel_rfl) (by kernel_rfl) trivial (by kernel_rfl) ⟨?_, ?_, trivial⟩
      · refine EvStep.mk (some 53) (new := fun p6_6 => [(7, some 46, .tuple #[.agg #[.int .i64 x6_6.1.f0, .int .i64 x6_6.1.f1, .int .i64 x6_6.1.f2, .slice p6_6.1 x6_6.1.f3.length p6_6.2, .bool x6_6.1.f4], .string x6_6.2.1, .bool x6_6.2.2]), (8, some 54, .agg #[.int .i64 x6_6.1.f0, .int .i64 x6_6.1.f1, .int .i64 x6_6.1.f2, .slice p6_6.1 x6_6.1.f3.length p6_6.2, .bool x6_6.1.f4]), (9, some 55, .string x6_6.2.1), (10, some 56, .bool x6_6.2.2)]) ([0, 1, 2, 4, 7, 8, 9, 10] ++ []) (by kernel_rfl) (Ev.call0 (xs := [.tmp 50, .tmp 52]) [1] (by kernel_rfl) (by kernel_rfl) (fun w hS => link_Take.con K a0.f1 x0_5.f0 h1  _ _ w hS hx6_6)) (fun p6_6 => by kernel_rfl) (fun p6_6 => ?_)
        refine D.mid (cs := [11]) [0, 1, 2, 4, 7, 8, 9, 10] [] [] [] (by kernel_rfl) (by kernel_rfl) trivial (by kernel_rfl) ⟨?_, trivial⟩
        refine EvStep.mk (some 8) (new := fun p6_11 => []) ([0, 1, 2, 4, 7, 8, 9, 10] ++ []) (by kernel_rfl) (Ev.alloc (t := 24) (z := .agg #[.int .i64 0, .int .i64 0, .int .i64 0, .slice none 0 0, .bool false]) (by kernel_rfl) (by kernel_rfl)) (fun p6_11 => by kernel_rfl) (fun p6_11 => ?_)
        refine D.mid (cs := [12]) [0, 1, 2, 4, 7, 8, 9, 10] [] [] [] (by kernel_rfl) (by kernel_rfl) trivial (by kernel_rfl) ⟨?_, trivial⟩
        refine EvStep.mk none (new := fun _ => [(13, some 9, .string x6_6.2.1), (14, some 10, .bool x6_6.2.2)]) ([9, 10, 13, 14] ++ []) (by kernel_rfl) (Ev.store (kk := 0) (cs := [.int .i64 x6_6.1.f0, .int .i64 x6_6.1.f1, .int .i64 x6_6.1.f2, .slice p6_6.1 x6_6.1.f3.length p6_6.2, .bool x6_6.1.f4]) (0, 0) [p6_11, 0] (by kernel_rfl)) (fun _ => by kernel_rfl) (fun _ => ?_)
        refine D.fin (fr' := [(0, .pointer (some ⟨g0_, 0, none⟩)), (8, .pointer (some ⟨p6_11, 0, none⟩)), (9, .string x6_6.2.1), (10, .bool x6_6.2.2)]) [9, 10, 13, 14] [] [] [] [0, 8, 9, 10] (by kernel_rfl) (by kernel_rfl) trivial (by kernel_rfl) ?_
        exact J.conv2 [0, 8, 9, 10] [0, 1, 2] [0, 1, 2] [0, 1, 2, 3, 4] (by kernel_rfl) (by kernel_rfl) (by kernel_rfl) (by kernel_rfl) (by decide) (hk_ (p6_6, p6_11))
      · refine EvStep.mk (some 8) (new := fun p6_11 => []) ([0, 1, 2, 3, 4, 5] ++ []) (by kernel_rfl) (Ev.alloc (t := 24) (z := .agg #[.int .i64 0, .int .i64 0, .int .i64 0, .slice none 0 0, .bool false]) (by kernel_rfl) (by kernel_rfl)) (fun p6_11 => by kernel_rfl) (fun p6_11 => ?_)
        refine D.mid (cs := [6]) [0, 1, 2, 3, 4, 5] [] [(2, 5), (1, 0)] [g0_, 5, p0_7, 0] (by kernel_rfl) (by kernel_rfl) trivial (by kernel_rfl) ⟨?_, trivial⟩
        refine EvStep.mk (some 53) (new := fun p6_6 => [(7, some 46, .tuple #[.agg #[.int .i64 x6_6.1.f0, .int .i64 x6_6.1.f1, .int .i64 x6_6.1.f2, .slice p6_6.1 x6_6.1.f3.length p6_6.2, .bool x6_6.1.f4], .string x6_6.2.1, .bool x6_6.2.2]), (8, some 54, .agg #[.int .i64 x6_6.1.f0, .int .i64 x6_6.1.f1, .int .i64 x6_6.1.f2, .slice p6_6.1 x6_6.1.f3.length p6_6.2, .bool x6_6.1.f4]), (9, some 55, .string x6_6.2.1), (10, some 56, .bool x6_6.2.2)]) ([0, 1, 2, 4, 7, 8, 9, 10] ++ []) (by kernel_rfl) (Ev.call0 (xs := [.tmp 50, .tmp 52]) [1] (by kernel_rfl) (by kernel_rfl) (fun w hS => link_Take.con K a0.f1 x0_5.f0 h1  _ _ w hS hx6_6)) (fun p6_6 => by kernel_rfl) (fun p6_6 => ?_)
        refine D.mid (cs := [12]) [0, 1, 2, 4, 7, 8, 9, 10] [] [] [] (by kernel_rfl) (by kernel_rfl) trivial (by kernel_rfl) ⟨?_, trivial⟩
        refine EvStep.mk none (new := fun _ => [(13, some 9, .string x6_6.2.1), (14, some 10, .bool x6_6.2.2)]) ([9, 10, 13, 14] ++ []) (by kernel_rfl) (Ev.store (kk := 0) (cs := [.int .i64 x6_6.1.f0, .int .i64 x6_6.1.f1, .int .i64 x6_6.1.f2, .slice p6_6.1 x6_6.1.f3.length p6_6.2, .bool x6_6.1.f4]) (0, 0) [p6_11, 0] (by kernel_rfl)) (fun _ => by kernel_rfl) (fun _ => ?_)
        refine D.fin (fr' := [(0, .pointer (some ⟨g0_, 0, none⟩)), (8, .pointer (some ⟨p6_11, 0, none⟩)), (9, .string x6_6.2.1), (10, .bool x6_6.2.2)]) [9, 10, 13, 14] [] [] [] [0, 8, 9, 10] (by kernel_rfl) (by kernel_rfl) trivial (by kernel_rfl) ?_
        exact J.conv2 [0, 8, 9, 10] [0, 1, 2] [0, 1, 2] [0, 1, 2, 3, 4] (by kernel_rfl) (by kernel_rfl) (by kernel_rfl) (by kernel_rfl) (by decide) (hk_ (p6_6, p6_11))
end Go.Proofs.Ytndccmilcffedaa.G
