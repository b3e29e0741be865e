/- Functions of the program as plain Lean, with their contracts (part 1); printed by a program of this session. -/
import Derived.Test.YtfgdceeceehmpaaG0
set_option linter.unusedVariables false
set_option linter.unusedSimpArgs false
namespace Go.Proofs.Ytfgdceeceehmpaa.G
open Go Go.RowKit Go.Hw
/-! ### haywain/haywainref13.Right: function 21 -/
def haywainref13_Right.l1 (K : Nat) (a0 : List S39) : Nat → (Bool × Int) → Option Bool
  | 0, _ => none
  | k + 1, s1 => cond (decide (s1.2 < (a0.length : Int))) ((idxO a0 s1.2).bind fun x5_2 => cond s1.1 (cond (decide ((x5_2.f0.size : Int) > 0)) (cond (decide ((x5_2.f0.size : Int) ≤ 16)) (cond (decide ((x5_2.f1.length : Int) ≤ 20000)) (cond (decide (x5_2.f2 ≥ 0)) (cond (decide (x5_2.f2 ≤ (x5_2.f1.length : Int))) (cond (s1.2 == 0) (haywainref13_Right.l1 K a0 k (true, (IntKind.wrap .i64 (s1.2 + 1)))) ((idxO a0 (IntKind.wrap .i64 (s1.2 - 1))).bind fun x6_39 => haywainref13_Right.l1 K a0 k ((Op.bytesLess x6_39.f0.toList x5_2.f0.toList), (IntKind.wrap .i64 (s1.2 + 1))))) (haywainref13_Right.l1 K a0 k (false, (IntKind.wrap .i64 (s1.2 + 1))))) (haywainref13_Right.l1 K a0 k (false, (IntKind.wrap .i64 (s1.2 + 1))))) (haywainref13_Right.l1 K a0 k (false, (IntKind.wrap .i64 (s1.2 + 1))))) (haywainref13_Right.l1 K a0 k (false, (IntKind.wrap .i64 (s1.2 + 1))))) (haywainref13_Right.l1 K a0 k (false, (IntKind.wrap .i64 (s1.2 + 1))))) (haywainref13_Right.l1 K a0 k (false, (IntKind.wrap .i64 (s1.2 + 1))))) (some (s1.1))
def haywainref13_Right.f (K : Nat) (a0 : List S39) : Option Bool := haywainref13_Right.l1 K a0 K ((decide ((a0.length : Int) ≤ 40)), 0)
set_option maxRecDepth 100000 in
set_option maxHeartbeats 1000000 in
theorem haywainref13_Right.con (K : Nat) (a0 : List S39) (h0 : Hd) (r : Bool) (X : Nat → Nat → Prop) (w : World) (hS : St X w [] [] [] [] [Rd kd39 h0.1 h0.2 a0] w) (H : haywainref13_Right.f K a0 = some r) :
    Cn Try.prog 21 [.slice h0.1 a0.length h0.2] X w [] (fun i : Unit => .bool r) (fun i => []) (fun i => []) (fun i => []) := by
  refine Cn.of Try.func21 (by kernel_rfl) hS ?_
  unfold haywainref13_Right.f at H
  refine J.seq (by kernel_rfl) ?_
  refine J.region (by kernel_rfl) ?_
  refine O.pure 1 [] [0] [] (fr' := [(0, .slice h0.1 a0.length h0.2)]) (bx' := []) (by kernel_rfl) ?_
  refine O.nil (by kernel_rfl) ?_
  refine J.seq (by kernel_rfl) ?_
  refine J.region (by kernel_rfl) ?_
  refine O.pure 4 [] [0, 3] [] (fr' := [(0, .slice h0.1 a0.length h0.2), (3, .bool (decide ((a0.length : Int) ≤ 40)))]) (bx' := []) (by kernel_rfl) ?_
  refine O.nil (by kernel_rfl) ?_
  refine J.seq (by kernel_rfl) ?_
  refine J.seq (by kernel_rfl) ?_
  refine J.region (by kernel_rfl) ?_
  refine O.pure 1 [] [0, 3, 4] [] (fr' := [(0, .slice h0.1 a0.length h0.2), (3, .bool (decide ((a0.length : Int) ≤ 40))), (4, .int .i64 0)]) (bx' := []) (by kernel_rfl) ?_
  refine O.nil (by kernel_rfl) ?_
  refine J.block (id := 0) (by kernel_rfl) ?_
  refine J.loopI (σ := Bool × Int) (γ := Unit) (f := fun m_ s_ => haywainref13_Right.l1 K a0 m_ s_) (fun s1 g1 => [(0, .slice h0.1 a0.length h0.2), (3, .bool s1.1), (4, .int .i64 s1.2)]) (fun s1 g1 => St X w [] [] [] [] [Rd kd39 h0.1 h0.2 a0]) K ((decide ((a0.length : Int) ≤ 40)), 0) () (by kernel_rfl) H (fun _ => rfl) (fun m_ s1 H ih1 g1 => ?_) (fun h_ => ?_)
  · unfold haywainref13_Right.l1 at H
    refine J.seq (by kernel_rfl) ?_
    refine J.seq (by kernel_rfl) ?_
    refine J.region (by kernel_rfl) ?_
    refine O.pure 4 [] [0, 3, 4, 12] [] (fr' := [(0, .slice h0.1 a0.length h0.2), (3, .bool s1.1), (4, .int .i64 s1.2), (12, .bool (decide (s1.2 < (a0.length : Int))))]) (bx' := []) (by kernel_rfl) ?_
    refine O.nil (by kernel_rfl) ?_
    rcases condE H with ⟨hc17, H⟩ | ⟨hc17, H⟩
    · refine J.condT (x := .tmp 12) (t := (decide (s1.2 < (a0.length : Int)))) (by kernel_rfl) (by kernel_rfl) hc17 ?_
      refine J.skip (by kernel_rfl) ?_
      refine J.seq (by kernel_rfl) ?_
      refine J.block (id := 1) (by kernel_rfl) ?_
      refine J.seq (by kernel_rfl) ?_
      obtain ⟨x5_2, hx5_2, H⟩ := bindE H
      obtain ⟨hx5_2a, hx5_2⟩ := idxE hx5_2
      refine J.region (by kernel_rfl) ?_
      refine O.pure 2 [] [0, 3, 4, 15, 16] [] (fr' := [(0, .slice h0.1 a0.length h0.2), (3, .bool s1.1), (4, .int .i64 s1.2), (15, .slice h0.1 a0.length h0.2), (16, .int .i64 s1.2)]) (bx' := []) (by kernel_rfl) ?_
      refine O.open (d := kd39) (h := h0) (i := s1.2) 0 rfl hx5_2 (op39 _) (fun p5_2 hp5_2A => ?_)
      refine O.q (v := .pointer (some ⟨p5_2.1, p5_2.2.1 + s1.2.toNat * 3, none⟩)) (some 17) (Qu.idx (t := 27) (x := .tmp 15) (y := .tmp 16) (c := h0.2) (kk := .i64) (sz := 3) (by kernel_rfl) (by kernel_rfl) (by kernel_rfl) (by kernel_rfl) hx5_2a (idx_lt hx5_2) hp5_2A) (by kernel_rfl) ?_
      refine O.pure 1 [(0, 0)] [0, 3, 4, 18] [p5_2.1, p5_2.2.1 + s1.2.toNat * 3] (fr' := [(0, .slice h0.1 a0.length h0.2), (3, .bool s1.1), (4, .int .i64 s1.2), (18, .agg #[.string x5_2.f0, .slice p5_2.2.2.1 x5_2.f1.length p5_2.2.2.2, .int .i64 x5_2.f2])]) (bx' := []) (by kernel_rfl) ?_
      refine O.e (some 5) (Ev.alloc (t := 39) (z := .agg #[.string (⟨#[]⟩ : ByteArray), .slice none 0 0, .int .i64 0]) (by kernel_rfl) (by kernel_rfl)) (by kernel_rfl) (fun p5_4 => ?_)
      refine O.pure 1 [(0, 0)] [0, 3, 4, 5] [p5_4, 0] (fr' := [(0, .slice h0.1 a0.length h0.2), (3, .bool s1.1), (4, .int .i64 s1.2), (5, .pointer (some ⟨p5_4, 0, none⟩))]) (bx' := [⟨p5_4, [.string x5_2.f0, .slice p5_2.2.2.1 x5_2.f1.length p5_2.2.2.2, .int .i64 x5_2.f2], 39⟩]) (by kernel_rfl) ?_
      refine O.nil (by kernel_rfl) ?_
      rcases condE H with ⟨hc18, H⟩ | ⟨hc18, H⟩
      · rcases condE H with ⟨hc19, H⟩ | ⟨hc19, H⟩
        · rcases condE H with ⟨hc20, H⟩ | ⟨hc20, H⟩
          · rcases condE H with ⟨hc21, H⟩ | ⟨hc21, H⟩
            · rcases condE H with ⟨hc22, H⟩ | ⟨hc22, H⟩
              · rcases condE H with ⟨hc23, H⟩ | ⟨hc23, H⟩
                · rcases condE H with ⟨hc24, H⟩ | ⟨hc24, H⟩
                  · refine J.drawS (by kernel_rfl) [(1, some 20, .bool true), (2, some 21, .pointer (some ⟨p5_4, 0, none⟩)), (3, some 22, .string x5_2.f0), (4, some 23, .int .i64 (x5_2.f0.size : Int)), (6, some 25, .bool true), (7, some 26, .bool true), (8, some 27, .pointer (some ⟨p5_4, 0, none⟩)), (9, some 28, .string x5_2.f0), (10, some 29, .int .i64 (x5_2.f0.size : Int)), (12, some 31, .bool true), (13, some 32, .bool true), (14, some 33, .pointer (some ⟨p5_4, 1, none⟩)), (15, some 34, .slice p5_2.2.2.1 x5_2.f1.length p5_2.2.2.2), (16, some 35, .int .i64 (x5_2.f1.length : Int)), (18, some 37, .bool true), (19, some 38, .bool true), (20, some 39, .pointer (some ⟨p5_4, 2, none⟩)), (21, some 40, .int .i64 x5_2.f2), (23, some 42, .bool true), (24, some 43, .bool true), (25, some 44, .pointer (some ⟨p5_4, 2, none⟩)), (26, some 45, .int .i64 x5_2.f2), (27, some 46, .pointer (some ⟨p5_4, 1, none⟩)), (28, some 47, .slice p5_2.2.2.1 x5_2.f1.length p5_2.2.2.2), (29, some 48, .int .i64 (x5_2.f1.length : Int)), (31, some 50, .bool true), (32, some 51, .bool true), (33, some 52, .int .i64 s1.2), (35, some 54, .bool true), (36, some 55, undef), (37, some 56, undef), (38, some 57, undef), (39, some 58, undef), (40, some 59, undef), (41, some 60, undef), (42, some 61, undef), (43, some 62, undef), (44, some 63, undef), (45, some 64, .bool true), (46, some 65, .bool true), (47, some 3, .bool true), (0, some 19, .bool true), (5, some 24, .bool true), (11, some 30, .bool true), (17, some 36, .bool true), (22, some 41, .bool true), (30, some 49, .bool true), (34, some 53, .bool true)] ([1, 2, 3, 4, 6, 7, 8, 9, 10, 12, 13, 14, 15, 16, 18, 19, 20, 21, 23, 24, 25, 26, 27, 28, 29, 31, 32, 33, 35, 36, 37, 38, 39, 40, 41, 42, 43, 44, 45, 46, 47] ++ [0, 5, 11, 17, 22, 30, 34]) (by kernel_rfl) ?_
                    refine D.fin (fr' := [(0, .slice h0.1 a0.length h0.2), (3, .bool true), (4, .int .i64 s1.2), (21, .pointer (some ⟨p5_4, 0, none⟩)), (22, .string x5_2.f0), (23, .int .i64 (x5_2.f0.size : Int)), (24, .bool true), (27, .pointer (some ⟨p5_4, 0, none⟩)), (28, .string x5_2.f0), (29, .int .i64 (x5_2.f0.size : Int)), (30, .bool true), (33, .pointer (some ⟨p5_4, 1, none⟩)), (34, .slice p5_2.2.2.1 x5_2.f1.length p5_2.2.2.2), (35, .int .i64 (x5_2.f1.length : Int)), (36, .bool true), (39, .pointer (some ⟨p5_4, 2, none⟩)), (40, .int .i64 x5_2.f2), (41, .bool true), (44, .pointer (some ⟨p5_4, 2, none⟩)), (45, .int .i64 x5_2.f2), (46, .pointer (some ⟨p5_4, 1, none⟩)), (47, .slice p5_2.2.2.1 x5_2.f1.length p5_2.2.2.2), (48, .int .i64 (x5_2.f1.length : Int)), (49, .bool true), (52, .int .i64 s1.2), (53, .bool true), (54, .bool true), (55, undef), (56, undef), (57, undef), (58, undef), (59, undef), (60, undef), (61, undef), (62, undef), (63, undef), (64, .bool true)]) [1, 2, 3, 4, 6, 7, 8, 9, 10, 12, 13, 14, 15, 16, 18, 19, 20, 21, 23, 24, 25, 26, 27, 28, 29, 31, 32, 33, 35, 36, 37, 38, 39, 40, 41, 42, 43, 44, 45, 46, 47] [0, 5, 11, 17, 22, 30, 34] [(0, 0), (0, 0), (0, 1), (0, 2), (0, 2), (0, 1)] [p5_4, 0, p5_4, 0, p5_4, 1, p5_4, 2, p5_4, 2, p5_4, 1] [0, 3, 4, 21, 22, 23, 24, 27, 28, 29, 30, 33, 34, 35, 36, 39, 40, 41, 44, 45, 46, 47, 48, 49, 52, 53, 54, 55, 56, 57, 58, 59, 60, 61, 62, 63, 64] (by kernel_rfl) (by kernel_rfl) (⟨QuAt.mk (v := .bool true) (some 19) (by kernel_rfl) (by kernel_rfl) (Qu.eqv (u := .bool s1.1) (v := .bool true) (0, 0) [] (by kernel_rfl) (congrArg Value.bool hc18)), QuAt.mk (v := .bool true) (some 24) (by kernel_rfl) (by kernel_rfl) (Qu.eqv (u := .bool (decide ((x5_2.f0.size : Int) > 0))) (v := .bool true) (0, 0) [] (by kernel_rfl) (congrArg Value.bool hc19)), QuAt.mk (v := .bool true) (some 30) (by kernel_rfl) (by kernel_rfl) (Qu.eqv (u := .bool (decide ((x5_2.f0.size : Int) ≤ 16))) (v := .bool true) (0, 0) [] (by kernel_rfl) (congrArg Value.bool hc20)), QuAt.mk (v := .bool true) (some 36) (by kernel_rfl) (by kernel_rfl) (Qu.eqv (u := .bool (decide ((x5_2.f1.length : Int) ≤ 20000))) (v := .bool true) (0, 0) [] (by kernel_rfl) (congrArg Value.bool hc21)), QuAt.mk (v := .bool true) (some 41) (by kernel_rfl) (by kernel_rfl) (Qu.eqv (u := .bool (decide (x5_2.f2 ≥ 0))) (v := .bool true) (0, 0) [] (by kernel_rfl) (congrArg Value.bool hc22)), QuAt.mk (v := .bool true) (some 49) (by kernel_rfl) (by kernel_rfl) (Qu.eqv (u := .bool (decide (x5_2.f2 ≤ (x5_2.f1.length : Int)))) (v := .bool true) (0, 0) [] (by kernel_rfl) (congrArg Value.bool hc23)), QuAt.mk (v := .bool true) (some 53) (by kernel_rfl) (by kernel_rfl) (Qu.eqv (u := .bool (s1.2 == 0)) (v := .bool true) (0, 0) [] (by kernel_rfl) (congrArg Value.bool hc24)), trivial⟩) (by kernel_rfl) ?_
                    refine J.out ?_
                    refine J.region (by kernel_rfl) ?_
                    refine O.pure 3 [] [0, 3, 4, 21, 22, 23, 24, 27, 28, 29, 30, 33, 34, 35, 36, 39, 40, 41, 44, 45, 46, 47, 48, 49, 52, 53, 54, 55, 56, 57, 58, 59, 60, 61, 62, 63, 64] [] (fr' := [(0, .slice h0.1 a0.length h0.2), (3, .bool true), (4, .int .i64 (IntKind.wrap .i64 (s1.2 + 1))), (21, .pointer (some ⟨p5_4, 0, none⟩)), (22, .string x5_2.f0), (23, .int .i64 (x5_2.f0.size : Int)), (24, .bool true), (27, .pointer (some ⟨p5_4, 0, none⟩)), (28, .string x5_2.f0), (29, .int .i64 (x5_2.f0.size : Int)), (30, .bool true), (33, .pointer (some ⟨p5_4, 1, none⟩)), (34, .slice p5_2.2.2.1 x5_2.f1.length p5_2.2.2.2), (35, .int .i64 (x5_2.f1.length : Int)), (36, .bool true), (39, .pointer (some ⟨p5_4, 2, none⟩)), (40, .int .i64 x5_2.f2), (41, .bool true), (44, .pointer (some ⟨p5_4, 2, none⟩)), (45, .int .i64 x5_2.f2), (46, .pointer (some ⟨p5_4, 1, none⟩)), (47, .slice p5_2.2.2.1 x5_2.f1.length p5_2.2.2.2), (48, .int .i64 (x5_2.f1.length : Int)), (49, .bool true), (52, .int .i64 s1.2), (53, .bool true), (54, .bool true), (55, undef), (56, undef), (57, undef), (58, undef), (59, undef), (60, undef), (61, undef), (62, undef), (63, undef), (64, .bool true)]) (bx' := [⟨p5_4, [.string x5_2.f0, .slice p5_2.2.2.1 x5_2.f1.length p5_2.2.2.2, .int .i64 x5_2.f2], 39⟩]) (by kernel_rfl) ?_
                    refine O.nil (by kernel_rfl) ?_
                    exact J.conv2 [0, 3, 4] [1] [] [] (by kernel_rfl) (by kernel_rfl) (by kernel_rfl) (by kernel_rfl) (by decide) (ih1 (true, (IntKind.wrap .i64 (s1.2 + 1))) () H)
                  · obtain ⟨x6_39, hx6_39, H⟩ := bindE H
                    obtain ⟨hx6_39a, hx6_39⟩ := idxE hx6_39
                    refine J.open (d := kd39) (h := h0) (i := (IntKind.wrap .i64 (s1.2 - 1))) 1 rfl hx6_39 (op39 _) (fun p6_39 hp6_39A => ?_)
                    refine J.drawS (by kernel_rfl) [(1, some 20, .bool true), (2, some 21, .pointer (some ⟨p5_4, 0, none⟩)), (3, some 22, .string x5_2.f0), (4, some 23, .int .i64 (x5_2.f0.size : Int)), (6, some 25, .bool true), (7, some 26, .bool true), (8, some 27, .pointer (some ⟨p5_4, 0, none⟩)), (9, some 28, .string x5_2.f0), (10, some 29, .int .i64 (x5_2.f0.size : Int)), (12, some 31, .bool true), (13, some 32, .bool true), (14, some 33, .pointer (some ⟨p5_4, 1, none⟩)), (15, some 34, .slice p5_2.2.2.1 x5_2.f1.length p5_2.2.2.2), (16, some 35, .int .i64 (x5_2.f1.length : Int)), (18, some 37, .bool true), (19, some 38, .bool true), (20, some 39, .pointer (some ⟨p5_4, 2, none⟩)), (21, some 40, .int .i64 x5_2.f2), (23, some 42, .bool true), (24, some 43, .bool true), (25, some 44, .pointer (some ⟨p5_4, 2, none⟩)), (26, some 45, .int .i64 x5_2.f2), (27, some 46, .pointer (some ⟨p5_4, 1, none⟩)), (28, some 47, .slice p5_2.2.2.1 x5_2.f1.length p5_2.2.2.2), (29, some 48, .int .i64 (x5_2.f1.length : Int)), (31, some 50, .bool true), (32, some 51, .bool true), (33, some 52, .int .i64 s1.2), (35, some 54, .bool false), (36, some 55, .slice h0.1 a0.length h0.2), (37, some 56, .int .i64 s1.2), (38, some 57, .int .i64 (IntKind.wrap .i64 (s1.2 - 1))), (40, some 59, .pointer (some ⟨p6_39.1, p6_39.2.1 + (IntKind.wrap .i64 (s1.2 - 1)).toNat * 3, none⟩)), (41, some 60, .string x6_39.f0), (42, some 61, .pointer (some ⟨p5_4, 0, none⟩)), (43, some 62, .string x5_2.f0), (44, some 63, .bool (Op.bytesLess x6_39.f0.toList x5_2.f0.toList)), (45, some 64, .bool (Op.bytesLess x6_39.f0.toList x5_2.f0.toList)), (46, some 65, .bool (Op.bytesLess x6_39.f0.toList x5_2.f0.toList)), (47, some 3, .bool (Op.bytesLess x6_39.f0.toList x5_2.f0.toList)), (0, some 19, .bool true), (5, some 24, .bool true), (11, some 30, .bool true), (17, some 36, .bool true), (22, some 41, .bool true), (30, some 49, .bool true), (34, some 53, .bool false), (39, some 58, .pointer (some ⟨p6_39.1, p6_39.2.1 + (IntKind.wrap .i64 (s1.2 - 1)).toNat * 3, none⟩))] ([1, 2, 3, 4, 6, 7, 8, 9, 10, 12, 13, 14, 15, 16, 18, 19, 20, 21, 23, 24, 25, 26, 27, 28, 29, 31, 32, 33, 35, 36, 37, 38, 40, 41, 42, 43, 44, 45, 46, 47] ++ [0, 5, 11, 17, 22, 30, 34, 39]) (by kernel_rfl) ?_
                    refine D.fin (fr' := [(0, .slice h0.1 a0.length h0.2), (3, .bool (Op.bytesLess x6_39.f0.toList x5_2.f0.toList)), (4, .int .i64 s1.2), (21, .pointer (some ⟨p5_4, 0, none⟩)), (22, .string x5_2.f0), (23, .int .i64 (x5_2.f0.size : Int)), (24, .bool true), (27, .pointer (some ⟨p5_4, 0, none⟩)), (28, .string x5_2.f0), (29, .int .i64 (x5_2.f0.size : Int)), (30, .bool true), (33, .pointer (some ⟨p5_4, 1, none⟩)), (34, .slice p5_2.2.2.1 x5_2.f1.length p5_2.2.2.2), (35, .int .i64 (x5_2.f1.length : Int)), (36, .bool true), (39, .pointer (some ⟨p5_4, 2, none⟩)), (40, .int .i64 x5_2.f2), (41, .bool true), (44, .pointer (some ⟨p5_4, 2, none⟩)), (45, .int .i64 x5_2.f2), (46, .pointer (some ⟨p5_4, 1, none⟩)), (47, .slice p5_2.2.2.1 x5_2.f1.length p5_2.2.2.2), (48, .int .i64 (x5_2.f1.length : Int)), (49, .bool true), (52, .int .i64 s1.2), (53, .bool false), (54, .bool false), (55, .slice h0.1 a0.length h0.2), (56, .int .i64 s1.2), (57, .int .i64 (IntKind.wrap .i64 (s1.2 - 1))), (58, .pointer (some ⟨p6_39.1, p6_39.2.1 + (IntKind.wrap .i64 (s1.2 - 1)).toNat * 3, none⟩)), (59, .pointer (some ⟨p6_39.1, p6_39.2.1 + (IntKind.wrap .i64 (s1.2 - 1)).toNat * 3, none⟩)), (60, .string x6_39.f0), (61, .pointer (some ⟨p5_4, 0, none⟩)), (62, .string x5_2.f0), (63, .bool (Op.bytesLess x6_39.f0.toList x5_2.f0.toList)), (64, .bool (Op.bytesLess x6_39.f0.toList x5_2.f0.toList))]) [1, 2, 3, 4, 6, 7, 8, 9, 10, 12, 13, 14, 15, 16, 18, 19, 20, 21, 23, 24, 25, 26, 27, 28, 29, 31, 32, 33, 35, 36, 37, 38, 40, 41, 42, 43, 44, 45, 46, 47] [0, 5, 11, 17, 22, 30, 34, 39] [(0, 0), (0, 0), (0, 1), (0, 2), (0, 2), (0, 1), (1, 0), (0, 0)] [p5_4, 0, p5_4, 0, p5_4, 1, p5_4, 2, p5_4, 2, p5_4, 1, p6_39.1, p6_39.2.1 + (IntKind.wrap .i64 (s1.2 - 1)).toNat * 3, p5_4, 0] [0, 3, 4, 21, 22, 23, 24, 27, 28, 29, 30, 33, 34, 35, 36, 39, 40, 41, 44, 45, 46, 47, 48, 49, 52, 53, 54, 55, 56, 57, 58, 59, 60, 61, 62, 63, 64] (by kernel_rfl) (by kernel_rfl) (⟨QuAt.mk (v := .bool true) (some 19) (by kernel_rfl) (by kernel_rfl) (Qu.eqv (u := .bool s1.1) (v := .bool true) (0, 0) [] (by kernel_rfl) (congrArg Value.bool hc18)), QuAt.mk (v := .bool true) (some 24) (by kernel_rfl) (by kernel_rfl) (Qu.eqv (u := .bool (decide ((x5_2.f0.size : Int) > 0))) (v := .bool true) (0, 0) [] (by kernel_rfl) (congrArg Value.bool hc19)), QuAt.mk (v := .bool true) (some 30) (by kernel_rfl) (by kernel_rfl) (Qu.eqv (u := .bool (decide ((x5_2.f0.size : Int) ≤ 16))) (v := .bool true) (0, 0) [] (by kernel_rfl) (congrArg Value.bool hc20)), QuAt.mk (v := .bool true) (some 36) (by kernel_rfl) (by kernel_rfl) (Qu.eqv (u := .bool (decide ((x5_2.f1.length : Int) ≤ 20000))) (v := .bool true) (0, 0) [] (by kernel_rfl) (congrArg Value.bool hc21)), QuAt.mk (v := .bool true) (some 41) (by kernel_rfl) (by kernel_rfl) (Qu.eqv (u := .bool (decide (x5_2.f2 ≥ 0))) (v := .bool true) (0, 0) [] (by kernel_rfl) (congrArg Value.bool hc22)), QuAt.mk (v := .bool true) (some 49) (by kernel_rfl) (by kernel_rfl) (Qu.eqv (u := .bool (decide (x5_2.f2 ≤ (x5_2.f1.length : Int)))) (v := .bool true) (0, 0) [] (by kernel_rfl) (congrArg Value.bool hc23)), QuAt.mk (v := .bool false) (some 53) (by kernel_rfl) (by kernel_rfl) (Qu.eqv (u := .bool (s1.2 == 0)) (v := .bool false) (0, 0) [] (by kernel_rfl) (congrArg Value.bool hc24)), QuAt.mk (v := .pointer (some ⟨p6_39.1, p6_39.2.1 + (IntKind.wrap .i64 (s1.2 - 1)).toNat * 3, none⟩)) (some 58) (by kernel_rfl) (by kernel_rfl) (Qu.idx (t := 27) (x := .tmp 55) (y := .tmp 57) (c := h0.2) (kk := .i64) (sz := 3) (by kernel_rfl) (by kernel_rfl) (by kernel_rfl) (by kernel_rfl) hx6_39a (idx_lt hx6_39) hp6_39A), trivial⟩) (by kernel_rfl) ?_
                    refine J.out ?_
                    refine J.region (by kernel_rfl) ?_
                    refine O.pure 3 [] [0, 3, 4, 21, 22, 23, 24, 27, 28, 29, 30, 33, 34, 35, 36, 39, 40, 41, 44, 45, 46, 47, 48, 49, 52, 53, 54, 55, 56, 57, 58, 59, 60, 61, 62, 63, 64] [] (fr' := [(0, .slice h0.1 a0.length h0.2), (3, .bool (Op.bytesLess x6_39.f0.toList x5_2.f0.toList)), (4, .int .i64 (IntKind.wrap .i64 (s1.2 + 1))), (21, .pointer (some ⟨p5_4, 0, none⟩)), (22, .string x5_2.f0), (23, .int .i64 (x5_2.f0.size : Int)), (24, .bool true), (27, .pointer (some ⟨p5_4, 0, none⟩)), (28, .string x5_2.f0), (29, .int .i64 (x5_2.f0.size : Int)), (30, .bool true), (33, .pointer (some ⟨p5_4, 1, none⟩)), (34, .slice p5_2.2.2.1 x5_2.f1.length p5_2.2.2.2), (35, .int .i64 (x5_2.f1.length : Int)), (36, .bool true), (39, .pointer (some ⟨p5_4, 2, none⟩)), (40, .int .i64 x5_2.f2), (41, .bool true), (44, .pointer (some ⟨p5_4, 2, none⟩)), (45, .int .i64 x5_2.f2), (46, .pointer (some ⟨p5_4, 1, none⟩)), (47, .slice p5_2.2.2.1 x5_2.f1.length p5_2.2.2.2), (48, .int .i64 (x5_2.f1.length : Int)), (49, .bool true), (52, .int .i64 s1.2), (53, .bool false), (54, .bool false), (55, .slice h0.1 a0.length h0.2), (56, .int .i64 s1.2), (57, .int .i64 (IntKind.wrap .i64 (s1.2 - 1))), (58, .pointer (some ⟨p6_39.1, p6_39.2.1 + (IntKind.wrap .i64 (s1.2 - 1)).toNat * 3, none⟩)), (59, .pointer (some ⟨p6_39.1, p6_39.2.1 + (IntKind.wrap .i64 (s1.2 - 1)).toNat * 3, none⟩)), (60, .string x6_39.f0), (61, .pointer (some ⟨p5_4, 0, none⟩)), (62, .string x5_2.f0), (63, .bool (Op.bytesLess x6_39.f0.toList x5_2.f0.toList)), (64, .bool (Op.bytesLess x6_39.f0.toList x5_2.f0.toList))]) (bx' := [⟨p5_4, [.string x5_2.f0, .slice p5_2.2.2.1 x5_2.f1.length p5_2.2.2.2, .int .i64 x5_2.f2], 39⟩]) (by kernel_rfl) ?_
                    refine O.nil (by kernel_rfl) ?_
                    exact J.conv2 [0, 3, 4] [2] [] [] (by kernel_rfl) (by kernel_rfl) (by kernel_rfl) (by kernel_rfl) (by decide) (ih1 ((Op.bytesLess x6_39.f0.toList x5_2.f0.toList), (IntKind.wrap .i64 (s1.2 + 1))) () H)
                · refine J.drawS (by kernel_rfl) [(1, some 20, .bool true), (2, some 21, .pointer (some ⟨p5_4, 0, none⟩)), (3, some 22, .string x5_2.f0), (4, some 23, .int .i64 (x5_2.f0.size : Int)), (6, some 25, .bool true), (7, some 26, .bool true), (8, some 27, .pointer (some ⟨p5_4, 0, none⟩)), (9, some 28, .string x5_2.f0), (10, some 29, .int .i64 (x5_2.f0.size : Int)), (12, some 31, .bool true), (13, some 32, .bool true), (14, some 33, .pointer (some ⟨p5_4, 1, none⟩)), (15, some 34, .slice p5_2.2.2.1 x5_2.f1.length p5_2.2.2.2), (16, some 35, .int .i64 (x5_2.f1.length : Int)), (18, some 37, .bool true), (19, some 38, .bool true), (20, some 39, .pointer (some ⟨p5_4, 2, none⟩)), (21, some 40, .int .i64 x5_2.f2), (23, some 42, .bool true), (24, some 43, .bool true), (25, some 44, .pointer (some ⟨p5_4, 2, none⟩)), (26, some 45, .int .i64 x5_2.f2), (27, some 46, .pointer (some ⟨p5_4, 1, none⟩)), (28, some 47, .slice p5_2.2.2.1 x5_2.f1.length p5_2.2.2.2), (29, some 48, .int .i64 (x5_2.f1.length : Int)), (31, some 50, .bool false), (32, some 51, .bool false), (33, some 52, undef), (34, some 53, undef), (35, some 54, undef), (36, some 55, undef), (37, some 56, undef), (38, some 57, undef), (39, some 58, undef), (40, some 59, undef), (41, some 60, undef), (42, some 61, undef), (43, some 62, undef), (44, some 63, undef), (45, some 64, undef), (46, some 65, .bool false), (47, some 3, .bool false), (0, some 19, .bool true), (5, some 24, .bool true), (11, some 30, .bool true), (17, some 36, .bool true), (22, some 41, .bool true), (30, some 49, .bool false)] ([1, 2, 3, 4, 6, 7, 8, 9, 10, 12, 13, 14, 15, 16, 18, 19, 20, 21, 23, 24, 25, 26, 27, 28, 29, 31, 32, 33, 34, 35, 36, 37, 38, 39, 40, 41, 42, 43, 44, 45, 46, 47] ++ [0, 5, 11, 17, 22, 30]) (by kernel_rfl) ?_
                  refine D.fin (fr' := [(0, .slice h0.1 a0.length h0.2), (3, .bool false), (4, .int .i64 s1.2), (21, .pointer (some ⟨p5_4, 0, none⟩)), (22, .string x5_2.f0), (23, .int .i64 (x5_2.f0.size : Int)), (24, .bool true), (27, .pointer (some ⟨p5_4, 0, none⟩)), (28, .string x5_2.f0), (29, .int .i64 (x5_2.f0.size : Int)), (30, .bool true), (33, .pointer (some ⟨p5_4, 1, none⟩)), (34, .slice p5_2.2.2.1 x5_2.f1.length p5_2.2.2.2), (35, .int .i64 (x5_2.f1.length : Int)), (36, .bool true), (39, .pointer (some ⟨p5_4, 2, none⟩)), (40, .int .i64 x5_2.f2), (41, .bool true), (44, .pointer (some ⟨p5_4, 2, none⟩)), (45, .int .i64 x5_2.f2), (46, .pointer (some ⟨p5_4, 1, none⟩)), (47, .slice p5_2.2.2.1 x5_2.f1.length p5_2.2.2.2), (48, .int .i64 (x5_2.f1.length : Int)), (49, .bool false), (52, undef), (53, undef), (54, undef), (55, undef), (56, undef), (57, undef), (58, undef), (59, undef), (60, undef), (61, undef), (62, undef), (63, undef), (64, undef)]) [1, 2, 3, 4, 6, 7, 8, 9, 10, 12, 13, 14, 15, 16, 18, 19, 20, 21, 23, 24, 25, 26, 27, 28, 29, 31, 32, 33, 34, 35, 36, 37, 38, 39, 40, 41, 42, 43, 44, 45, 46, 47] [0, 5, 11, 17, 22, 30] [(0, 0), (0, 0), (0, 1), (0, 2), (0, 2), (0, 1)] [p5_4, 0, p5_4, 0, p5_4, 1, p5_4, 2, p5_4, 2, p5_4, 1] [0, 3, 4, 21, 22, 23, 24, 27, 28, 29, 30, 33, 34, 35, 36, 39, 40, 41, 44, 45, 46, 47, 48, 49, 52, 53, 54, 55, 56, 57, 58, 59, 60, 61, 62, 63, 64] (by kernel_rfl) (by kernel_rfl) (⟨QuAt.mk (v := .bool true) (some 19) (by kernel_rfl) (by kernel_rfl) (Qu.eqv (u := .bool s1.1) (v := .bool true) (0, 0) [] (by kernel_rfl) (congrArg Value.bool hc18)), QuAt.mk (v := .bool true) (some 24) (by kernel_rfl) (by kernel_rfl) (Qu.eqv (u := .bool (decide ((x5_2.f0.size : Int) > 0))) (v := .bool true) (0, 0) [] (by kernel_rfl) (congrArg Value.bool hc19)), QuAt.mk (v := .bool true) (some 30) (by kernel_rfl) (by kernel_rfl) (Qu.eqv (u := .bool (decide ((x5_2.f0.size : Int) ≤ 16))) (v := .bool true) (0, 0) [] (by kernel_rfl) (congrArg Value.bool hc20)), QuAt.mk (v := .bool true) (some 36) (by kernel_rfl) (by kernel_rfl) (Qu.eqv (u := .bool (decide ((x5_2.f1.length : Int) ≤ 20000))) (v := .bool true) (0, 0) [] (by kernel_rfl) (congrArg Value.bool hc21)), QuAt.mk (v := .bool true) (some 41) (by kernel_rfl) (by kernel_rfl) (Qu.eqv (u := .bool (decide (x5_2.f2 ≥ 0))) (v := .bool true) (0, 0) [] (by kernel_rfl) (congrArg Value.bool hc22)), QuAt.mk (v := .bool false) (some 49) (by kernel_rfl) (by kernel_rfl) (Qu.eqv (u := .bool (decide (x5_2.f2 ≤ (x5_2.f1.length : Int)))) (v := .bool false) (0, 0) [] (by kernel_rfl) (congrArg Value.bool hc23)), trivial⟩) (by kernel_rfl) ?_
                  refine J.out ?_
                  refine J.region (by kernel_rfl) ?_
                  refine O.pure 3 [] [0, 3, 4, 21, 22, 23, 24, 27, 28, 29, 30, 33, 34, 35, 36, 39, 40, 41, 44, 45, 46, 47, 48, 49, 52, 53, 54, 55, 56, 57, 58, 59, 60, 61, 62, 63, 64] [] (fr' := [(0, .slice h0.1 a0.length h0.2), (3, .bool false), (4, .int .i64 (IntKind.wrap .i64 (s1.2 + 1))), (21, .pointer (some ⟨p5_4, 0, none⟩)), (22, .string x5_2.f0), (23, .int .i64 (x5_2.f0.size : Int)), (24, .bool true), (27, .pointer (some ⟨p5_4, 0, none⟩)), (28, .string x5_2.f0), (29, .int .i64 (x5_2.f0.size : Int)), (30, .bool true), (33, .pointer (some ⟨p5_4, 1, none⟩)), (34, .slice p5_2.2.2.1 x5_2.f1.length p5_2.2.2.2), (35, .int .i64 (x5_2.f1.length : Int)), (36, .bool true), (39, .pointer (some ⟨p5_4, 2, none⟩)), (40, .int .i64 x5_2.f2), (41, .bool true), (44, .pointer (some ⟨p5_4, 2, none⟩)), (45, .int .i64 x5_2.f2), (46, .pointer (some ⟨p5_4, 1, none⟩)), (47, .slice p5_2.2.2.1 x5_2.f1.length p5_2.2.2.2), (48, .int .i64 (x5_2.f1.length : Int)), (49, .bool false), (52, undef), (53, undef), (54, undef), (55, undef), (56, undef), (57, undef), (58, undef), (59, undef), (60, undef), (61, undef), (62, undef), (63, undef), (64, undef)]) (bx' := [⟨p5_4, [.string x5_2.f0, .slice p5_2.2.2.1 x5_2.f1.length p5_2.2.2.2, .int .i64 x5_2.f2], 39⟩]) (by kernel_rfl) ?_
                  refine O.nil (by kernel_rfl) ?_
                  exact J.conv2 [0, 3, 4] [1] [] [] (by kernel_rfl) (by kernel_rfl) (by kernel_rfl) (by kernel_rfl) (by decide) (ih1 (false, (IntKind.wrap .i64 (s1.2 + 1))) () H)
              · refine J.drawS (by kernel_rfl) [(1, some 20, .bool true), (2, some 21, .pointer (some ⟨p5_4, 0, none⟩)), (3, some 22, .string x5_2.f0), (4, some 23, .int .i64 (x5_2.f0.size : Int)), (6, some 25, .bool true), (7, some 26, .bool true), (8, some 27, .pointer (some ⟨p5_4, 0, none⟩)), (9, some 28, .string x5_2.f0), (10, some 29, .int .i64 (x5_2.f0.size : Int)), (12, some 31, .bool true), (13, some 32, .bool true), (14, some 33, .pointer (some ⟨p5_4, 1, none⟩)), (15, some 34, .slice p5_2.2.2.1 x5_2.f1.length p5_2.2.2.2), (16, some 35, .int .i64 (x5_2.f1.length : Int)), (18, some 37, .bool true), (19, some 38, .bool true), (20, some 39, .pointer (some ⟨p5_4, 2, none⟩)), (21, some 40, .int .i64 x5_2.f2), (23, some 42, .bool false), (24, some 43, .bool false), (25, some 44, undef), (26, some 45, undef), (27, some 46, undef), (28, some 47, undef), (29, some 48, undef), (30, some 49, undef), (31, some 50, .bool false), (32, some 51, .bool false), (33, some 52, undef), (34, some 53, undef), (35, some 54, undef), (36, some 55, undef), (37, some 56, undef), (38, some 57, undef), (39, some 58, undef), (40, some 59, undef), (41, some 60, undef), (42, some 61, undef), (43, some 62, undef), (44, some 63, undef), (45, some 64, undef), (46, some 65, .bool false), (47, some 3, .bool false), (0, some 19, .bool true), (5, some 24, .bool true), (11, some 30, .bool true), (17, some 36, .bool true), (22, some 41, .bool false)] ([1, 2, 3, 4, 6, 7, 8, 9, 10, 12, 13, 14, 15, 16, 18, 19, 20, 21, 23, 24, 25, 26, 27, 28, 29, 30, 31, 32, 33, 34, 35, 36, 37, 38, 39, 40, 41, 42, 43, 44, 45, 46, 47] ++ [0, 5, 11, 17, 22]) (by kernel_rfl) ?_
                refine D.fin (fr' := [(0, .slice h0.1 a0.length h0.2), (3, .bool false), (4, .int .i64 s1.2), (21, .pointer (some ⟨p5_4, 0, none⟩)), (22, .string x5_2.f0), (23, .int .i64 (x5_2.f0.size : Int)), (24, .bool true), (27, .pointer (some ⟨p5_4, 0, none⟩)), (28, .string x5_2.f0), (29, .int .i64 (x5_2.f0.size : Int)), (30, .bool true), (33, .pointer (some ⟨p5_4, 1, none⟩)), (34, .slice p5_2.2.2.1 x5_2.f1.length p5_2.2.2.2), (35, .int .i64 (x5_2.f1.length : Int)), (36, .bool true), (39, .pointer (some ⟨p5_4, 2, none⟩)), (40, .int .i64 x5_2.f2), (41, .bool false), (44, undef), (45, undef), (46, undef), (47, undef), (48, undef), (49, undef), (52, undef), (53, undef), (54, undef), (55, undef), (56, undef), (57, undef), (58, undef), (59, undef), (60, undef), (61, undef), (62, undef), (63, undef), (64, undef)]) [1, 2, 3, 4, 6, 7, 8, 9, 10, 12, 13, 14, 15, 16, 18, 19, 20, 21, 23, 24, 25, 26, 27, 28, 29, 30, 31, 32, 33, 34, 35, 36, 37, 38, 39, 40, 41, 42, 43, 44, 45, 46, 47] [0, 5, 11, 17, 22] [(0, 0), (0, 0), (0, 1), (0, 2)] [p5_4, 0, p5_4, 0, p5_4, 1, p5_4, 2] [0, 3, 4, 21, 22, 23, 24, 27, 28, 29, 30, 33, 34, 35, 36, 39, 40, 41, 44, 45, 46, 47, 48, 49, 52, 53, 54, 55, 56, 57, 58, 59, 60, 61, 62, 63, 64] (by kernel_rfl) (by kernel_rfl) (⟨QuAt.mk (v := .bool true) (some 19) (by kernel_rfl) (by kernel_rfl) (Qu.eqv (u := .bool s1.1) (v := .bool true) (0, 0) [] (by kernel_rfl) (congrArg Value.bool hc18)), QuAt.mk (v := .bool true) (some 24) (by kernel_rfl) (by kernel_rfl) (Qu.eqv (u := .bool (decide ((x5_2.f0.size : Int) > 0))) (v := .bool true) (0, 0) [] (by kernel_rfl) (congrArg Value.bool hc19)), QuAt.mk (v := .bool true) (some 30) (by kernel_rfl) (by kernel_rfl) (Qu.eqv (u := .bool (decide ((x5_2.f0.size : Int) ≤ 16))) (v := .bool true) (0, 0) [] (by kernel_rfl) (congrArg Value.bool hc20)), QuAt.mk (v := .bool true) (some 36) (by kernel_rfl) (by kernel_rfl) (Qu.eqv (u := .bool (decide ((x5_2.f1.length : Int) ≤ 20000))) (v := .bool true) (0, 0) [] (by kernel_rfl) (congrArg Value.bool hc21)), QuAt.mk (v := .bool false) (some 41) (by kernel_rfl) (by kernel_rfl) (Qu.eqv (u := .bool (decide (x5_2.f2 ≥ 0))) (v := .bool false) (0, 0) [] (by kernel_rfl) (congrArg Value.bool hc22)), trivial⟩) (by kernel_rfl) ?_
                refine J.out ?_
                refine J.region (by kernel_rfl) ?_
                refine O.pure 3 [] [0, 3, 4, 21, 22, 23, 24, 27, 28, 29, 30, 33, 34, 35, 36, 39, 40, 41, 44, 45, 46, 47, 48, 49, 52, 53, 54, 55, 56, 57, 58, 59, 60, 61, 62, 63, 64] [] (fr' := [(0, .slice h0.1 a0.length h0.2), (3, .bool false), (4, .int .i64 (IntKind.wrap .i64 (s1.2 + 1))), (21, .pointer (some ⟨p5_4, 0, none⟩)), (22, .string x5_2.f0), (23, .int .i64 (x5_2.f0.size : Int)), (24, .bool true), (27, .pointer (some ⟨p5_4, 0, none⟩)), (28, .string x5_2.f0), (29, .int .i64 (x5_2.f0.size : Int)), (30, .bool true), (33, .pointer (some ⟨p5_4, 1, none⟩)), (34, .slice p5_2.2.2.1 x5_2.f1.length p5_2.2.2.2), (35, .int .i64 (x5_2.f1.length : Int)), (36, .bool true), (39, .pointer (some ⟨p5_4, 2, none⟩)), (40, .int .i64 x5_2.f2), (41, .bool false), (44, undef), (45, undef), (46, undef), (47, undef), (48, undef), (49, undef), (52, undef), (53, undef), (54, undef), (55, undef), (56, undef), (57, undef), (58, undef), (59, undef), (60, undef), (61, undef), (62, undef), (63, undef), (64, undef)]) (bx' := [⟨p5_4, [.string x5_2.f0, .slice p5_2.2.2.1 x5_2.f1.length p5_2.2.2.2, .int .i64 x5_2.f2], 39⟩]) (by kernel_rfl) ?_
                refine O.nil (by kernel_rfl) ?_
                exact J.conv2 [0, 3, 4] [1] [] [] (by kernel_rfl) (by kernel_rfl) (by kernel_rfl) (by kernel_rfl) (by decide) (ih1 (false, (IntKind.wrap .i64 (s1.2 + 1))) () H)
            · refine J.drawS (by kernel_rfl) [(1, some 20, .bool true), (2, some 21, .pointer (some ⟨p5_4, 0, none⟩)), (3, some 22, .string x5_2.f0), (4, some 23, .int .i64 (x5_2.f0.size : Int)), (6, some 25, .bool true), (7, some 26, .bool true), (8, some 27, .pointer (some ⟨p5_4, 0, none⟩)), (9, some 28, .string x5_2.f0), (10, some 29, .int .i64 (x5_2.f0.size : Int)), (12, some 31, .bool true), (13, some 32, .bool true), (14, some 33, .pointer (some ⟨p5_4, 1, none⟩)), (15, some 34, .slice p5_2.2.2.1 x5_2.f1.length p5_2.2.2.2), (16, some 35, .int .i64 (x5_2.f1.length : Int)), (18, some 37, .bool false), (19, some 38, .bool false), (20, some 39, undef), (21, some 40, undef), (22, some 41, undef), (23, some 42, .bool false), (24, some 43, .bool false), (25, some 44, undef), (26, some 45, undef), (27, some 46, undef), (28, some 47, undef), (29, some 48, undef), (30, some 49, undef), (31, some 50, .bool false), (32, some 51, .bool false), (33, some 52, undef), (34, some 53, undef), (35, some 54, undef), (36, some 55, undef), (37, some 56, undef), (38, some 57, undef), (39, some 58, undef), (40, some 59, undef), (41, some 60, undef), (42, some 61, undef), (43, some 62, undef), (44, some 63, undef), (45, some 64, undef), (46, some 65, .bool false), (47, some 3, .bool false), (0, some 19, .bool true), (5, some 24, .bool true), (11, some 30, .bool true), (17, some 36, .bool false)] ([1, 2, 3, 4, 6, 7, 8, 9, 10, 12, 13, 14, 15, 16, 18, 19, 20, 21, 22, 23, 24, 25, 26, 27, 28, 29, 30, 31, 32, 33, 34, 35, 36, 37, 38, 39, 40, 41, 42, 43, 44, 45, 46, 47] ++ [0, 5, 11, 17]) (by kernel_rfl) ?_
              refine D.fin (fr' := [(0, .slice h0.1 a0.length h0.2), (3, .bool false), (4, .int .i64 s1.2), (21, .pointer (some ⟨p5_4, 0, none⟩)), (22, .string x5_2.f0), (23, .int .i64 (x5_2.f0.size : Int)), (24, .bool true), (27, .pointer (some ⟨p5_4, 0, none⟩)), (28, .string x5_2.f0), (29, .int .i64 (x5_2.f0.size : Int)), (30, .bool true), (33, .pointer (some ⟨p5_4, 1, none⟩)), (34, .slice p5_2.2.2.1 x5_2.f1.length p5_2.2.2.2), (35, .int .i64 (x5_2.f1.length : Int)), (36, .bool false), (39, undef), (40, undef), (41, undef), (44, undef), (45, undef), (46, undef), (47, undef), (48, undef), (49, undef), (52, undef), (53, undef), (54, undef), (55, undef), (56, undef), (57, undef), (58, undef), (59, undef), (60, undef), (61, undef), (62, undef), (63, undef), (64, undef)]) [1, 2, 3, 4, 6, 7, 8, 9, 10, 12, 13, 14, 15, 16, 18, 19, 20, 21, 22, 23, 24, 25, 26, 27, 28, 29, 30, 31, 32, 33, 34, 35, 36, 37, 38, 39, 40, 41, 42, 43, 44, 45, 46, 47] [0, 5, 11, 17] [(0, 0), (0, 0), (0, 1)] [p5_4, 0, p5_4, 0, p5_4, 1] [0, 3, 4, 21, 22, 23, 24, 27, 28, 29, 30, 33, 34, 35, 36, 39, 40, 41, 44, 45, 46, 47, 48, 49, 52, 53, 54, 55, 56, 57, 58, 59, 60, 61, 62, 63, 64] (by kernel_rfl) (by kernel_rfl) (⟨QuAt.mk (v := .bool true) (some 19) (by kernel_rfl) (by kernel_rfl) (Qu.eqv (u := .bool s1.1) (v := .bool true) (0, 0) [] (by kernel_rfl) (congrArg Value.bool hc18)), QuAt.mk (v := .bool true) (some 24) (by kernel_rfl) (by kernel_rfl) (Qu.eqv (u := .bool (decide ((x5_2.f0.size : Int) > 0))) (v := .bool true) (0, 0) [] (by kernel_rfl) (congrArg Value.bool hc19)), QuAt.mk (v := .bool true) (some 30) (by kernel_rfl) (by kernel_rfl) (Qu.eqv (u := .bool (decide ((x5_2.f0.size : Int) ≤ 16))) (v := .bool true) (0, 0) [] (by kernel_rfl) (congrArg Value.bool hc20)), QuAt.mk (v := .bool false) (some 36) (by kernel_rfl) (by kernel_rfl) (Qu.eqv (u := .bool (decide ((x5_2.f1.length : Int) ≤ 20000))) (v := .bool false) (0, 0) [] (by kernel_rfl) (congrArg Value.bool hc21)), trivial⟩) (by kernel_rfl) ?_
              refine J.out ?_
              refine J.region (by kernel_rfl) ?_
              refine O.pure 3 [] [0, 3, 4, 21, 22, 23, 24, 27, 28, 29, 30, 33, 34, 35, 36, 39, 40, 41, 44, 45, 46, 47, 48, 49, 52, 53, 54, 55, 56, 57, 58, 59, 60, 61, 62, 63, 64] [] (fr' := [(0, .slice h0.1 a0.length h0.2), (3, .bool false), (4, .int .i64 (IntKind.wrap .i64 (s1.2 + 1))), (21, .pointer (some ⟨p5_4, 0, none⟩)), (22, .string x5_2.f0), (23, .int .i64 (x5_2.f0.size : Int)), (24, .bool true), (27, .pointer (some ⟨p5_4, 0, none⟩)), (28, .string x5_2.f0), (29, .int .i64 (x5_2.f0.size : Int)), (30, .bool true), (33, .pointer (some ⟨p5_4, 1, none⟩)), (34, .slice p5_2.2.2.1 x5_2.f1.length p5_2.2.2.2), (35, .int .i64 (x5_2.f1.length : Int)), (36, .bool false), (39, undef), (40, undef), (41, undef), (44, undef), (45, undef), (46, undef), (47, undef), (48, undef), (49, undef), (52, undef), (53, undef), (54, undef), (55, undef), (56, undef), (57, undef), (58, undef), (59, undef), (60, undef), (61, undef), (62, undef), (63, undef), (64, undef)]) (bx' := [⟨p5_4, [.string x5_2.f0, .slice p5_2.2.2.1 x5_2.f1.length p5_2.2.2.2, .int .i64 x5_2.f2], 39⟩]) (by kernel_rfl) ?_
              refine O.nil (by kernel_rfl) ?_
              exact J.conv2 [0, 3, 4] [1] [] [] (by kernel_rfl) (by kernel_rfl) (by kernel_rfl) (by kernel_rfl) (by decide) (ih1 (false, (IntKind.wrap .i64 (s1.2 + 1))) () H)
          · refine J.drawS (by kernel_rfl) [(1, some 20, .bool true), (2, some 21, .pointer (some ⟨p5_4, 0, none⟩)), (3, some 22, .string x5_2.f0), (4, some 23, .int .i64 (x5_2.f0.size : Int)), (6, some 25, .bool true), (7, some 26, .bool true), (8, some 27, .pointer (some ⟨p5_4, 0, none⟩)), (9, some 28, .string x5_2.f0), (10, some 29, .int .i64 (x5_2.f0.size : Int)), (12, some 31, .bool false), (13, some 32, .bool false), (14, some 33, undef), (15, some 34, undef), (16, some 35, undef), (17, some 36, undef), (18, some 37, .bool false), (19, some 38, .bool false), (20, some 39, undef), (21, some 40, undef), (22, some 41, undef), (23, some 42, .bool false), (24, some 43, .bool false), (25, some 44, undef), (26, some 45, undef), (27, some 46, undef), (28, some 47, undef), (29, some 48, undef), (30, some 49, undef), (31, some 50, .bool false), (32, some 51, .bool false), (33, some 52, undef), (34, some 53, undef), (35, some 54, undef), (36, some 55, undef), (37, some 56, undef), (38, some 57, undef), (39, some 58, undef), (40, some 59, undef), (41, some 60, undef), (42, some 61, undef), (43, some 62, undef), (44, some 63, undef), (45, some 64, undef), (46, some 65, .bool false), (47, some 3, .bool false), (0, some 19, .bool true), (5, some 24, .bool true), (11, some 30, .bool false)] ([1, 2, 3, 4, 6, 7, 8, 9, 10, 12, 13, 14, 15, 16, 17, 18, 19, 20, 21, 22, 23, 24, 25, 26, 27, 28, 29, 30, 31, 32, 33, 34, 35, 36, 37, 38, 39, 40, 41, 42, 43, 44, 45, 46, 47] ++ [0, 5, 11]) (by kernel_rfl) ?_
            refine D.fin (fr' := [(0, .slice h0.1 a0.length h0.2), (3, .bool false), (4, .int .i64 s1.2), (21, .pointer (some ⟨p5_4, 0, none⟩)), (22, .string x5_2.f0), (23, .int .i64 (x5_2.f0.size : Int)), (24, .bool true), (27, .pointer (some ⟨p5_4, 0, none⟩)), (28, .string x5_2.f0), (29, .int .i64 (x5_2.f0.size : Int)), (30, .bool false), (33, undef), (34, undef), (35, undef), (36, undef), (39, undef), (40, undef), (41, undef), (44, undef), (45, undef), (46, undef), (47, undef), (48, undef), (49, undef), (52, undef), (53, undef), (54, undef), (55, undef), (56, undef), (57, undef), (58, undef), (59, undef), (60, undef), (61, undef), (62, undef), (63, undef), (64, undef)]) [1, 2, 3, 4, 6, 7, 8, 9, 10, 12, 13, 14, 15, 16, 17, 18, 19, 20, 21, 22, 23, 24, 25, 26, 27, 28, 29, 30, 31, 32, 33, 34, 35, 36, 37, 38, 39, 40, 41, 42, 43, 44, 45, 46, 47] [0, 5, 11] [(0, 0), (0, 0)] [p5_4, 0, p5_4, 0] [0, 3, 4, 21, 22, 23, 24, 27, 28, 29, 30, 33, 34, 35, 36, 39, 40, 41, 44, 45, 46, 47, 48, 49, 52, 53, 54, 55, 56, 57, 58, 59, 60, 61, 62, 63, 64] (by kernel_rfl) (by kernel_rfl) (⟨QuAt.mk (v := .bool true) (some 19) (by kernel_rfl) (by kernel_rfl) (Qu.eqv (u := .bool s1.1) (v := .bool true) (0, 0) [] (by kernel_rfl) (congrArg Value.bool hc18)), QuAt.mk (v := .bool true) (some 24) (by kernel_rfl) (by kernel_rfl) (Qu.eqv (u := .bool (decide ((x5_2.f0.size : Int) > 0))) (v := .bool true) (0, 0) [] (by kernel_rfl) (congrArg Value.bool hc19)), QuAt.mk (v := .bool false) (some 30) (by kernel_rfl) (by kernel_rfl) (Qu.eqv (u := .bool (decide ((x5_2.f0.size : Int) ≤ 16))) (v := .bool false) (0, 0) [] (by kernel_rfl) (congrArg Value.bool hc20)), trivial⟩) (by kernel_rfl) ?_
            refine J.out ?_
            refine J.region (by kernel_rfl) ?_
            refine O.pure 3 [] [0, 3, 4, 21, 22, 23, 24, 27, 28, 29, 30, 33, 34, 35, 36, 39, 40, 41, 44, 45, 46, 47, 48, 49, 52, 53, 54, 55, 56, 57, 58, 59, 60, 61, 62, 63, 64] [] (fr' := [(0, .slice h0.1 a0.length h0.2), (3, .bool false), (4, .int .i64 (IntKind.wrap .i64 (s1.2 + 1))), (21, .pointer (some ⟨p5_4, 0, none⟩)), (22, .string x5_2.f0), (23, .int .i64 (x5_2.f0.size : Int)), (24, .bool true), (27, .pointer (some ⟨p5_4, 0, none⟩)), (28, .string x5_2.f0), (29, .int .i64 (x5_2.f0.size : Int)), (30, .bool false), (33, undef), (34, undef), (35, undef), (36, undef), (39, undef), (40, undef), (41, undef), (44, undef), (45, undef), (46, undef), (47, undef), (48, undef), (49, undef), (52, undef), (53, undef), (54, undef), (55, undef), (56, undef), (57, undef), (58, undef), (59, undef), (60, undef), (61, undef), (62, undef), (63, undef), (64, undef)]) (bx' := [⟨p5_4, [.string x5_2.f0, .slice p5_2.2.2.1 x5_2.f1.length p5_2.2.2.2, .int .i64 x5_2.f2], 39⟩]) (by kernel_rfl) ?_
            refine O.nil (by kernel_rfl) ?_
            exact J.conv2 [0, 3, 4] [1] [] [] (by kernel_rfl) (by kernel_rfl) (by kernel_rfl) (by kernel_rfl) (by decide) (ih1 (false, (IntKind.wrap .i64 (s1.2 + 1))) () H)
        · refine J.drawS (by kernel_rfl) [(1, some 20, .bool true), (2, some 21, .pointer (some ⟨p5_4, 0, none⟩)), (3, some 22, .string x5_2.f0), (4, some 23, .int .i64 (x5_2.f0.size : Int)), (6, some 25, .bool false), (7, some 26, .bool false), (8, some 27, undef), (9, some 28, undef), (10, some 29, undef), (11, some 30, undef), (12, some 31, .bool false), (13, some 32, .bool false), (14, some 33, undef), (15, some 34, undef), (16, some 35, undef), (17, some 36, undef), (18, some 37, .bool false), (19, some 38, .bool false), (20, some 39, undef), (21, some 40, undef), (22, some 41, undef), (23, some 42, .bool false), (24, some 43, .bool false), (25, some 44, undef), (26, some 45, undef), (27, some 46, undef), (28, some 47, undef), (29, some 48, undef), (30, some 49, undef), (31, some 50, .bool false), (32, some 51, .bool false), (33, some 52, undef), (34, some 53, undef), (35, some 54, undef), (36, some 55, undef), (37, some 56, undef), (38, some 57, undef), (39, some 58, undef), (40, some 59, undef), (41, some 60, undef), (42, some 61, undef), (43, some 62, undef), (44, some 63, undef), (45, some 64, undef), (46, some 65, .bool false), (47, some 3, .bool false), (0, some 19, .bool true), (5, some 24, .bool false)] ([1, 2, 3, 4, 6, 7, 8, 9, 10, 11, 12, 13, 14, 15, 16, 17, 18, 19, 20, 21, 22, 23, 24, 25, 26, 27, 28, 29, 30, 31, 32, 33, 34, 35, 36, 37, 38, 39, 40, 41, 42, 43, 44, 45, 46, 47] ++ [0, 5]) (by kernel_rfl) ?_
          refine D.fin (fr' := [(0, .slice h0.1 a0.length h0.2), (3, .bool false), (4, .int .i64 s1.2), (21, .pointer (some ⟨p5_4, 0, none⟩)), (22, .string x5_2.f0), (23, .int .i64 (x5_2.f0.size : Int)), (24, .bool false), (27, undef), (28, undef), (29, undef), (30, undef), (33, undef), (34, undef), (35, undef), (36, undef), (39, undef), (40, undef), (41, undef), (44, undef), (45, undef), (46, undef), (47, undef), (48, undef), (49, undef), (52, undef), (53, undef), (54, undef), (55, undef), (56, undef), (57, undef), (58, undef), (59, undef), (60, undef), (61, undef), (62, undef), (63, undef), (64, undef)]) [1, 2, 3, 4, 6, 7, 8, 9, 10, 11, 12, 13, 14, 15, 16, 17, 18, 19, 20, 21, 22, 23, 24, 25, 26, 27, 28, 29, 30, 31, 32, 33, 34, 35, 36, 37, 38, 39, 40, 41, 42, 43, 44, 45, 46, 47] [0, 5] [(0, 0)] [p5_4, 0] [0, 3, 4, 21, 22, 23, 24, 27, 28, 29, 30, 33, 34, 35, 36, 39, 40, 41, 44, 45, 46, 47, 48, 49, 52, 53, 54, 55, 56, 57, 58, 59, 60, 61, 62, 63, 64] (by kernel_rfl) (by kernel_rfl) (⟨QuAt.mk (v := .bool true) (some 19) (by kernel_rfl) (by kernel_rfl) (Qu.eqv (u := .bool s1.1) (v := .bool true) (0, 0) [] (by kernel_rfl) (congrArg Value.bool hc18)), QuAt.mk (v := .bool false) (some 24) (by kernel_rfl) (by kernel_rfl) (Qu.eqv (u := .bool (decide ((x5_2.f0.size : Int) > 0))) (v := .bool false) (0, 0) [] (by kernel_rfl) (congrArg Value.bool hc19)), trivial⟩) (by kernel_rfl) ?_
          refine J.out ?_
          refine J.region (by kernel_rfl) ?_
          refine O.pure 3 [] [0, 3, 4, 21, 22, 23, 24, 27, 28, 29, 30, 33, 34, 35, 36, 39, 40, 41, 44, 45, 46, 47, 48, 49, 52, 53, 54, 55, 56, 57, 58, 59, 60, 61, 62, 63, 64] [] (fr' := [(0, .slice h0.1 a0.length h0.2), (3, .bool false), (4, .int .i64 (IntKind.wrap .i64 (s1.2 + 1))), (21, .pointer (some ⟨p5_4, 0, none⟩)), (22, .string x5_2.f0), (23, .int .i64 (x5_2.f0.size : Int)), (24, .bool false), (27, undef), (28, undef), (29, undef), (30, undef), (33, undef), (34, undef), (35, undef), (36, undef), (39, undef), (40, undef), (41, undef), (44, undef), (45, undef), (46, undef), (47, undef), (48, undef), (49, undef), (52, undef), (53, undef), (54, undef), (55, undef), (56, undef), (57, undef), (58, undef), (59, undef), (60, undef), (61, undef), (62, undef), (63, undef), (64, undef)]) (bx' := [⟨p5_4, [.string x5_2.f0, .slice p5_2.2.2.1 x5_2.f1.length p5_2.2.2.2, .int .i64 x5_2.f2], 39⟩]) (by kernel_rfl) ?_
          refine O.nil (by kernel_rfl) ?_
          exact J.conv2 [0, 3, 4] [1] [] [] (by kernel_rfl) (by kernel_rfl) (by kernel_rfl) (by kernel_rfl) (by decide) (ih1 (false, (IntKind.wrap .i64 (s1.2 + 1))) () H)
      · refine J.drawS (by kernel_rfl) [(1, some 20, .bool false), (2, some 21, undef), (3, some 22, undef), (4, some 23, undef), (5, some 24, undef), (6, some 25, .bool false), (7, some 26, .bool false), (8, some 27, undef), (9, some 28, undef), (10, some 29, undef), (11, some 30, undef), (12, some 31, .bool false), (13, some 32, .bool false), (14, some 33, undef), (15, some 34, undef), (16, some 35, undef), (17, some 36, undef), (18, some 37, .bool false), (19, some 38, .bool false), (20, some 39, undef), (21, some 40, undef), (22, some 41, undef), (23, some 42, .bool false), (24, some 43, .bool false), (25, some 44, undef), (26, some 45, undef), (27, some 46, undef), (28, some 47, undef), (29, some 48, undef), (30, some 49, undef), (31, some 50, .bool false), (32, some 51, .bool false), (33, some 52, undef), (34, some 53, undef), (35, some 54, undef), (36, some 55, undef), (37, some 56, undef), (38, some 57, undef), (39, some 58, undef), (40, some 59, undef), (41, some 60, undef), (42, some 61, undef), (43, some 62, undef), (44, some 63, undef), (45, some 64, undef), (46, some 65, .bool false), (47, some 3, .bool false), (0, some 19, .bool false)] ([1, 2, 3, 4, 5, 6, 7, 8, 9, 10, 11, 12, 13, 14, 15, 16, 17, 18, 19, 20, 21, 22, 23, 24, 25, 26, 27, 28, 29, 30, 31, 32, 33, 34, 35, 36, 37, 38, 39, 40, 41, 42, 43, 44, 45, 46, 47] ++ [0]) (by kernel_rfl) ?_
        refine D.fin (fr' := [(0, .slice h0.1 a0.length h0.2), (3, .bool false), (4, .int .i64 s1.2), (21, undef), (22, undef), (23, undef), (24, undef), (27, undef), (28, undef), (29, undef), (30, undef), (33, undef), (34, undef), (35, undef), (36, undef), (39, undef), (40, undef), (41, undef), (44, undef), (45, undef), (46, undef), (47, undef), (48, undef), (49, undef), (52, undef), (53, undef), (54, undef), (55, undef), (56, undef), (57, undef), (58, undef), (59, undef), (60, undef), (61, undef), (62, undef), (63, undef), (64, undef)]) [1, 2, 3, 4, 5, 6, 7, 8, 9, 10, 11, 12, 13, 14, 15, 16, 17, 18, 19, 20, 21, 22, 23, 24, 25, 26, 27, 28, 29, 30, 31, 32, 33, 34, 35, 36, 37, 38, 39, 40, 41, 42, 43, 44, 45, 46, 47] [0] [] [] [0, 3, 4, 21, 22, 23, 24, 27, 28, 29, 30, 33, 34, 35, 36, 39, 40, 41, 44, 45, 46, 47, 48, 49, 52, 53, 54, 55, 56, 57, 58, 59, 60, 61, 62, 63, 64] (by kernel_rfl) (by kernel_rfl) (⟨QuAt.mk (v := .bool false) (some 19) (by kernel_rfl) (by kernel_rfl) (Qu.eqv (u := .bool s1.1) (v := .bool false) (0, 0) [] (by kernel_rfl) (congrArg Value.bool hc18)), trivial⟩) (by kernel_rfl) ?_
        refine J.out ?_
        refine J.region (by kernel_rfl) ?_
        refine O.pure 3 [] [0, 3, 4, 21, 22, 23, 24, 27, 28, 29, 30, 33, 34, 35, 36, 39, 40, 41, 44, 45, 46, 47, 48, 49, 52, 53, 54, 55, 56, 57, 58, 59, 60, 61, 62, 63, 64] [] (fr' := [(0, .slice h0.1 a0.length h0.2), (3, .bool false), (4, .int .i64 (IntKind.wrap .i64 (s1.2 + 1))), (21, undef), (22, undef), (23, undef), (24, undef), (27, undef), (28, undef), (29, undef), (30, undef), (33, undef), (34, undef), (35, undef), (36, undef), (39, undef), (40, undef), (41, undef), (44, undef), (45, undef), (46, undef), (47, undef), (48, undef), (49, undef), (52, undef), (53, undef), (54, undef), (55, undef), (56, undef), (57, undef), (58, undef), (59, undef), (60, undef), (61, undef), (62, undef), (63, undef), (64, undef)]) (bx' := [⟨p5_4, [.string x5_2.f0, .slice p5_2.2.2.1 x5_2.f1.length p5_2.2.2.2, .int .i64 x5_2.f2], 39⟩]) (by kernel_rfl) ?_
        refine O.nil (by kernel_rfl) ?_
        exact J.conv2 [0, 3, 4] [1] [] [] (by kernel_rfl) (by kernel_rfl) (by kernel_rfl) (by kernel_rfl) (by decide) (ih1 (false, (IntKind.wrap .i64 (s1.2 + 1))) () H)
    · refine J.condF (x := .tmp 12) (t := (decide (s1.2 < (a0.length : Int)))) (by kernel_rfl) (by kernel_rfl) hc17 ?_
      refine J.exit (id := 0) (by kernel_rfl) rfl ?_
      refine J.seq (by kernel_rfl) ?_
      refine J.region (by kernel_rfl) ?_
      refine O.pure 2 [] [2] [] (fr' := [(2, .bool s1.1)]) (bx' := []) (by kernel_rfl) ?_
      refine O.nil (by kernel_rfl) ?_
      obtain rfl := Option.some.inj H
      exact J.doneS [] [] [] [] [] () (vs := [.bool s1.1]) (by kernel_rfl) (by kernel_rfl) (by kernel_rfl) (by kernel_rfl) (by kernel_rfl) (by decide)
  · exact J.conv2 [0, 3, 4] [0] [] [] (by kernel_rfl) (by kernel_rfl) (by kernel_rfl) (by kernel_rfl) (by decide) h_
/-! ### haywain/haywainref13.Good: function 11 -/
def haywainref13_Good.f (K : Nat) (a0 : List S39) : Option (List S39) := (haywainref13_Right.f K a0).bind fun x1_1 => cond x1_1 (some (a0)) (some (([] : List S39)))
set_option maxRecDepth 100000 in
set_option maxHeartbeats 1000000 in
theorem haywainref13_Good.con (K : Nat) (a0 : List S39) (h0 : Hd) (r : (List S39)) (X : Nat → Nat → Prop) (w : World) (hS : St X w [] [] [] [] [Rd kd39 h0.1 h0.2 a0] w) (H : haywainref13_Good.f K a0 = some r) :
    Cn Try.prog 11 [.slice h0.1 a0.length h0.2] X w [] (fun i : Hd => .slice i.1 r.length i.2) (fun i => []) (fun i => []) (fun i => [Rd kd39 i.1 i.2 r]) := by
  refine Cn.of Try.func11 (by kernel_rfl) hS ?_
  unfold haywainref13_Good.f at H
  refine J.seq (by kernel_rfl) ?_
  refine J.region (by kernel_rfl) ?_
  refine O.pure 1 [] [0] [] (fr' := [(0, .slice h0.1 a0.length h0.2)]) (bx' := []) (by kernel_rfl) ?_
  refine O.nil (by kernel_rfl) ?_
  refine J.seq (by kernel_rfl) ?_
  refine J.seq (by kernel_rfl) ?_
  obtain ⟨x1_1, hx1_1, H⟩ := bindE H
  refine J.region (by kernel_rfl) ?_
  refine O.pure 1 [] [0, 3] [] (fr' := [(0, .slice h0.1 a0.length h0.2), (3, .slice h0.1 a0.length h0.2)]) (bx' := []) (by kernel_rfl) ?_
  refine O.e (some 4) (Ev.call0 (xs := [.tmp 3]) [0] (by kernel_rfl) (by kernel_rfl) (fun w hS => haywainref13_Right.con K a0 h0  _ _ w hS hx1_1)) (by kernel_rfl) (fun _ => ?_)
  refine O.nil (by kernel_rfl) ?_
  rcases condE H with ⟨hc1, H⟩ | ⟨hc1, H⟩
  · refine J.condT (x := .tmp 4) (t := x1_1) (by kernel_rfl) (by kernel_rfl) hc1 ?_
    refine J.seq (by kernel_rfl) ?_
    refine J.region (by kernel_rfl) ?_
    refine O.pure 2 [] [2] [] (fr' := [(2, .slice h0.1 a0.length h0.2)]) (bx' := []) (by kernel_rfl) ?_
    refine O.nil (by kernel_rfl) ?_
    obtain rfl := Option.some.inj H
    exact J.doneS [] [] [0] [] [] h0 (vs := [.slice h0.1 a0.length h0.2]) (by kernel_rfl) (by kernel_rfl) (by kernel_rfl) (by kernel_rfl) (by kernel_rfl) (by decide)
  · refine J.condF (x := .tmp 4) (t := x1_1) (by kernel_rfl) (by kernel_rfl) hc1 ?_
    refine J.skip (by kernel_rfl) ?_
    refine J.seq (by kernel_rfl) ?_
    refine J.region (by kernel_rfl) ?_
    refine O.pure 1 [] [2] [] (fr' := [(2, .slice none 0 0)]) (bx' := []) (by kernel_rfl) ?_
    refine O.nil (by kernel_rfl) ?_
    obtain rfl := Option.some.inj H
    refine J.nilF kd39 ?_
    exact J.doneS [] [] [0] [] [] (none, 0) (vs := [.slice none 0 0]) (by kernel_rfl) (by kernel_rfl) (by kernel_rfl) (by kernel_rfl) (by kernel_rfl) (by decide)
/-! ### haywain/haywainlaw13.As: function 12 -/
def haywainlaw13_As.l1 (K : Nat) (a0 : S24) : Nat → ((List S39) × Int) → Option (List S39)
  | 0, _ => none
  | k + 1, s1 => cond (decide (s1.2 < (a0.f0.length : Int))) ((idxO a0.f0 s1.2).bind fun x5_3 => (appO 48 s1.1 ([(⟨x5_3.f0, x5_3.f1, x5_3.f2⟩ : S39)] : List S39)).bind fun y6_9 => haywainlaw13_As.l1 K a0 k ((s1.1 ++ ([(⟨x5_3.f0, x5_3.f1, x5_3.f2⟩ : S39)] : List S39)), (IntKind.wrap .i64 (s1.2 + 1)))) (some (s1.1))
def haywainlaw13_As.f (K : Nat) (a0 : S24) : Option (List S39) := haywainlaw13_As.l1 K a0 K (([] : List S39), 0)
set_option maxRecDepth 100000 in
set_option maxHeartbeats 1000000 in
theorem haywainlaw13_As.con (K : Nat) (a0 : S24) (h0 : Hd) (r : (List S39)) (X : Nat → Nat → Prop) (w : World) (hS : St X w [] [] [] [] [Rd kd43 h0.1 h0.2 a0.f0] w) (H : haywainlaw13_As.f K a0 = some r) :
    Cn Try.prog 12 [.agg #[.slice h0.1 a0.f0.length h0.2]] X w [] (fun i : Hd => .slice i.1 r.length i.2) (fun i => []) (fun i => [mkRow kd39 39 (.slice i.1 r.length i.2) r]) (fun i => []) := by
  refine Cn.of Try.func12 (by kernel_rfl) hS ?_
  unfold haywainlaw13_As.f at H
  refine J.seq (by kernel_rfl) ?_
  refine J.region (by kernel_rfl) ?_
  refine O.e (some 1) (Ev.box (t := 24) (x := .tmp 0) (v := .agg #[.slice h0.1 a0.f0.length h0.2]) (by kernel_rfl) (by kernel_rfl)) (by kernel_rfl) (fun p0_0 => ?_)
  refine O.pure 1 [] [1] [] (fr' := [(1, .pointer (some ⟨p0_0, 0, none⟩))]) (bx' := [⟨p0_0, [.slice h0.1 a0.f0.length h0.2], 24⟩]) (by kernel_rfl) ?_
  refine O.nil (by kernel_rfl) ?_
  refine J.seq (by kernel_rfl) ?_
  refine J.region (by kernel_rfl) ?_
  refine O.pure 1 [] [1, 3] [] (fr' := [(1, .pointer (some ⟨p0_0, 0, none⟩)), (3, .slice none 0 0)]) (bx' := [⟨p0_0, [.slice h0.1 a0.f0.length h0.2], 24⟩]) (by kernel_rfl) ?_
  refine O.nil (by kernel_rfl) ?_
  refine J.seq (by kernel_rfl) ?_
  refine J.seq (by kernel_rfl) ?_
  refine J.region (by kernel_rfl) ?_
  refine O.pure 1 [] [1, 3, 4] [] (fr' := [(1, .pointer (some ⟨p0_0, 0, none⟩)), (3, .slice none 0 0), (4, .int .i64 0)]) (bx' := [⟨p0_0, [.slice h0.1 a0.f0.length h0.2], 24⟩]) (by kernel_rfl) ?_
  refine O.nil (by kernel_rfl) ?_
  refine J.block (id := 0) (by kernel_rfl) ?_
  refine J.loopI (σ := (List S39) × Int) (γ := Hd) (f := fun m_ s_ => haywainlaw13_As.l1 K a0 m_ s_) (fun s1 g1 => [(1, .pointer (some ⟨p0_0, 0, none⟩)), (3, .slice g1.1 s1.1.length g1.2), (4, .int .i64 s1.2)]) (fun s1 g1 => St X w [] [⟨p0_0, [.slice h0.1 a0.f0.length h0.2], 24⟩] [mkRow kd39 39 (.slice g1.1 s1.1.length g1.2) s1.1] [] [Rd kd43 h0.1 h0.2 a0.f0]) K (([] : List S39), 0) (none, 0) (by kernel_rfl) H (fun _ => rfl) (fun m_ s1 H ih1 g1 => ?_) (fun h_ => ?_)
  · unfold haywainlaw13_As.l1 at H
    refine J.seq (by kernel_rfl) ?_
    refine J.seq (by kernel_rfl) ?_
    refine J.region (by kernel_rfl) ?_
    refine O.pure 5 [(0, 0)] [1, 3, 4, 10] [p0_0, 0] (fr' := [(1, .pointer (some ⟨p0_0, 0, none⟩)), (3, .slice g1.1 s1.1.length g1.2), (4, .int .i64 s1.2), (10, .bool (decide (s1.2 < (a0.f0.length : Int))))]) (bx' := [⟨p0_0, [.slice h0.1 a0.f0.length h0.2], 24⟩]) (by kernel_rfl) ?_
    refine O.nil (by kernel_rfl) ?_
    rcases condE H with ⟨hc4, H⟩ | ⟨hc4, H⟩
    · refine J.condT (x := .tmp 10) (t := (decide (s1.2 < (a0.f0.length : Int)))) (by kernel_rfl) (by kernel_rfl) hc4 ?_
      refine J.skip (by kernel_rfl) ?_
      refine J.seq (by kernel_rfl) ?_
      refine J.block (id := 1) (by kernel_rfl) ?_
      refine J.seq (by kernel_rfl) ?_
      obtain ⟨x5_3, hx5_3, H⟩ := bindE H
      obtain ⟨hx5_3a, hx5_3⟩ := idxE hx5_3
      refine J.region (by kernel_rfl) ?_
      refine O.pure 3 [(0, 0)] [1, 3, 4, 14, 15] [p0_0, 0] (fr' := [(1, .pointer (some ⟨p0_0, 0, none⟩)), (3, .slice g1.1 s1.1.length g1.2), (4, .int .i64 s1.2), (14, .slice h0.1 a0.f0.length h0.2), (15, .int .i64 s1.2)]) (bx' := [⟨p0_0, [.slice h0.1 a0.f0.length h0.2], 24⟩]) (by kernel_rfl) ?_
      refine O.open (d := kd43) (h := h0) (i := s1.2) 0 rfl hx5_3 (op43 _) (fun p5_3 hp5_3A => ?_)
      refine O.q (v := .pointer (some ⟨p5_3.1, p5_3.2.1 + s1.2.toNat * 3, none⟩)) (some 16) (Qu.idx (t := 22) (x := .tmp 14) (y := .tmp 15) (c := h0.2) (kk := .i64) (sz := 3) (by kernel_rfl) (by kernel_rfl) (by kernel_rfl) (by kernel_rfl) hx5_3a (idx_lt hx5_3) hp5_3A) (by kernel_rfl) ?_
      refine O.pure 1 [(1, 0)] [1, 3, 4, 17] [p5_3.1, p5_3.2.1 + s1.2.toNat * 3] (fr' := [(1, .pointer (some ⟨p0_0, 0, none⟩)), (3, .slice g1.1 s1.1.length g1.2), (4, .int .i64 s1.2), (17, .agg #[.string x5_3.f0, .slice p5_3.2.2.1 x5_3.f1.length p5_3.2.2.2, .int .i64 x5_3.f2])]) (bx' := [⟨p0_0, [.slice h0.1 a0.f0.length h0.2], 24⟩]) (by kernel_rfl) ?_
      refine O.e (some 5) (Ev.alloc (t := 43) (z := .agg #[.string (⟨#[]⟩ : ByteArray), .slice none 0 0, .int .i64 0]) (by kernel_rfl) (by kernel_rfl)) (by kernel_rfl) (fun p5_5 => ?_)
      refine O.pure 1 [(0, 0)] [1, 3, 4, 5] [p5_5, 0] (fr' := [(1, .pointer (some ⟨p0_0, 0, none⟩)), (3, .slice g1.1 s1.1.length g1.2), (4, .int .i64 s1.2), (5, .pointer (some ⟨p5_5, 0, none⟩))]) (bx' := [⟨p5_5, [.string x5_3.f0, .slice p5_3.2.2.1 x5_3.f1.length p5_3.2.2.2, .int .i64 x5_3.f2], 43⟩, ⟨p0_0, [.slice h0.1 a0.f0.length h0.2], 24⟩]) (by kernel_rfl) ?_
      refine O.nil (by kernel_rfl) ?_
      obtain ⟨y6_9, hy6_9, H⟩ := bindE H
      have hy6_9a := (appE hy6_9).1
      refine J.region (by kernel_rfl) ?_
      refine O.pure 8 [(0, 0), (0, 1), (0, 2)] [1, 3, 4, 18, 25] [p5_5, 0, p5_5, 1, p5_5, 2] (fr' := [(1, .pointer (some ⟨p0_0, 0, none⟩)), (3, .slice g1.1 s1.1.length g1.2), (4, .int .i64 s1.2), (18, .slice g1.1 s1.1.length g1.2), (25, .agg #[.string x5_3.f0, .slice p5_3.2.2.1 x5_3.f1.length p5_3.2.2.2, .int .i64 x5_3.f2])]) (bx' := [⟨p5_5, [.string x5_3.f0, .slice p5_3.2.2.1 x5_3.f1.length p5_3.2.2.2, .int .i64 x5_3.f2], 43⟩, ⟨p0_0, [.slice h0.1 a0.f0.length h0.2], 24⟩]) (by kernel_rfl) ?_
      refine O.e (some 26) (Ev.lit (t := 27) (len := 1) (parts := #[(0, .tmp 25)]) (ps := [(0, .agg #[.string x5_3.f0, .slice p5_3.2.2.1 x5_3.f1.length p5_3.2.2.2, .int .i64 x5_3.f2])]) (cs := [.string x5_3.f0, .slice p5_3.2.2.1 x5_3.f1.length p5_3.2.2.2, .int .i64 x5_3.f2]) (e := 39) kd39 ([(⟨x5_3.f0, x5_3.f1, x5_3.f2⟩ : S39)] : List S39) (by kernel_rfl) (by kernel_rfl) (by kernel_rfl) (by kernel_rfl) (by kernel_rfl) (by decide) (fun w' hφ => (Els.cons (c := [.string x5_3.f0, .slice p5_3.2.2.1 x5_3.f1.length p5_3.2.2.2, .int .i64 x5_3.f2]) (⟨p5_3.2.2, rfl, hφ _ (List.mem_of_getElem? (i := 0) rfl)⟩) (Els.nil _ _ _)))) (by kernel_rfl) (fun p6_8 => ?_)
      refine O.e (some 27) (Ev.appLit (x := .tmp 18) (y := .tmp 26) (t := 27) (bytes := 48) (by kernel_rfl) (by kernel_rfl) (by kernel_rfl) (by kernel_rfl) (by kernel_rfl) (by decide) hy6_9a) (by kernel_rfl) (fun p6_9 => ?_)
      refine O.pure 1 [] [1, 3, 4] [] (fr' := [(1, .pointer (some ⟨p0_0, 0, none⟩)), (3, .slice p6_9.1 (s1.1 ++ ([(⟨x5_3.f0, x5_3.f1, x5_3.f2⟩ : S39)] : List S39)).length p6_9.2), (4, .int .i64 s1.2)]) (bx' := [⟨p5_5, [.string x5_3.f0, .slice p5_3.2.2.1 x5_3.f1.length p5_3.2.2.2, .int .i64 x5_3.f2], 43⟩, ⟨p0_0, [.slice h0.1 a0.f0.length h0.2], 24⟩]) (by kernel_rfl) ?_
      refine O.nil (by kernel_rfl) ?_
      refine J.out ?_
      refine J.region (by kernel_rfl) ?_
      refine O.pure 3 [] [1, 3, 4] [] (fr' := [(1, .pointer (some ⟨p0_0, 0, none⟩)), (3, .slice p6_9.1 (s1.1 ++ ([(⟨x5_3.f0, x5_3.f1, x5_3.f2⟩ : S39)] : List S39)).length p6_9.2), (4, .int .i64 (IntKind.wrap .i64 (s1.2 + 1)))]) (bx' := [⟨p5_5, [.string x5_3.f0, .slice p5_3.2.2.1 x5_3.f1.length p5_3.2.2.2, .int .i64 x5_3.f2], 43⟩, ⟨p0_0, [.slice h0.1 a0.f0.length h0.2], 24⟩]) (by kernel_rfl) ?_
      refine O.nil (by kernel_rfl) ?_
      exact J.conv2 [1, 3, 4] [1] [1] [0] (by kernel_rfl) (by kernel_rfl) (by kernel_rfl) (by kernel_rfl) (by decide) (ih1 ((s1.1 ++ ([(⟨x5_3.f0, x5_3.f1, x5_3.f2⟩ : S39)] : List S39)), (IntKind.wrap .i64 (s1.2 + 1))) p6_9 H)
    · refine J.condF (x := .tmp 10) (t := (decide (s1.2 < (a0.f0.length : Int)))) (by kernel_rfl) (by kernel_rfl) hc4 ?_
      refine J.exit (id := 0) (by kernel_rfl) rfl ?_
      refine J.seq (by kernel_rfl) ?_
      refine J.region (by kernel_rfl) ?_
      refine O.pure 2 [] [2] [] (fr' := [(2, .slice g1.1 s1.1.length g1.2)]) (bx' := [⟨p0_0, [.slice h0.1 a0.f0.length h0.2], 24⟩]) (by kernel_rfl) ?_
      refine O.nil (by kernel_rfl) ?_
      obtain rfl := Option.some.inj H
      exact J.doneS [] [] [] [] [0] g1 (vs := [.slice g1.1 s1.1.length g1.2]) (by kernel_rfl) (by kernel_rfl) (by kernel_rfl) (by kernel_rfl) (by kernel_rfl) (by decide)
  · refine J.nilrow kd39 39 ?_
    exact J.conv2 [1, 3, 4] [0] [0] [0] (by kernel_rfl) (by kernel_rfl) (by kernel_rfl) (by kernel_rfl) (by decide) h_
/-! ### haywain/haywainref13.Has: function 14 -/
def haywainref13_Has.l1 (K : Nat) (a0 : List S39) (a1 : ByteArray) : Nat → Int → Option Bool
  | 0, _ => none
  | k + 1, s1 => cond (decide (s1 < (a0.length : Int))) ((idxO a0 s1).bind fun x4_2 => cond (x4_2.f0.toList == a1.toList) (some (true)) (haywainref13_Has.l1 K a0 a1 k (IntKind.wrap .i64 (s1 + 1)))) (some (false))
def haywainref13_Has.f (K : Nat) (a0 : List S39) (a1 : ByteArray) : Option Bool := haywainref13_Has.l1 K a0 a1 K 0
set_option maxRecDepth 100000 in
set_option maxHeartbeats 1000000 in
theorem haywainref13_Has.con (K : Nat) (a0 : List S39) (a1 : ByteArray) (h0 : Hd) (r : Bool) (X : Nat → Nat → Prop) (w : World) (hS : St X w [] [] [] [] [Rd kd39 h0.1 h0.2 a0] w) (H : haywainref13_Has.f K a0 a1 = some r) :
    Cn Try.prog 14 [.slice h0.1 a0.length h0.2, .string a1] X w [] (fun i : Unit => .bool r) (fun i => []) (fun i => []) (fun i => []) := by
  refine Cn.of Try.func14 (by kernel_rfl) hS ?_
  unfold haywainref13_Has.f at H
  refine J.seq (by kernel_rfl) ?_
  refine J.region (by kernel_rfl) ?_
  refine O.pure 1 [] [0, 1] [] (fr' := [(0, .slice h0.1 a0.length h0.2), (1, .string a1)]) (bx' := []) (by kernel_rfl) ?_
  refine O.nil (by kernel_rfl) ?_
  refine J.seq (by kernel_rfl) ?_
  refine J.seq (by kernel_rfl) ?_
  refine J.region (by kernel_rfl) ?_
  refine O.pure 1 [] [0, 1, 5] [] (fr' := [(0, .slice h0.1 a0.length h0.2), (1, .string a1), (5, .int .i64 0)]) (bx' := []) (by kernel_rfl) ?_
  refine O.nil (by kernel_rfl) ?_
  refine J.block (id := 0) (by kernel_rfl) ?_
  refine J.loopI (σ := Int) (γ := Unit) (f := fun m_ s_ => haywainref13_Has.l1 K a0 a1 m_ s_) (fun s1 g1 => [(0, .slice h0.1 a0.length h0.2), (1, .string a1), (5, .int .i64 s1)]) (fun s1 g1 => St X w [] [] [] [] [Rd kd39 h0.1 h0.2 a0]) K 0 () (by kernel_rfl) H (fun _ => rfl) (fun m_ s1 H ih1 g1 => ?_) (fun h_ => ?_)
  · unfold haywainref13_Has.l1 at H
    refine J.seq (by kernel_rfl) ?_
    refine J.seq (by kernel_rfl) ?_
    refine J.region (by kernel_rfl) ?_
    refine O.pure 4 [] [0, 1, 5, 9] [] (fr' := [(0, .slice h0.1 a0.length h0.2), (1, .string a1), (5, .int .i64 s1), (9, .bool (decide (s1 < (a0.length : Int))))]) (bx' := []) (by kernel_rfl) ?_
    refine O.nil (by kernel_rfl) ?_
    rcases condE H with ⟨hc6, H⟩ | ⟨hc6, H⟩
    · refine J.condT (x := .tmp 9) (t := (decide (s1 < (a0.length : Int)))) (by kernel_rfl) (by kernel_rfl) hc6 ?_
      refine J.skip (by kernel_rfl) ?_
      refine J.seq (by kernel_rfl) ?_
      refine J.block (id := 1) (by kernel_rfl) ?_
      refine J.seq (by kernel_rfl) ?_
      obtain ⟨x4_2, hx4_2, H⟩ := bindE H
      obtain ⟨hx4_2a, hx4_2⟩ := idxE hx4_2
      refine J.region (by kernel_rfl) ?_
      refine O.pure 2 [] [0, 1, 5, 12, 13] [] (fr' := [(0, .slice h0.1 a0.length h0.2), (1, .string a1), (5, .int .i64 s1), (12, .slice h0.1 a0.length h0.2), (13, .int .i64 s1)]) (bx' := []) (by kernel_rfl) ?_
      refine O.open (d := kd39) (h := h0) (i := s1) 0 rfl hx4_2 (op39 _) (fun p4_2 hp4_2A => ?_)
      refine O.q (v := .pointer (some ⟨p4_2.1, p4_2.2.1 + s1.toNat * 3, none⟩)) (some 14) (Qu.idx (t := 27) (x := .tmp 12) (y := .tmp 13) (c := h0.2) (kk := .i64) (sz := 3) (by kernel_rfl) (by kernel_rfl) (by kernel_rfl) (by kernel_rfl) hx4_2a (idx_lt hx4_2) hp4_2A) (by kernel_rfl) ?_
      refine O.pure 4 [(0, 0)] [0, 1, 5, 18] [p4_2.1, p4_2.2.1 + s1.toNat * 3] (fr' := [(0, .slice h0.1 a0.length h0.2), (1, .string a1), (5, .int .i64 s1), (18, .bool (x4_2.f0.toList == a1.toList))]) (bx' := []) (by kernel_rfl) ?_
      refine O.nil (by kernel_rfl) ?_
      rcases condE H with ⟨hc7, H⟩ | ⟨hc7, H⟩
      · refine J.condT (x := .tmp 18) (t := (x4_2.f0.toList == a1.toList)) (by kernel_rfl) (by kernel_rfl) hc7 ?_
        refine J.seq (by kernel_rfl) ?_
        refine J.region (by kernel_rfl) ?_
        refine O.pure 1 [] [4] [] (fr' := [(4, .bool true)]) (bx' := []) (by kernel_rfl) ?_
        refine O.nil (by kernel_rfl) ?_
        obtain rfl := Option.some.inj H
        exact J.doneS [] [] [] [] [] () (vs := [.bool true]) (by kernel_rfl) (by kernel_rfl) (by kernel_rfl) (by kernel_rfl) (by kernel_rfl) (by decide)
      · refine J.condF (x := .tmp 18) (t := (x4_2.f0.toList == a1.toList)) (by kernel_rfl) (by kernel_rfl) hc7 ?_
        refine J.skip (by kernel_rfl) ?_
        refine J.out ?_
        refine J.region (by kernel_rfl) ?_
        refine O.pure 3 [] [0, 1, 5] [] (fr' := [(0, .slice h0.1 a0.length h0.2), (1, .string a1), (5, .int .i64 (IntKind.wrap .i64 (s1 + 1)))]) (bx' := []) (by kernel_rfl) ?_
        refine O.nil (by kernel_rfl) ?_
        exact J.conv2 [0, 1, 5] [1] [] [] (by kernel_rfl) (by kernel_rfl) (by kernel_rfl) (by kernel_rfl) (by decide) (ih1 (IntKind.wrap .i64 (s1 + 1)) () H)
    · refine J.condF (x := .tmp 9) (t := (decide (s1 < (a0.length : Int)))) (by kernel_rfl) (by kernel_rfl) hc6 ?_
      refine J.exit (id := 0) (by kernel_rfl) rfl ?_
      refine J.seq (by kernel_rfl) ?_
      refine J.region (by kernel_rfl) ?_
      refine O.pure 1 [] [4] [] (fr' := [(4, .bool false)]) (bx' := []) (by kernel_rfl) ?_
      refine O.nil (by kernel_rfl) ?_
      obtain rfl := Option.some.inj H
      exact J.doneS [] [] [] [] [] () (vs := [.bool false]) (by kernel_rfl) (by kernel_rfl) (by kernel_rfl) (by kernel_rfl) (by kernel_rfl) (by decide)
  · exact J.conv2 [0, 1, 5] [0] [] [] (by kernel_rfl) (by kernel_rfl) (by kernel_rfl) (by kernel_rfl) (by decide) h_
/-! ### haywain/haywainref13.Get: function 15 -/
def haywainref13_Get.l1 (K : Nat) (a0 : List S39) (a1 : ByteArray) : Nat → Int → Option (List Int)
  | 0, _ => none
  | k + 1, s1 => cond (decide (s1 < (a0.length : Int))) ((idxO a0 s1).bind fun x4_2 => cond (x4_2.f0.toList == a1.toList) ((idxO a0 s1).bind fun x5_2 => some (x5_2.f1)) (haywainref13_Get.l1 K a0 a1 k (IntKind.wrap .i64 (s1 + 1)))) (some (([] : List Int)))
def haywainref13_Get.f (K : Nat) (a0 : List S39) (a1 : ByteArray) : Option (List Int) := haywainref13_Get.l1 K a0 a1 K 0
set_option maxRecDepth 100000 in
set_option maxHeartbeats 1000000 in
theorem haywainref13_Get.con (K : Nat) (a0 : List S39) (a1 : ByteArray) (h0 : Hd) (r : (List Int)) (X : Nat → Nat → Prop) (w : World) (hS : St X w [] [] [] [] [Rd kd39 h0.1 h0.2 a0] w) (H : haywainref13_Get.f K a0 a1 = some r) :
    Cn Try.prog 15 [.slice h0.1 a0.length h0.2, .string a1] X w [] (fun i : Hd => .slice i.1 r.length i.2) (fun i => []) (fun i => []) (fun i => [Rd (Kd.int .u8) i.1 i.2 r]) := by
  refine Cn.of Try.func15 (by kernel_rfl) hS ?_
  unfold haywainref13_Get.f at H
  refine J.seq (by kernel_rfl) ?_
  refine J.region (by kernel_rfl) ?_
  refine O.pure 1 [] [0, 1] [] (fr' := [(0, .slice h0.1 a0.length h0.2), (1, .string a1)]) (bx' := []) (by kernel_rfl) ?_
  refine O.nil (by kernel_rfl) ?_
  refine J.seq (by kernel_rfl) ?_
  refine J.seq (by kernel_rfl) ?_
  refine J.region (by kernel_rfl) ?_
  refine O.pure 1 [] [0, 1, 5] [] (fr' := [(0, .slice h0.1 a0.length h0.2), (1, .string a1), (5, .int .i64 0)]) (bx' := []) (by kernel_rfl) ?_
  refine O.nil (by kernel_rfl) ?_
  refine J.block (id := 0) (by kernel_rfl) ?_
  refine J.loopI (σ := Int) (γ := Unit) (f := fun m_ s_ => haywainref13_Get.l1 K a0 a1 m_ s_) (fun s1 g1 => [(0, .slice h0.1 a0.length h0.2), (1, .string a1), (5, .int .i64 s1)]) (fun s1 g1 => St X w [] [] [] [] [Rd kd39 h0.1 h0.2 a0]) K 0 () (by kernel_rfl) H (fun _ => rfl) (fun m_ s1 H ih1 g1 => ?_) (fun h_ => ?_)
  · unfold haywainref13_Get.l1 at H
    refine J.seq (by kernel_rfl) ?_
    refine J.seq (by kernel_rfl) ?_
    refine J.region (by kernel_rfl) ?_
    refine O.pure 4 [] [0, 1, 5, 9] [] (fr' := [(0, .slice h0.1 a0.length h0.2), (1, .string a1), (5, .int .i64 s1), (9, .bool (decide (s1 < (a0.length : Int))))]) (bx' := []) (by kernel_rfl) ?_
    refine O.nil (by kernel_rfl) ?_
    rcases condE H with ⟨hc6, H⟩ | ⟨hc6, H⟩
    · refine J.condT (x := .tmp 9) (t := (decide (s1 < (a0.length : Int)))) (by kernel_rfl) (by kernel_rfl) hc6 ?_
      refine J.skip (by kernel_rfl) ?_
      refine J.seq (by kernel_rfl) ?_
      refine J.block (id := 1) (by kernel_rfl) ?_
      refine J.seq (by kernel_rfl) ?_
      obtain ⟨x4_2, hx4_2, H⟩ := bindE H
      obtain ⟨hx4_2a, hx4_2⟩ := idxE hx4_2
      refine J.region (by kernel_rfl) ?_
      refine O.pure 2 [] [0, 1, 5, 12, 13] [] (fr' := [(0, .slice h0.1 a0.length h0.2), (1, .string a1), (5, .int .i64 s1), (12, .slice h0.1 a0.length h0.2), (13, .int .i64 s1)]) (bx' := []) (by kernel_rfl) ?_
      refine O.open (d := kd39) (h := h0) (i := s1) 0 rfl hx4_2 (op39 _) (fun p4_2 hp4_2A => ?_)
      refine O.q (v := .pointer (some ⟨p4_2.1, p4_2.2.1 + s1.toNat * 3, none⟩)) (some 14) (Qu.idx (t := 27) (x := .tmp 12) (y := .tmp 13) (c := h0.2) (kk := .i64) (sz := 3) (by kernel_rfl) (by kernel_rfl) (by kernel_rfl) (by kernel_rfl) hx4_2a (idx_lt hx4_2) hp4_2A) (by kernel_rfl) ?_
      refine O.pure 4 [(0, 0)] [0, 1, 5, 18] [p4_2.1, p4_2.2.1 + s1.toNat * 3] (fr' := [(0, .slice h0.1 a0.length h0.2), (1, .string a1), (5, .int .i64 s1), (18, .bool (x4_2.f0.toList == a1.toList))]) (bx' := []) (by kernel_rfl) ?_
      refine O.nil (by kernel_rfl) ?_
      rcases condE H with ⟨hc7, H⟩ | ⟨hc7, H⟩
      · refine J.condT (x := .tmp 18) (t := (x4_2.f0.toList == a1.toList)) (by kernel_rfl) (by kernel_rfl) hc7 ?_
        refine J.seq (by kernel_rfl) ?_
        obtain ⟨x5_2, hx5_2, H⟩ := bindE H
        obtain ⟨hx5_2a, hx5_2⟩ := idxE hx5_2
        refine J.region (by kernel_rfl) ?_
        refine O.pure 2 [] [19, 20] [] (fr' := [(19, .slice h0.1 a0.length h0.2), (20, .int .i64 s1)]) (bx' := []) (by kernel_rfl) ?_
        refine O.open (d := kd39) (h := h0) (i := s1) 1 rfl hx5_2 (op39 _) (fun p5_2 hp5_2A => ?_)
        refine O.q (v := .pointer (some ⟨p5_2.1, p5_2.2.1 + s1.toNat * 3, none⟩)) (some 21) (Qu.idx (t := 27) (x := .tmp 19) (y := .tmp 20) (c := h0.2) (kk := .i64) (sz := 3) (by kernel_rfl) (by kernel_rfl) (by kernel_rfl) (by kernel_rfl) hx5_2a (idx_lt hx5_2) hp5_2A) (by kernel_rfl) ?_
        refine O.pure 3 [(0, 1)] [4] [p5_2.1, p5_2.2.1 + s1.toNat * 3 + 1] (fr' := [(4, .slice p5_2.2.2.1 x5_2.f1.length p5_2.2.2.2)]) (bx' := []) (by kernel_rfl) ?_
        refine O.nil (by kernel_rfl) ?_
        obtain rfl := Option.some.inj H
        exact J.doneS [] [] [0] [] [] p5_2.2.2 (vs := [.slice p5_2.2.2.1 x5_2.f1.length p5_2.2.2.2]) (by kernel_rfl) (by kernel_rfl) (by kernel_rfl) (by kernel_rfl) (by kernel_rfl) (by decide)
      · refine J.condF (x := .tmp 18) (t := (x4_2.f0.toList == a1.toList)) (by kernel_rfl) (by kernel_rfl) hc7 ?_
        refine J.skip (by kernel_rfl) ?_
        refine J.out ?_
        refine J.region (by kernel_rfl) ?_
        refine O.pure 3 [] [0, 1, 5] [] (fr' := [(0, .slice h0.1 a0.length h0.2), (1, .string a1), (5, .int .i64 (IntKind.wrap .i64 (s1 + 1)))]) (bx' := []) (by kernel_rfl) ?_
        refine O.nil (by kernel_rfl) ?_
        exact J.conv2 [0, 1, 5] [1] [] [] (by kernel_rfl) (by kernel_rfl) (by kernel_rfl) (by kernel_rfl) (by decide) (ih1 (IntKind.wrap .i64 (s1 + 1)) () H)
    · refine J.condF (x := .tmp 9) (t := (decide (s1 < (a0.length : Int)))) (by kernel_rfl) (by kernel_rfl) hc6 ?_
      refine J.exit (id := 0) (by kernel_rfl) rfl ?_
      refine J.seq (by kernel_rfl) ?_
      refine J.region (by kernel_rfl) ?_
      refine O.pure 1 [] [4] [] (fr' := [(4, .slice none 0 0)]) (bx' := []) (by kernel_rfl) ?_
      refine O.nil (by kernel_rfl) ?_
      obtain rfl := Option.some.inj H
      refine J.nilF (Kd.int .u8) ?_
      exact J.doneS [] [] [0] [] [] (none, 0) (vs := [.slice none 0 0]) (by kernel_rfl) (by kernel_rfl) (by kernel_rfl) (by kernel_rfl) (by kernel_rfl) (by decide)
  · exact J.conv2 [0, 1, 5] [0] [] [] (by kernel_rfl) (by kernel_rfl) (by kernel_rfl) (by kernel_rfl) (by decide) h_
/-! ### haywain/haywainref13.Same: function 19 -/
def haywainref13_Same.l2 (K : Nat) (a0 : List S39) (a1 : List S39) : Nat → Int → Option Bool
  | 0, _ => none
  | k + 1, s2 => cond (decide (s2 < (a0.length : Int))) ((idxO a0 s2).bind fun x6_2 => (idxO a1 s2).bind fun x6_7 => cond (!(x6_2.f0.toList == x6_7.f0.toList)) (some (false)) ((idxO a0 s2).bind fun x6_14 => (idxO a1 s2).bind fun x6_20 => cond (!((strOfNums x6_14.f1).toList == (strOfNums x6_20.f1).toList)) (some (false)) ((idxO a0 s2).bind fun x6_29 => (idxO a1 s2).bind fun x6_34 => cond (x6_29.f2 != x6_34.f2) (some (false)) (haywainref13_Same.l2 K a0 a1 k (IntKind.wrap .i64 (s2 + 1)))))) (some (true))
def haywainref13_Same.f (K : Nat) (a0 : List S39) (a1 : List S39) : Option Bool := cond ((a0.length : Int) != (a1.length : Int)) (some (false)) (haywainref13_Same.l2 K a0 a1 K 0)
set_option maxRecDepth 100000 in
set_option maxHeartbeats 1000000 in
theorem haywainref13_Same.con (K : Nat) (a0 : List S39) (a1 : List S39) (h0 : Hd) (h1 : Hd) (r : Bool) (X : Nat → Nat → Prop) (w : World) (hS : St X w [] [] [] [] [Rd kd39 h0.1 h0.2 a0, Rd kd39 h1.1 h1.2 a1] w) (H : haywainref13_Same.f K a0 a1 = some r) :
    Cn Try.prog 19 [.slice h0.1 a0.length h0.2, .slice h1.1 a1.length h1.2] X w [] (fun i : Unit => .bool r) (fun i => []) (fun i => []) (fun i => []) := by
  refine Cn.of Try.func19 (by kernel_rfl) hS ?_
  unfold haywainref13_Same.f at H
  refine J.seq (by kernel_rfl) ?_
  refine J.region (by kernel_rfl) ?_
  refine O.pure 1 [] [0, 1] [] (fr' := [(0, .slice h0.1 a0.length h0.2), (1, .slice h1.1 a1.length h1.2)]) (bx' := []) (by kernel_rfl) ?_
  refine O.nil (by kernel_rfl) ?_
  refine J.seq (by kernel_rfl) ?_
  refine J.seq (by kernel_rfl) ?_
  refine J.region (by kernel_rfl) ?_
  refine O.pure 5 [] [0, 1, 10] [] (fr' := [(0, .slice h0.1 a0.length h0.2), (1, .slice h1.1 a1.length h1.2), (10, .bool ((a0.length : Int) != (a1.length : Int)))]) (bx' := []) (by kernel_rfl) ?_
  refine O.nil (by kernel_rfl) ?_
  rcases condE H with ⟨hc1, H⟩ | ⟨hc1, H⟩
  · refine J.condT (x := .tmp 10) (t := ((a0.length : Int) != (a1.length : Int))) (by kernel_rfl) (by kernel_rfl) hc1 ?_
    refine J.seq (by kernel_rfl) ?_
    refine J.region (by kernel_rfl) ?_
    refine O.pure 1 [] [4] [] (fr' := [(4, .bool false)]) (bx' := []) (by kernel_rfl) ?_
    refine O.nil (by kernel_rfl) ?_
    obtain rfl := Option.some.inj H
    exact J.doneS [] [] [] [] [] () (vs := [.bool false]) (by kernel_rfl) (by kernel_rfl) (by kernel_rfl) (by kernel_rfl) (by kernel_rfl) (by decide)
  · refine J.condF (x := .tmp 10) (t := ((a0.length : Int) != (a1.length : Int))) (by kernel_rfl) (by kernel_rfl) hc1 ?_
    refine J.skip (by kernel_rfl) ?_
    refine J.seq (by kernel_rfl) ?_
    refine J.seq (by kernel_rfl) ?_
    refine J.region (by kernel_rfl) ?_
    refine O.pure 1 [] [0, 1, 5] [] (fr' := [(0, .slice h0.1 a0.length h0.2), (1, .slice h1.1 a1.length h1.2), (5, .int .i64 0)]) (bx' := []) (by kernel_rfl) ?_
    refine O.nil (by kernel_rfl) ?_
    refine J.block (id := 0) (by kernel_rfl) ?_
    refine J.loopI (σ := Int) (γ := Unit) (f := fun m_ s_ => haywainref13_Same.l2 K a0 a1 m_ s_) (fun s2 g2 => [(0, .slice h0.1 a0.length h0.2), (1, .slice h1.1 a1.length h1.2), (5, .int .i64 s2)]) (fun s2 g2 => St X w [] [] [] [] [Rd kd39 h0.1 h0.2 a0, Rd kd39 h1.1 h1.2 a1]) K 0 () (by kernel_rfl) H (fun _ => rfl) (fun m_ s2 H ih2 g2 => ?_) (fun h_ => ?_)
    · unfold haywainref13_Same.l2 at H
      refine J.seq (by kernel_rfl) ?_
      refine J.seq (by kernel_rfl) ?_
      refine J.region (by kernel_rfl) ?_
      refine O.pure 4 [] [0, 1, 5, 14] [] (fr' := [(0, .slice h0.1 a0.length h0.2), (1, .slice h1.1 a1.length h1.2), (5, .int .i64 s2), (14, .bool (decide (s2 < (a0.length : Int))))]) (bx' := []) (by kernel_rfl) ?_
      refine O.nil (by kernel_rfl) ?_
      rcases condE H with ⟨hc11, H⟩ | ⟨hc11, H⟩
      · refine J.condT (x := .tmp 14) (t := (decide (s2 < (a0.length : Int)))) (by kernel_rfl) (by kernel_rfl) hc11 ?_
        refine J.skip (by kernel_rfl) ?_
        refine J.seq (by kernel_rfl) ?_
        refine J.block (id := 1) (by kernel_rfl) ?_
        refine J.seq (by kernel_rfl) ?_
        obtain ⟨x6_2, hx6_2, H⟩ := bindE H
        obtain ⟨hx6_2a, hx6_2⟩ := idxE hx6_2
        obtain ⟨x6_7, hx6_7, H⟩ := bindE H
        obtain ⟨hx6_7a, hx6_7⟩ := idxE hx6_7
        rcases condE H with ⟨hc12, H⟩ | ⟨hc12, H⟩
        · refine J.open (d := kd39) (h := h0) (i := s2) 0 rfl hx6_2 (op39 _) (fun p6_2 hp6_2A => ?_)
          refine J.open (d := kd39) (h := h1) (i := s2) 2 rfl hx6_7 (op39 _) (fun p6_7 hp6_7A => ?_)
          refine J.drawS (by kernel_rfl) [(0, some 17, .slice h0.1 a0.length h0.2), (1, some 18, .int .i64 s2), (3, some 20, .pointer (some ⟨p6_2.1, p6_2.2.1 + s2.toNat * 3, none⟩)), (4, some 21, .string x6_2.f0), (5, some 22, .slice h1.1 a1.length h1.2), (6, some 23, .int .i64 s2), (8, some 25, .pointer (some ⟨p6_7.1, p6_7.2.1 + s2.toNat * 3, none⟩)), (9, some 26, .string x6_7.f0), (11, some 28, .bool true), (12, some 29, undef), (13, some 30, undef), (14, some 31, undef), (15, some 32, undef), (16, some 33, undef), (17, some 34, undef), (18, some 35, undef), (19, some 36, undef), (20, some 37, undef), (21, some 38, undef), (22, some 39, undef), (23, some 40, undef), (24, some 41, undef), (25, some 42, .bool true), (26, some 43, .bool true), (27, some 44, undef), (28, some 45, undef), (29, some 46, undef), (30, some 47, undef), (31, some 48, undef), (32, some 49, undef), (33, some 50, undef), (34, some 51, undef), (35, some 52, undef), (36, some 53, undef), (37, some 54, undef), (38, some 55, .bool true), (2, some 19, .pointer (some ⟨p6_2.1, p6_2.2.1 + s2.toNat * 3, none⟩)), (7, some 24, .pointer (some ⟨p6_7.1, p6_7.2.1 + s2.toNat * 3, none⟩)), (10, some 27, .bool true)] ([0, 1, 3, 4, 5, 6, 8, 9, 11, 12, 13, 14, 15, 16, 17, 18, 19, 20, 21, 22, 23, 24, 25, 26, 27, 28, 29, 30, 31, 32, 33, 34, 35, 36, 37, 38] ++ [2, 7, 10]) (by kernel_rfl) ?_
          refine D.fin (fr' := [(0, .slice h0.1 a0.length h0.2), (1, .slice h1.1 a1.length h1.2), (5, .int .i64 s2), (29, undef), (30, undef), (31, undef), (32, undef), (33, undef), (34, undef), (35, undef), (36, undef), (37, undef), (38, undef), (39, undef), (40, undef), (41, undef), (44, undef), (45, undef), (46, undef), (47, undef), (48, undef), (49, undef), (50, undef), (51, undef), (52, undef), (53, undef), (54, undef), (55, .bool true)]) [0, 1, 3, 4, 5, 6, 8, 9, 11, 12, 13, 14, 15, 16, 17, 18, 19, 20, 21, 22, 23, 24, 25, 26, 27, 28, 29, 30, 31, 32, 33, 34, 35, 36, 37, 38] [2, 7, 10] [(1, 0), (0, 0)] [p6_2.1, p6_2.2.1 + s2.toNat * 3, p6_7.1, p6_7.2.1 + s2.toNat * 3] [0, 1, 5, 29, 30, 31, 32, 33, 34, 35, 36, 37, 38, 39, 40, 41, 44, 45, 46, 47, 48, 49, 50, 51, 52, 53, 54, 55] (by kernel_rfl) (by kernel_rfl) (⟨QuAt.mk (v := .pointer (some ⟨p6_2.1, p6_2.2.1 + s2.toNat * 3, none⟩)) (some 19) (by kernel_rfl) (by kernel_rfl) (Qu.idx (t := 27) (x := .tmp 17) (y := .tmp 18) (c := h0.2) (kk := .i64) (sz := 3) (by kernel_rfl) (by kernel_rfl) (by kernel_rfl) (by kernel_rfl) hx6_2a (idx_lt hx6_2) hp6_2A), QuAt.mk (v := .pointer (some ⟨p6_7.1, p6_7.2.1 + s2.toNat * 3, none⟩)) (some 24) (by kernel_rfl) (by kernel_rfl) (Qu.idx (t := 27) (x := .tmp 22) (y := .tmp 23) (c := h1.2) (kk := .i64) (sz := 3) (by kernel_rfl) (by kernel_rfl) (by kernel_rfl) (by kernel_rfl) hx6_7a (idx_lt hx6_7) hp6_7A), QuAt.mk (v := .bool true) (some 27) (by kernel_rfl) (by kernel_rfl) (Qu.eqv (u := .bool (!(x6_2.f0.toList == x6_7.f0.toList))) (v := .bool true) (0, 0) [] (by kernel_rfl) (congrArg Value.bool hc12)), trivial⟩) (by kernel_rfl) ?_
          refine J.cond (o := .tmp 55) true (by kernel_rfl) (by kernel_rfl) ?_
          refine J.seq (by kernel_rfl) ?_
          refine J.region (by kernel_rfl) ?_
          refine O.pure 1 [] [4] [] (fr' := [(4, .bool false)]) (bx' := []) (by kernel_rfl) ?_
          refine O.nil (by kernel_rfl) ?_
          obtain rfl := Option.some.inj H
          exact J.doneS [] [] [] [] [] () (vs := [.bool false]) (by kernel_rfl) (by kernel_rfl) (by kernel_rfl) (by kernel_rfl) (by kernel_rfl) (by decide)
        · obtain ⟨x6_14, hx6_14, H⟩ := bindE H
          obtain ⟨hx6_14a, hx6_14⟩ := idxE hx6_14
          obtain ⟨x6_20, hx6_20, H⟩ := bindE H
          obtain ⟨hx6_20a, hx6_20⟩ := idxE hx6_20
          rcases condE H with ⟨hc13, H⟩ | ⟨hc13, H⟩
          · refine J.open (d := kd39) (h := h0) (i := s2) 0 rfl hx6_2 (op39 _) (fun p6_2 hp6_2A => ?_)
            refine J.open (d := kd39) (h := h1) (i := s2) 2 rfl hx6_7 (op39 _) (fun p6_7 hp6_7A => ?_)
            refine J.open (d := kd39) (h := h0) (i := s2) 2 rfl hx6_14 (op39 _) (fun p6_14 hp6_14A => ?_)
            refine J.open (d := kd39) (h := h1) (i := s2) 4 rfl hx6_20 (op39 _) (fun p6_20 hp6_20A => ?_)
            refine J.drawS (by kernel_rfl) [(0, some 17, .slice h0.1 a0.length h0.2), (1, some 18, .int .i64 s2), (3, some 20, .pointer (some ⟨p6_2.1, p6_2.2.1 + s2.toNat * 3, none⟩)), (4, some 21, .string x6_2.f0), (5, some 22, .slice h1.1 a1.length h1.2), (6, some 23, .int .i64 s2), (8, some 25, .pointer (some ⟨p6_7.1, p6_7.2.1 + s2.toNat * 3, none⟩)), (9, some 26, .string x6_7.f0), (11, some 28, .bool false), (12, some 29, .slice h0.1 a0.length h0.2), (13, some 30, .int .i64 s2), (15, some 32, .pointer (some ⟨p6_14.1, p6_14.2.1 + s2.toNat * 3 + 1, none⟩)), (16, some 33, .slice p6_14.2.2.1 x6_14.f1.length p6_14.2.2.2), (18, some 35, .slice h1.1 a1.length h1.2), (19, some 36, .int .i64 s2), (21, some 38, .pointer (some ⟨p6_20.1, p6_20.2.1 + s2.toNat * 3 + 1, none⟩)), (22, some 39, .slice p6_20.2.2.1 x6_20.f1.length p6_20.2.2.2), (25, some 42, .bool true), (26, some 43, .bool true), (27, some 44, undef), (28, some 45, undef), (29, some 46, undef), (30, some 47, undef), (31, some 48, undef), (32, some 49, undef), (33, some 50, undef), (34, some 51, undef), (35, some 52, undef), (36, some 53, undef), (37, some 54, undef), (38, some 55, .bool true), (2, some 19, .pointer (some ⟨p6_2.1, p6_2.2.1 + s2.toNat * 3, none⟩)), (7, some 24, .pointer (some ⟨p6_7.1, p6_7.2.1 + s2.toNat * 3, none⟩)), (10, some 27, .bool false), (14, some 31, .pointer (some ⟨p6_14.1, p6_14.2.1 + s2.toNat * 3, none⟩)), (17, some 34, .string (strOfNums x6_14.f1)), (20, some 37, .pointer (some ⟨p6_20.1, p6_20.2.1 + s2.toNat * 3, none⟩)), (23, some 40, .string (strOfNums x6_20.f1)), (24, some 41, .bool true)] ([0, 1, 3, 4, 5, 6, 8, 9, 11, 12, 13, 15, 16, 18, 19, 21, 22, 25, 26, 27, 28, 29, 30, 31, 32, 33, 34, 35, 36, 37, 38] ++ [2, 7, 10, 14, 17, 20, 23, 24]) (by kernel_rfl) ?_
            refine D.fin (fr' := [(0, .slice h0.1 a0.length h0.2), (1, .slice h1.1 a1.length h1.2), (5, .int .i64 s2), (29, .slice h0.1 a0.length h0.2), (30, .int .i64 s2), (31, .pointer (some ⟨p6_14.1, p6_14.2.1 + s2.toNat * 3, none⟩)), (32, .pointer (some ⟨p6_14.1, p6_14.2.1 + s2.toNat * 3 + 1, none⟩)), (33, .slice p6_14.2.2.1 x6_14.f1.length p6_14.2.2.2), (34, .string (strOfNums x6_14.f1)), (35, .slice h1.1 a1.length h1.2), (36, .int .i64 s2), (37, .pointer (some ⟨p6_20.1, p6_20.2.1 + s2.toNat * 3, none⟩)), (38, .pointer (some ⟨p6_20.1, p6_20.2.1 + s2.toNat * 3 + 1, none⟩)), (39, .slice p6_20.2.2.1 x6_20.f1.length p6_20.2.2.2), (40, .string (strOfNums x6_20.f1)), (41, .bool true), (44, undef), (45, undef), (46, undef), (47, undef), (48, undef), (49, undef), (50, undef), (51, undef), (52, undef), (53, undef), (54, undef), (55, .bool true)]) [0, 1, 3, 4, 5, 6, 8, 9, 11, 12, 13, 15, 16, 18, 19, 21, 22, 25, 26, 27, 28, 29, 30, 31, 32, 33, 34, 35, 36, 37, 38] [2, 7, 10, 14, 17, 20, 23, 24] [(3, 0), (2, 0), (1, 1), (0, 1)] [p6_2.1, p6_2.2.1 + s2.toNat * 3, p6_7.1, p6_7.2.1 + s2.toNat * 3, p6_14.1, p6_14.2.1 + s2.toNat * 3 + 1, p6_20.1, p6_20.2.1 + s2.toNat * 3 + 1] [0, 1, 5, 29, 30, 31, 32, 33, 34, 35, 36, 37, 38, 39, 40, 41, 44, 45, 46, 47, 48, 49, 50, 51, 52, 53, 54, 55] (by kernel_rfl) (by kernel_rfl) (⟨QuAt.mk (v := .pointer (some ⟨p6_2.1, p6_2.2.1 + s2.toNat * 3, none⟩)) (some 19) (by kernel_rfl) (by kernel_rfl) (Qu.idx (t := 27) (x := .tmp 17) (y := .tmp 18) (c := h0.2) (kk := .i64) (sz := 3) (by kernel_rfl) (by kernel_rfl) (by kernel_rfl) (by kernel_rfl) hx6_2a (idx_lt hx6_2) hp6_2A), QuAt.mk (v := .pointer (some ⟨p6_7.1, p6_7.2.1 + s2.toNat * 3, none⟩)) (some 24) (by kernel_rfl) (by kernel_rfl) (Qu.idx (t := 27) (x := .tmp 22) (y := .tmp 23) (c := h1.2) (kk := .i64) (sz := 3) (by kernel_rfl) (by kernel_rfl) (by kernel_rfl) (by kernel_rfl) hx6_7a (idx_lt hx6_7) hp6_7A), QuAt.mk (v := .bool false) (some 27) (by kernel_rfl) (by kernel_rfl) (Qu.eqv (u := .bool (!(x6_2.f0.toList == x6_7.f0.toList))) (v := .bool false) (0, 0) [] (by kernel_rfl) (congrArg Value.bool hc12)), QuAt.mk (v := .pointer (some ⟨p6_14.1, p6_14.2.1 + s2.toNat * 3, none⟩)) (some 31) (by kernel_rfl) (by kernel_rfl) (Qu.idx (t := 27) (x := .tmp 29) (y := .tmp 30) (c := h0.2) (kk := .i64) (sz := 3) (by kernel_rfl) (by kernel_rfl) (by kernel_rfl) (by kernel_rfl) hx6_14a (idx_lt hx6_14) hp6_14A), QuAt.mk (v := .string (strOfNums x6_14.f1)) (some 34) (by kernel_rfl) (by kernel_rfl) (Qu.str (t := 30) (u := 9) (x := .tmp 33) (h := p6_14.2.2) (xs := x6_14.f1) 1 (by kernel_rfl) (by kernel_rfl) (by kernel_rfl) (by kernel_rfl) rfl), QuAt.mk (v := .pointer (some ⟨p6_20.1, p6_20.2.1 + s2.toNat * 3, none⟩)) (some 37) (by kernel_rfl) (by kernel_rfl) (Qu.idx (t := 27) (x := .tmp 35) (y := .tmp 36) (c := h1.2) (kk := .i64) (sz := 3) (by kernel_rfl) (by kernel_rfl) (by kernel_rfl) (by kernel_rfl) hx6_20a (idx_lt hx6_20) hp6_20A), QuAt.mk (v := .string (strOfNums x6_20.f1)) (some 40) (by kernel_rfl) (by kernel_rfl) (Qu.str (t := 30) (u := 9) (x := .tmp 39) (h := p6_20.2.2) (xs := x6_20.f1) 0 (by kernel_rfl) (by kernel_rfl) (by kernel_rfl) (by kernel_rfl) rfl), QuAt.mk (v := .bool true) (some 41) (by kernel_rfl) (by kernel_rfl) (Qu.eqv (u := .bool (!((strOfNums x6_14.f1).toList == (strOfNums x6_20.f1).toList))) (v := .bool true) (0, 0) [] (by kernel_rfl) (congrArg Value.bool hc13)), trivial⟩) (by kernel_rfl) ?_
            refine J.cond (o := .tmp 55) true (by kernel_rfl) (by kernel_rfl) ?_
            refine J.seq (by kernel_rfl) ?_
            refine J.region (by kernel_rfl) ?_
            refine O.pure 1 [] [4] [] (fr' := [(4, .bool false)]) (bx' := []) (by kernel_rfl) ?_
            refine O.nil (by kernel_rfl) ?_
            obtain rfl := Option.some.inj H
            exact J.doneS [] [] [] [] [] () (vs := [.bool false]) (by kernel_rfl) (by kernel_rfl) (by kernel_rfl) (by kernel_rfl) (by kernel_rfl) (by decide)
          · obtain ⟨x6_29, hx6_29, H⟩ := bindE H
            obtain ⟨hx6_29a, hx6_29⟩ := idxE hx6_29
            obtain ⟨x6_34, hx6_34, H⟩ := bindE H
            obtain ⟨hx6_34a, hx6_34⟩ := idxE hx6_34
            refine J.open (d := kd39) (h := h0) (i := s2) 0 rfl hx6_2 (op39 _) (fun p6_2 hp6_2A => ?_)
            refine J.open (d := kd39) (h := h1) (i := s2) 2 rfl hx6_7 (op39 _) (fun p6_7 hp6_7A => ?_)
            refine J.open (d := kd39) (h := h0) (i := s2) 2 rfl hx6_14 (op39 _) (fun p6_14 hp6_14A => ?_)
            refine J.open (d := kd39) (h := h1) (i := s2) 4 rfl hx6_20 (op39 _) (fun p6_20 hp6_20A => ?_)
            refine J.open (d := kd39) (h := h0) (i := s2) 4 rfl hx6_29 (op39 _) (fun p6_29 hp6_29A => ?_)
            refine J.open (d := kd39) (h := h1) (i := s2) 6 rfl hx6_34 (op39 _) (fun p6_34 hp6_34A => ?_)
            refine J.drawS (by kernel_rfl) [(0, some 17, .slice h0.1 a0.length h0.2), (1, some 18, .int .i64 s2), (3, some 20, .pointer (some ⟨p6_2.1, p6_2.2.1 + s2.toNat * 3, none⟩)), (4, some 21, .string x6_2.f0), (5, some 22, .slice h1.1 a1.length h1.2), (6, some 23, .int .i64 s2), (8, some 25, .pointer (some ⟨p6_7.1, p6_7.2.1 + s2.toNat * 3, none⟩)), (9, some 26, .string x6_7.f0), (11, some 28, .bool false), (12, some 29, .slice h0.1 a0.length h0.2), (13, some 30, .int .i64 s2), (15, some 32, .pointer (some ⟨p6_14.1, p6_14.2.1 + s2.toNat * 3 + 1, none⟩)), (16, some 33, .slice p6_14.2.2.1 x6_14.f1.length p6_14.2.2.2), (18, some 35, .slice h1.1 a1.length h1.2), (19, some 36, .int .i64 s2), (21, some 38, .pointer (some ⟨p6_20.1, p6_20.2.1 + s2.toNat * 3 + 1, none⟩)), (22, some 39, .slice p6_20.2.2.1 x6_20.f1.length p6_20.2.2.2), (25, some 42, .bool false), (26, some 43, .bool false), (27, some 44, .slice h0.1 a0.length h0.2), (28, some 45, .int .i64 s2), (30, some 47, .pointer (some ⟨p6_29.1, p6_29.2.1 + s2.toNat * 3 + 2, none⟩)), (31, some 48, .int .i64 x6_29.f2), (32, some 49, .slice h1.1 a1.length h1.2), (33, some 50, .int .i64 s2), (35, some 52, .pointer (some ⟨p6_34.1, p6_34.2.1 + s2.toNat * 3 + 2, none⟩)), (36, some 53, .int .i64 x6_34.f2), (37, some 54, .bool (x6_29.f2 != x6_34.f2)), (38, some 55, .bool (x6_29.f2 != x6_34.f2)), (2, some 19, .pointer (some ⟨p6_2.1, p6_2.2.1 + s2.toNat * 3, none⟩)), (7, some 24, .pointer (some ⟨p6_7.1, p6_7.2.1 + s2.toNat * 3, none⟩)), (10, some 27, .bool false), (14, some 31, .pointer (some ⟨p6_14.1, p6_14.2.1 + s2.toNat * 3, none⟩)), (17, some 34, .string (strOfNums x6_14.f1)), (20, some 37, .pointer (some ⟨p6_20.1, p6_20.2.1 + s2.toNat * 3, none⟩)), (23, some 40, .string (strOfNums x6_20.f1)), (24, some 41, .bool false), (29, some 46, .pointer (some ⟨p6_29.1, p6_29.2.1 + s2.toNat * 3, none⟩)), (34, some 51, .pointer (some ⟨p6_34.1, p6_34.2.1 + s2.toNat * 3, none⟩))] ([0, 1, 3, 4, 5, 6, 8, 9, 11, 12, 13, 15, 16, 18, 19, 21, 22, 25, 26, 27, 28, 30, 31, 32, 33, 35, 36, 37, 38] ++ [2, 7, 10, 14, 17, 20, 23, 24, 29, 34]) (by kernel_rfl) ?_
            refine D.fin (fr' := [(0, .slice h0.1 a0.length h0.2), (1, .slice h1.1 a1.length h1.2), (5, .int .i64 s2), (29, .slice h0.1 a0.length h0.2), (30, .int .i64 s2), (31, .pointer (some ⟨p6_14.1, p6_14.2.1 + s2.toNat * 3, none⟩)), (32, .pointer (some ⟨p6_14.1, p6_14.2.1 + s2.toNat * 3 + 1, none⟩)), (33, .slice p6_14.2.2.1 x6_14.f1.length p6_14.2.2.2), (34, .string (strOfNums x6_14.f1)), (35, .slice h1.1 a1.length h1.2), (36, .int .i64 s2), (37, .pointer (some ⟨p6_20.1, p6_20.2.1 + s2.toNat * 3, none⟩)), (38, .pointer (some ⟨p6_20.1, p6_20.2.1 + s2.toNat * 3 + 1, none⟩)), (39, .slice p6_20.2.2.1 x6_20.f1.length p6_20.2.2.2), (40, .string (strOfNums x6_20.f1)), (41, .bool false), (44, .slice h0.1 a0.length h0.2), (45, .int .i64 s2), (46, .pointer (some ⟨p6_29.1, p6_29.2.1 + s2.toNat * 3, none⟩)), (47, .pointer (some ⟨p6_29.1, p6_29.2.1 + s2.toNat * 3 + 2, none⟩)), (48, .int .i64 x6_29.f2), (49, .slice h1.1 a1.length h1.2), (50, .int .i64 s2), (51, .pointer (some ⟨p6_34.1, p6_34.2.1 + s2.toNat * 3, none⟩)), (52, .pointer (some ⟨p6_34.1, p6_34.2.1 + s2.toNat * 3 + 2, none⟩)), (53, .int .i64 x6_34.f2), (54, .bool (x6_29.f2 != x6_34.f2)), (55, .bool (x6_29.f2 != x6_34.f2))]) [0, 1, 3, 4, 5, 6, 8, 9, 11, 12, 13, 15, 16, 18, 19, 21, 22, 25, 26, 27, 28, 30, 31, 32, 33, 35, 36, 37, 38] [2, 7, 10, 14, 17, 20, 23, 24, 29, 34] [(5, 0), (4, 0), (3, 1), (2, 1), (1, 2), (0, 2)] [p6_2.1, p6_2.2.1 + s2.toNat * 3, p6_7.1, p6_7.2.1 + s2.toNat * 3, p6_14.1, p6_14.2.1 + s2.toNat * 3 + 1, p6_20.1, p6_20.2.1 + s2.toNat * 3 + 1, p6_29.1, p6_29.2.1 + s2.toNat * 3 + 2, p6_34.1, p6_34.2.1 + s2.toNat * 3 + 2] [0, 1, 5, 29, 30, 31, 32, 33, 34, 35, 36, 37, 38, 39, 40, 41, 44, 45, 46, 47, 48, 49, 50, 51, 52, 53, 54, 55] (by kernel_rfl) (by kernel_rfl) (⟨QuAt.mk (v := .pointer (some ⟨p6_2.1, p6_2.2.1 + s2.toNat * 3, none⟩)) (some 19) (by kernel_rfl) (by kernel_rfl) (Qu.idx (t := 27) (x := .tmp 17) (y := .tmp 18) (c := h0.2) (kk := .i64) (sz := 3) (by kernel_rfl) (by kernel_rfl) (by kernel_rfl) (by kernel_rfl) hx6_2a (idx_lt hx6_2) hp6_2A), QuAt.mk (v := .pointer (some ⟨p6_7.1, p6_7.2.1 + s2.toNat * 3, none⟩)) (some 24) (by kernel_rfl) (by kernel_rfl) (Qu.idx (t := 27) (x := .tmp 22) (y := .tmp 23) (c := h1.2) (kk := .i64) (sz := 3) (by kernel_rfl) (by kernel_rfl) (by kernel_rfl) (by kernel_rfl) hx6_7a (idx_lt hx6_7) hp6_7A), QuAt.mk (v := .bool false) (some 27) (by kernel_rfl) (by kernel_rfl) (Qu.eqv (u := .bool (!(x6_2.f0.toList == x6_7.f0.toList))) (v := .bool false) (0, 0) [] (by kernel_rfl) (congrArg Value.bool hc12)), QuAt.mk (v := .pointer (some ⟨p6_14.1, p6_14.2.1 + s2.toNat * 3, none⟩)) (some 31) (by kernel_rfl) (by kernel_rfl) (Qu.idx (t := 27) (x := .tmp 29) (y := .tmp 30) (c := h0.2) (kk := .i64) (sz := 3) (by kernel_rfl) (by kernel_rfl) (by kernel_rfl) (by kernel_rfl) hx6_14a (idx_lt hx6_14) hp6_14A), QuAt.mk (v := .string (strOfNums x6_14.f1)) (some 34) (by kernel_rfl) (by kernel_rfl) (Qu.str (t := 30) (u := 9) (x := .tmp 33) (h := p6_14.2.2) (xs := x6_14.f1) 3 (by kernel_rfl) (by kernel_rfl) (by kernel_rfl) (by kernel_rfl) rfl), QuAt.mk (v := .pointer (some ⟨p6_20.1, p6_20.2.1 + s2.toNat * 3, none⟩)) (some 37) (by kernel_rfl) (by kernel_rfl) (Qu.idx (t := 27) (x := .tmp 35) (y := .tmp 36) (c := h1.2) (kk := .i64) (sz := 3) (by kernel_rfl) (by kernel_rfl) (by kernel_rfl) (by kernel_rfl) hx6_20a (idx_lt hx6_20) hp6_20A), QuAt.mk (v := .string (strOfNums x6_20.f1)) (some 40) (by kernel_rfl) (by kernel_rfl) (Qu.str (t := 30) (u := 9) (x := .tmp 39) (h := p6_20.2.2) (xs := x6_20.f1) 2 (by kernel_rfl) (by kernel_rfl) (by kernel_rfl) (by kernel_rfl) rfl), QuAt.mk (v := .bool false) (some 41) (by kernel_rfl) (by kernel_rfl) (Qu.eqv (u := .bool (!((strOfNums x6_14.f1).toList == (strOfNums x6_20.f1).toList))) (v := .bool false) (0, 0) [] (by kernel_rfl) (congrArg Value.bool hc13)), QuAt.mk (v := .pointer (some ⟨p6_29.1, p6_29.2.1 + s2.toNat * 3, none⟩)) (some 46) (by kernel_rfl) (by kernel_rfl) (Qu.idx (t := 27) (x := .tmp 44) (y := .tmp 45) (c := h0.2) (kk := .i64) (sz := 3) (by kernel_rfl) (by kernel_rfl) (by kernel_rfl) (by kernel_rfl) hx6_29a (idx_lt hx6_29) hp6_29A), QuAt.mk (v := .pointer (some ⟨p6_34.1, p6_34.2.1 + s2.toNat * 3, none⟩)) (some 51) (by kernel_rfl) (by kernel_rfl) (Qu.idx (t := 27) (x := .tmp 49) (y := .tmp 50) (c := h1.2) (kk := .i64) (sz := 3) (by kernel_rfl) (by kernel_rfl) (by kernel_rfl) (by kernel_rfl) hx6_34a (idx_lt hx6_34) hp6_34A), trivial⟩) (by kernel_rfl) ?_
            rcases condE H with ⟨hc14, H⟩ | ⟨hc14, H⟩
            · refine J.condT (x := .tmp 55) (t := (x6_29.f2 != x6_34.f2)) (by kernel_rfl) (by kernel_rfl) hc14 ?_
              refine J.seq (by kernel_rfl) ?_
              refine J.region (by kernel_rfl) ?_
              refine O.pure 1 [] [4] [] (fr' := [(4, .bool false)]) (bx' := []) (by kernel_rfl) ?_
              refine O.nil (by kernel_rfl) ?_
              obtain rfl := Option.some.inj H
              exact J.doneS [] [] [] [] [] () (vs := [.bool false]) (by kernel_rfl) (by kernel_rfl) (by kernel_rfl) (by kernel_rfl) (by kernel_rfl) (by decide)
            · refine J.condF (x := .tmp 55) (t := (x6_29.f2 != x6_34.f2)) (by kernel_rfl) (by kernel_rfl) hc14 ?_
              refine J.skip (by kernel_rfl) ?_
              refine J.out ?_
              refine J.region (by kernel_rfl) ?_
              refine O.pure 3 [] [0, 1, 5, 29, 30, 31, 32, 33, 34, 35, 36, 37, 38, 39, 40, 41, 44, 45, 46, 47, 48, 49, 50, 51, 52, 53, 54] [] (fr' := [(0, .slice h0.1 a0.length h0.2), (1, .slice h1.1 a1.length h1.2), (5, .int .i64 (IntKind.wrap .i64 (s2 + 1))), (29, .slice h0.1 a0.length h0.2), (30, .int .i64 s2), (31, .pointer (some ⟨p6_14.1, p6_14.2.1 + s2.toNat * 3, none⟩)), (32, .pointer (some ⟨p6_14.1, p6_14.2.1 + s2.toNat * 3 + 1, none⟩)), (33, .slice p6_14.2.2.1 x6_14.f1.length p6_14.2.2.2), (34, .string (strOfNums x6_14.f1)), (35, .slice h1.1 a1.length h1.2), (36, .int .i64 s2), (37, .pointer (some ⟨p6_20.1, p6_20.2.1 + s2.toNat * 3, none⟩)), (38, .pointer (some ⟨p6_20.1, p6_20.2.1 + s2.toNat * 3 + 1, none⟩)), (39, .slice p6_20.2.2.1 x6_20.f1.length p6_20.2.2.2), (40, .string (strOfNums x6_20.f1)), (41, .bool false), (44, .slice h0.1 a0.length h0.2), (45, .int .i64 s2), (46, .pointer (some ⟨p6_29.1, p6_29.2.1 + s2.toNat * 3, none⟩)), (47, .pointer (some ⟨p6_29.1, p6_29.2.1 + s2.toNat * 3 + 2, none⟩)), (48, .int .i64 x6_29.f2), (49, .slice h1.1 a1.length h1.2), (50, .int .i64 s2), (51, .pointer (some ⟨p6_34.1, p6_34.2.1 + s2.toNat * 3, none⟩)), (52, .pointer (some ⟨p6_34.1, p6_34.2.1 + s2.toNat * 3 + 2, none⟩)), (53, .int .i64 x6_34.f2), (54, .bool (x6_29.f2 != x6_34.f2))]) (bx' := []) (by kernel_rfl) ?_
              refine O.nil (by kernel_rfl) ?_
              exact J.conv2 [0, 1, 5] [6, 7] [] [] (by kernel_rfl) (by kernel_rfl) (by kernel_rfl) (by kernel_rfl) (by decide) (ih2 (IntKind.wrap .i64 (s2 + 1)) () H)
      · refine J.condF (x := .tmp 14) (t := (decide (s2 < (a0.length : Int)))) (by kernel_rfl) (by kernel_rfl) hc11 ?_
        refine J.exit (id := 0) (by kernel_rfl) rfl ?_
        refine J.seq (by kernel_rfl) ?_
        refine J.region (by kernel_rfl) ?_
        refine O.pure 1 [] [4] [] (fr' := [(4, .bool true)]) (bx' := []) (by kernel_rfl) ?_
        refine O.nil (by kernel_rfl) ?_
        obtain rfl := Option.some.inj H
        exact J.doneS [] [] [] [] [] () (vs := [.bool true]) (by kernel_rfl) (by kernel_rfl) (by kernel_rfl) (by kernel_rfl) (by kernel_rfl) (by decide)
    · exact J.conv2 [0, 1, 5] [0, 1] [] [] (by kernel_rfl) (by kernel_rfl) (by kernel_rfl) (by kernel_rfl) (by decide) h_
/-! ### (haywain/haywainlaw13.Act).wide: function 22 -/
def haywainlaw13_Act_wide.f (K : Nat) (a0 : S52) : Option Bool := cond (decide ((a0.f2.size : Int) > 100)) (some (true)) (cond (decide ((a0.f3.length : Int) > 30000)) (some (true)) (some ((decide ((a0.f4.length : Int) > 100)))))
set_option maxRecDepth 100000 in
set_option maxHeartbeats 1000000 in
theorem haywainlaw13_Act_wide.con (K : Nat) (a0 : S52) (h0 : Hd) (h1 : Hd) (r : Bool) (X : Nat → Nat → Prop) (w : World) (hS : St X w [] [] [] [] [Rd (Kd.int .u8) h0.1 h0.2 a0.f3, Rd (Kd.int .i64) h1.1 h1.2 a0.f4] w) (H : haywainlaw13_Act_wide.f K a0 = some r) :
    Cn Try.prog 22 [.agg #[.int .i64 a0.f0, .int .i64 a0.f1, .string a0.f2, .slice h0.1 a0.f3.length h0.2, .slice h1.1 a0.f4.length h1.2]] X w [] (fun i : Unit => .bool r) (fun i => []) (fun i => []) (fun i => []) := by
  refine Cn.of Try.func22 (by kernel_rfl) hS ?_
  unfold haywainlaw13_Act_wide.f at H
  refine J.seq (by kernel_rfl) ?_
  refine J.region (by kernel_rfl) ?_
  refine O.e (some 1) (Ev.box (t := 52) (x := .tmp 0) (v := .agg #[.int .i64 a0.f0, .int .i64 a0.f1, .string a0.f2, .slice h0.1 a0.f3.length h0.2, .slice h1.1 a0.f4.length h1.2]) (by kernel_rfl) (by kernel_rfl)) (by kernel_rfl) (fun p0_0 => ?_)
  refine O.pure 1 [] [1] [] (fr' := [(1, .pointer (some ⟨p0_0, 0, none⟩))]) (bx' := [⟨p0_0, [.int .i64 a0.f0, .int .i64 a0.f1, .string a0.f2, .slice h0.1 a0.f3.length h0.2, .slice h1.1 a0.f4.length h1.2], 52⟩]) (by kernel_rfl) ?_
  refine O.nil (by kernel_rfl) ?_
  refine J.seq (by kernel_rfl) ?_
  rcases condE H with ⟨hc1, H⟩ | ⟨hc1, H⟩
  · refine J.region (by kernel_rfl) ?_
    refine O.pure 3 [(0, 2)] [1, 5] [p0_0, 2] (fr' := [(1, .pointer (some ⟨p0_0, 0, none⟩)), (5, .int .i64 (a0.f2.size : Int))]) (bx' := [⟨p0_0, [.int .i64 a0.f0, .int .i64 a0.f1, .string a0.f2, .slice h0.1 a0.f3.length h0.2, .slice h1.1 a0.f4.length h1.2], 52⟩]) (by kernel_rfl) ?_
    refine O.q (v := .bool true) (some 6) (Qu.eqv (u := .bool (decide ((a0.f2.size : Int) > 100))) (v := .bool true) (0, 0) [] (by kernel_rfl) (congrArg Value.bool hc1)) (by kernel_rfl) ?_
    refine O.pure 13 [] [2] [] (fr' := [(2, .bool true)]) (bx' := [⟨p0_0, [.int .i64 a0.f0, .int .i64 a0.f1, .string a0.f2, .slice h0.1 a0.f3.length h0.2, .slice h1.1 a0.f4.length h1.2], 52⟩]) (by kernel_rfl) ?_
    refine O.nil (by kernel_rfl) ?_
    obtain rfl := Option.some.inj H
    exact J.doneS [] [] [] [] [] () (vs := [.bool true]) (by kernel_rfl) (by kernel_rfl) (by kernel_rfl) (by kernel_rfl) (by kernel_rfl) (by decide)
  · rcases condE H with ⟨hc2, H⟩ | ⟨hc2, H⟩
    · refine J.region (by kernel_rfl) ?_
      refine O.pure 3 [(0, 2)] [1, 5] [p0_0, 2] (fr' := [(1, .pointer (some ⟨p0_0, 0, none⟩)), (5, .int .i64 (a0.f2.size : Int))]) (bx' := [⟨p0_0, [.int .i64 a0.f0, .int .i64 a0.f1, .string a0.f2, .slice h0.1 a0.f3.length h0.2, .slice h1.1 a0.f4.length h1.2], 52⟩]) (by kernel_rfl) ?_
      refine O.q (v := .bool false) (some 6) (Qu.eqv (u := .bool (decide ((a0.f2.size : Int) > 100))) (v := .bool false) (0, 0) [] (by kernel_rfl) (congrArg Value.bool hc1)) (by kernel_rfl) ?_
      refine O.pure 4 [(0, 3)] [1, 7, 10] [p0_0, 3] (fr' := [(1, .pointer (some ⟨p0_0, 0, none⟩)), (7, .bool false), (10, .int .i64 (a0.f3.length : Int))]) (bx' := [⟨p0_0, [.int .i64 a0.f0, .int .i64 a0.f1, .string a0.f2, .slice h0.1 a0.f3.length h0.2, .slice h1.1 a0.f4.length h1.2], 52⟩]) (by kernel_rfl) ?_
      refine O.q (v := .bool true) (some 11) (Qu.eqv (u := .bool (decide ((a0.f3.length : Int) > 30000))) (v := .bool true) (0, 0) [] (by kernel_rfl) (congrArg Value.bool hc2)) (by kernel_rfl) ?_
      refine O.pure 8 [] [2] [] (fr' := [(2, .bool true)]) (bx' := [⟨p0_0, [.int .i64 a0.f0, .int .i64 a0.f1, .string a0.f2, .slice h0.1 a0.f3.length h0.2, .slice h1.1 a0.f4.length h1.2], 52⟩]) (by kernel_rfl) ?_
      refine O.nil (by kernel_rfl) ?_
      obtain rfl := Option.some.inj H
      exact J.doneS [] [] [] [] [] () (vs := [.bool true]) (by kernel_rfl) (by kernel_rfl) (by kernel_rfl) (by kernel_rfl) (by kernel_rfl) (by decide)
    · refine J.region (by kernel_rfl) ?_
      refine O.pure 3 [(0, 2)] [1, 5] [p0_0, 2] (fr' := [(1, .pointer (some ⟨p0_0, 0, none⟩)), (5, .int .i64 (a0.f2.size : Int))]) (bx' := [⟨p0_0, [.int .i64 a0.f0, .int .i64 a0.f1, .string a0.f2, .slice h0.1 a0.f3.length h0.2, .slice h1.1 a0.f4.length h1.2], 52⟩]) (by kernel_rfl) ?_
      refine O.q (v := .bool false) (some 6) (Qu.eqv (u := .bool (decide ((a0.f2.size : Int) > 100))) (v := .bool false) (0, 0) [] (by kernel_rfl) (congrArg Value.bool hc1)) (by kernel_rfl) ?_
      refine O.pure 4 [(0, 3)] [1, 7, 10] [p0_0, 3] (fr' := [(1, .pointer (some ⟨p0_0, 0, none⟩)), (7, .bool false), (10, .int .i64 (a0.f3.length : Int))]) (bx' := [⟨p0_0, [.int .i64 a0.f0, .int .i64 a0.f1, .string a0.f2, .slice h0.1 a0.f3.length h0.2, .slice h1.1 a0.f4.length h1.2], 52⟩]) (by kernel_rfl) ?_
      refine O.q (v := .bool false) (some 11) (Qu.eqv (u := .bool (decide ((a0.f3.length : Int) > 30000))) (v := .bool false) (0, 0) [] (by kernel_rfl) (congrArg Value.bool hc2)) (by kernel_rfl) ?_
      refine O.pure 8 [(0, 4)] [2] [p0_0, 4] (fr' := [(2, .bool (decide ((a0.f4.length : Int) > 100)))]) (bx' := [⟨p0_0, [.int .i64 a0.f0, .int .i64 a0.f1, .string a0.f2, .slice h0.1 a0.f3.length h0.2, .slice h1.1 a0.f4.length h1.2], 52⟩]) (by kernel_rfl) ?_
      refine O.nil (by kernel_rfl) ?_
      obtain rfl := Option.some.inj H
      exact J.doneS [] [] [] [] [] () (vs := [.bool (decide ((a0.f4.length : Int) > 100))]) (by kernel_rfl) (by kernel_rfl) (by kernel_rfl) (by kernel_rfl) (by kernel_rfl) (by decide)
/-! ### haywain/disk.Cut: function 25 -/
def disk_Cut.f (K : Nat) (a0 : S24) (a1 : ByteArray) (a2 : Int) : Option (S24 × Int) := (disk_own.f K a0).bind fun x1_1 => (disk_at.f K x1_1 a1).bind fun x2_2 => cond (decide (x2_2 < 0)) (some ((x1_1, 4))) (cond (decide (a2 < 0)) (some ((x1_1, 1))) ((idxO x1_1.f0 x2_2).bind fun x5_7 => cond (decide (a2 > (x5_7.f1.length : Int))) (some ((x1_1, 1))) ((idxO x1_1.f0 x2_2).bind fun x7_9 => (cutO x7_9.f1 0 a2).bind fun y7_14 => some (((⟨((x1_1.f0.set x2_2.toNat (⟨x7_9.f0, (cutL x7_9.f1 ((0 : Int).toNat) ((a2 : Int).toNat)), x7_9.f2⟩ : S43)).set x2_2.toNat (⟨x7_9.f0, (cutL x7_9.f1 ((0 : Int).toNat) ((a2 : Int).toNat)), a2⟩ : S43))⟩ : S24), 0)))))
set_option maxRecDepth 100000 in
set_option maxHeartbeats 1000000 in
theorem disk_Cut.con (K : Nat) (a0 : S24) (a1 : ByteArray) (a2 : Int) (h0 : Hd) (r : (S24 × Int)) (X : Nat → Nat → Prop) (w : World) (hS : St X w [] [] [] [] [Rd kd43 h0.1 h0.2 a0.f0] w) (H : disk_Cut.f K a0 a1 a2 = some r) :
    Cn Try.prog 25 [.agg #[.slice h0.1 a0.f0.length h0.2], .string a1, .int .i64 a2] X w [] (fun i : Hd => .tuple #[.agg #[.slice i.1 r.1.f0.length i.2], .int .i64 r.2]) (fun i => []) (fun i => [mkRow kd43 43 (.slice i.1 r.1.f0.length i.2) r.1.f0]) (fun i => []) := by
  refine Cn.of Try.func25 (by kernel_rfl) hS ?_
  unfold disk_Cut.f at H
  refine J.seq (by kernel_rfl) ?_
  refine J.region (by kernel_rfl) ?_
  refine O.e (some 3) (Ev.box (t := 24) (x := .tmp 0) (v := .agg #[.slice h0.1 a0.f0.length h0.2]) (by kernel_rfl) (by kernel_rfl)) (by kernel_rfl) (fun p0_0 => ?_)
  refine O.e (some 6) (Ev.alloc (t := 24) (z := .agg #[.slice none 0 0]) (by kernel_rfl) (by kernel_rfl)) (by kernel_rfl) (fun p0_1 => ?_)
  refine O.pure 1 [] [1, 2, 3, 6] [] (fr' := [(1, .string a1), (2, .int .i64 a2), (3, .pointer (some ⟨p0_0, 0, none⟩)), (6, .pointer (some ⟨p0_1, 0, none⟩))]) (bx' := [⟨p0_1, [.slice none 0 0], 24⟩, ⟨p0_0, [.slice h0.1 a0.f0.length h0.2], 24⟩]) (by kernel_rfl) ?_
  refine O.nil (by kernel_rfl) ?_
  refine J.seq (by kernel_rfl) ?_
  obtain ⟨x1_1, hx1_1, H⟩ := bindE H
  refine J.region (by kernel_rfl) ?_
  refine O.pure 1 [(1, 0)] [1, 2, 3, 6, 9] [p0_0, 0] (fr' := [(1, .string a1), (2, .int .i64 a2), (3, .pointer (some ⟨p0_0, 0, none⟩)), (6, .pointer (some ⟨p0_1, 0, none⟩)), (9, .agg #[.slice h0.1 a0.f0.length h0.2])]) (bx' := [⟨p0_1, [.slice none 0 0], 24⟩, ⟨p0_0, [.slice h0.1 a0.f0.length h0.2], 24⟩]) (by kernel_rfl) ?_
  refine O.e (some 10) (Ev.call0 (xs := [.tmp 9]) [0] (by kernel_rfl) (by kernel_rfl) (fun w hS => disk_own.con K a0 h0  _ _ w hS hx1_1)) (by kernel_rfl) (fun p1_1 => ?_)
  refine O.pure 1 [(1, 0)] [1, 2, 3, 6] [p0_0, 0] (fr' := [(1, .string a1), (2, .int .i64 a2), (3, .pointer (some ⟨p0_0, 0, none⟩)), (6, .pointer (some ⟨p0_1, 0, none⟩))]) (bx' := [⟨p0_1, [.slice none 0 0], 24⟩, ⟨p0_0, [.slice p1_1.1 x1_1.f0.length p1_1.2], 24⟩]) (by kernel_rfl) ?_
  refine O.nil (by kernel_rfl) ?_
  refine J.seq (by kernel_rfl) ?_
  obtain ⟨x2_2, hx2_2, H⟩ := bindE H
  refine J.region (by kernel_rfl) ?_
  refine O.pure 2 [(1, 0)] [2, 3, 6, 11, 12] [p0_0, 0] (fr' := [(2, .int .i64 a2), (3, .pointer (some ⟨p0_0, 0, none⟩)), (6, .pointer (some ⟨p0_1, 0, none⟩)), (11, .agg #[.slice p1_1.1 x1_1.f0.length p1_1.2]), (12, .string a1)]) (bx' := [⟨p0_1, [.slice none 0 0], 24⟩, ⟨p0_0, [.slice p1_1.1 x1_1.f0.length p1_1.2], 24⟩]) (by kernel_rfl) ?_
  refine O.e (some 13) (Ev.callLb (xs1 := [.tmp 11, .tmp 12]) [0] (fun w hS => (hS.rowsel [0] rfl (by decide)).freezeL (hh := p1_1) (m := x1_1.f0.length) (xs := x1_1.f0) rfl) (by kernel_rfl) (by kernel_rfl) (fun _ q hq => by cases hq) (fun w hS => disk_at.con K x1_1 a1 p1_1  _ _ w hS hx2_2)) (by kernel_rfl) (fun _ => ?_)
  refine O.pure 1 [] [2, 3, 6, 8] [] (fr' := [(2, .int .i64 a2), (3, .pointer (some ⟨p0_0, 0, none⟩)), (6, .pointer (some ⟨p0_1, 0, none⟩)), (8, .int .i64 x2_2)]) (bx' := [⟨p0_1, [.slice none 0 0], 24⟩, ⟨p0_0, [.slice p1_1.1 x1_1.f0.length p1_1.2], 24⟩]) (by kernel_rfl) ?_
  refine O.nil (by kernel_rfl) ?_
  refine J.seq (by kernel_rfl) ?_
  refine J.seq (by kernel_rfl) ?_
  refine J.region (by kernel_rfl) ?_
  refine O.pure 2 [] [2, 3, 6, 8, 15] [] (fr' := [(2, .int .i64 a2), (3, .pointer (some ⟨p0_0, 0, none⟩)), (6, .pointer (some ⟨p0_1, 0, none⟩)), (8, .int .i64 x2_2), (15, .bool (decide (x2_2 < 0)))]) (bx' := [⟨p0_1, [.slice none 0 0], 24⟩, ⟨p0_0, [.slice p1_1.1 x1_1.f0.length p1_1.2], 24⟩]) (by kernel_rfl) ?_
  refine O.nil (by kernel_rfl) ?_
  rcases condE H with ⟨hc1, H⟩ | ⟨hc1, H⟩
  · refine J.condT (x := .tmp 15) (t := (decide (x2_2 < 0))) (by kernel_rfl) (by kernel_rfl) hc1 ?_
    refine J.seq (by kernel_rfl) ?_
    refine J.region (by kernel_rfl) ?_
    refine O.pure 3 [(1, 0), (0, 0)] [6, 7] [p0_0, 0, p0_1, 0] (fr' := [(6, .pointer (some ⟨p0_1, 0, none⟩)), (7, .int .i64 4)]) (bx' := [⟨p0_1, [.slice p1_1.1 x1_1.f0.length p1_1.2], 24⟩, ⟨p0_0, [.slice p1_1.1 x1_1.f0.length p1_1.2], 24⟩]) (by kernel_rfl) ?_
    refine O.nil (by kernel_rfl) ?_
    obtain rfl := Option.some.inj H
    exact J.doneS [(0, 0)] [p0_1, 0] [] [] [0] p1_1 (vs := [.agg #[.slice p1_1.1 x1_1.f0.length p1_1.2], .int .i64 4]) (by kernel_rfl) (by kernel_rfl) (by kernel_rfl) (by kernel_rfl) (by kernel_rfl) (by decide)
  · refine J.condF (x := .tmp 15) (t := (decide (x2_2 < 0))) (by kernel_rfl) (by kernel_rfl) hc1 ?_
    refine J.skip (by kernel_rfl) ?_
    refine J.seq (by kernel_rfl) ?_
    refine J.seq (by kernel_rfl) ?_
    rcases condE H with ⟨hc2, H⟩ | ⟨hc2, H⟩
    · refine J.region (by kernel_rfl) ?_
      refine O.pure 1 [] [2, 3, 6, 8, 17] [] (fr' := [(2, .int .i64 a2), (3, .pointer (some ⟨p0_0, 0, none⟩)), (6, .pointer (some ⟨p0_1, 0, none⟩)), (8, .int .i64 x2_2), (17, .int .i64 a2)]) (bx' := [⟨p0_1, [.slice none 0 0], 24⟩, ⟨p0_0, [.slice p1_1.1 x1_1.f0.length p1_1.2], 24⟩]) (by kernel_rfl) ?_
      refine O.q (v := .bool true) (some 18) (Qu.eqv (u := .bool (decide (a2 < 0))) (v := .bool true) (0, 0) [] (by kernel_rfl) (congrArg Value.bool hc2)) (by kernel_rfl) ?_
      refine O.pure 11 [] [2, 3, 6, 8, 29] [] (fr' := [(2, .int .i64 a2), (3, .pointer (some ⟨p0_0, 0, none⟩)), (6, .pointer (some ⟨p0_1, 0, none⟩)), (8, .int .i64 x2_2), (29, .bool true)]) (bx' := [⟨p0_1, [.slice none 0 0], 24⟩, ⟨p0_0, [.slice p1_1.1 x1_1.f0.length p1_1.2], 24⟩]) (by kernel_rfl) ?_
      refine O.nil (by kernel_rfl) ?_
      refine J.cond (o := .tmp 29) true (by kernel_rfl) (by kernel_rfl) ?_
      refine J.seq (by kernel_rfl) ?_
      refine J.region (by kernel_rfl) ?_
      refine O.pure 3 [(1, 0), (0, 0)] [6, 7] [p0_0, 0, p0_1, 0] (fr' := [(6, .pointer (some ⟨p0_1, 0, none⟩)), (7, .int .i64 1)]) (bx' := [⟨p0_1, [.slice p1_1.1 x1_1.f0.length p1_1.2], 24⟩, ⟨p0_0, [.slice p1_1.1 x1_1.f0.length p1_1.2], 24⟩]) (by kernel_rfl) ?_
      refine O.nil (by kernel_rfl) ?_
      obtain rfl := Option.some.inj H
      exact J.doneS [(0, 0)] [p0_1, 0] [] [] [0] p1_1 (vs := [.agg #[.slice p1_1.1 x1_1.f0.length p1_1.2], .int .i64 1]) (by kernel_rfl) (by kernel_rfl) (by kernel_rfl) (by kernel_rfl) (by kernel_rfl) (by decide)
    · obtain ⟨x5_7, hx5_7, H⟩ := bindE H
      obtain ⟨hx5_7a, hx5_7⟩ := idxE hx5_7
      refine J.region (by kernel_rfl) ?_
      refine O.pure 1 [] [2, 3, 6, 8, 17] [] (fr' := [(2, .int .i64 a2), (3, .pointer (some ⟨p0_0, 0, none⟩)), (6, .pointer (some ⟨p0_1, 0, none⟩)), (8, .int .i64 x2_2), (17, .int .i64 a2)]) (bx' := [⟨p0_1, [.slice none 0 0], 24⟩, ⟨p0_0, [.slice p1_1.1 x1_1.f0.length p1_1.2], 24⟩]) (by kernel_rfl) ?_
      refine O.q (v := .bool false) (some 18) (Qu.eqv (u := .bool (decide (a2 < 0))) (v := .bool false) (0, 0) [] (by kernel_rfl) (congrArg Value.bool hc2)) (by kernel_rfl) ?_
      refine O.pure 5 [(1, 0)] [2, 3, 6, 8, 19, 20, 22, 23] [p0_0, 0] (fr' := [(2, .int .i64 a2), (3, .pointer (some ⟨p0_0, 0, none⟩)), (6, .pointer (some ⟨p0_1, 0, none⟩)), (8, .int .i64 x2_2), (19, .bool false), (20, .int .i64 a2), (22, .slice p1_1.1 x1_1.f0.length p1_1.2), (23, .int .i64 x2_2)]) (bx' := [⟨p0_1, [.slice none 0 0], 24⟩, ⟨p0_0, [.slice p1_1.1 x1_1.f0.length p1_1.2], 24⟩]) (by kernel_rfl) ?_
      refine O.mono (fun w hS => hS.pk) ?_
      refine O.peek (d := kd43) (hh := p1_1) (m := x1_1.f0.length) (i := x2_2) (by simpa only [List.length_set] using hx5_7) (op43 _) (fun p5_7 hp5_7A => ?_)
      refine O.q (v := .pointer (some ⟨p5_7.1, 0 + x2_2.toNat * 3, none⟩)) (some 24) (Qu.idx (t := 22) (x := .tmp 22) (y := .tmp 23) (len := x1_1.f0.length) (c := p1_1.2) (kk := .i64) (sz := 3) (by kernel_rfl) (by kernel_rfl) (by kernel_rfl) (by kernel_rfl) hx5_7a (by have := idx_lt hx5_7; simpa only [List.length_set, List.length_replicate] using this) hp5_7A) (by kernel_rfl) ?_
      refine O.pure 1 [] [2, 3, 6, 8, 19, 20, 25] [] (fr' := [(2, .int .i64 a2), (3, .pointer (some ⟨p0_0, 0, none⟩)), (6, .pointer (some ⟨p0_1, 0, none⟩)), (8, .int .i64 x2_2), (19, .bool false), (20, .int .i64 a2), (25, .pointer (some ⟨p5_7.1, 0 + x2_2.toNat * 3 + 1, none⟩))]) (bx' := [⟨p0_1, [.slice none 0 0], 24⟩, ⟨p0_0, [.slice p1_1.1 x1_1.f0.length p1_1.2], 24⟩]) (by kernel_rfl) ?_
      refine O.q (v := .slice p5_7.2.1 x5_7.f1.length p5_7.2.2) (some 26) (Qu.loadR (t := 30) (x := .tmp 25) (hh := p1_1) (m := x1_1.f0.length) (i := x2_2.toNat) (u := .pointer (some ⟨p5_7.1, 0 + x2_2.toNat * 3 + 1, none⟩)) (r := .slice p5_7.2.1 x5_7.f1.length p5_7.2.2) (cs := [.string x5_7.f0, .slice p5_7.2.1 x5_7.f1.length p5_7.2.2, .int .i64 x5_7.f2]) 0 1 [p5_7.1, 0 + x2_2.toNat * 3 + 1] (by kernel_rfl) (by kernel_rfl) hp5_7A rfl (by kernel_rfl)) (by kernel_rfl) ?_
      refine O.pure 3 [] [2, 3, 6, 8, 29] [] (fr' := [(2, .int .i64 a2), (3, .pointer (some ⟨p0_0, 0, none⟩)), (6, .pointer (some ⟨p0_1, 0, none⟩)), (8, .int .i64 x2_2), (29, .bool (decide (a2 > (x5_7.f1.length : Int))))]) (bx' := [⟨p0_1, [.slice none 0 0], 24⟩, ⟨p0_0, [.slice p1_1.1 x1_1.f0.length p1_1.2], 24⟩]) (by kernel_rfl) ?_
      refine O.nil (by kernel_rfl) ?_
      refine J.mono (fun w hS => hS.unpk) ?_
      rcases condE H with ⟨hc3, H⟩ | ⟨hc3, H⟩
      · refine J.condT (x := .tmp 29) (t := (decide (a2 > (x5_7.f1.length : Int)))) (by kernel_rfl) (by kernel_rfl) hc3 ?_
        refine J.seq (by kernel_rfl) ?_
        refine J.region (by kernel_rfl) ?_
        refine O.pure 3 [(1, 0), (0, 0)] [6, 7] [p0_0, 0, p0_1, 0] (fr' := [(6, .pointer (some ⟨p0_1, 0, none⟩)), (7, .int .i64 1)]) (bx' := [⟨p0_1, [.slice p1_1.1 x1_1.f0.length p1_1.2], 24⟩, ⟨p0_0, [.slice p1_1.1 x1_1.f0.length p1_1.2], 24⟩]) (by kernel_rfl) ?_
        refine O.nil (by kernel_rfl) ?_
        obtain rfl := Option.some.inj H
        exact J.doneS [(0, 0)] [p0_1, 0] [] [] [0] p1_1 (vs := [.agg #[.slice p1_1.1 x1_1.f0.length p1_1.2], .int .i64 1]) (by kernel_rfl) (by kernel_rfl) (by kernel_rfl) (by kernel_rfl) (by kernel_rfl) (by decide)
      · refine J.condF (x := .tmp 29) (t := (decide (a2 > (x5_7.f1.length : Int)))) (by kernel_rfl) (by kernel_rfl) hc3 ?_
        refine J.skip (by kernel_rfl) ?_
        refine J.seq (by kernel_rfl) ?_
        obtain ⟨x7_9, hx7_9, H⟩ := bindE H
        obtain ⟨hx7_9a, hx7_9⟩ := idxE hx7_9
        obtain ⟨y7_14, hy7_14, H⟩ := bindE H
        obtain ⟨hy7_14a, hy7_14b, hy7_14c, -⟩ := cutE hy7_14
        refine J.mono (fun w hS => hS.pk) ?_
        refine J.peek (d := kd43) (hh := p1_1) (m := x1_1.f0.length) (i := x2_2) (by simpa only [List.length_set] using hx7_9) (op43 _) (fun p7_9 hp7_9A => ?_)
        refine J.drawS (by kernel_rfl) [(0, some 31, .pointer (some ⟨p0_0, 0, none⟩)), (1, some 32, .slice p1_1.1 x1_1.f0.length p1_1.2), (2, some 33, .int .i64 x2_2), (3, some 34, .pointer (some ⟨p0_0, 0, none⟩)), (4, some 35, .slice p1_1.1 x1_1.f0.length p1_1.2), (5, some 36, .int .i64 x2_2), (6, some 37, .pointer (some ⟨p0_0, 0, none⟩)), (7, some 38, .slice p1_1.1 x1_1.f0.length p1_1.2), (8, some 39, .int .i64 x2_2), (10, some 41, .pointer (some ⟨p7_9.1, 0 + x2_2.toNat * 3 + 1, none⟩)), (12, some 43, .int .i64 a2), (13, some 44, .int .i64 a2), (15, some 46, .int .i64 a2), (9, some 40, .pointer (some ⟨p7_9.1, 0 + x2_2.toNat * 3, none⟩)), (11, some 42, .slice p7_9.2.1 x7_9.f1.length p7_9.2.2)] ([0, 1, 2, 3, 4, 5, 6, 7, 8, 10, 12, 13, 15] ++ [9, 11]) (by kernel_rfl) ?_
        refine D.mid (cs := [14]) [0, 1, 2, 3, 4, 5, 6, 7, 8, 10, 12, 13, 15] [9, 11] [(1, 0), (1, 0), (1, 0)] [p0_0, 0, p0_0, 0, p0_0, 0] (by kernel_rfl) (by kernel_rfl) (⟨QuAt.mk (v := .pointer (some ⟨p7_9.1, 0 + x2_2.toNat * 3, none⟩)) (some 40) (by kernel_rfl) (by kernel_rfl) (Qu.idx (t := 22) (x := .tmp 38) (y := .tmp 39) (len := x1_1.f0.length) (c := p1_1.2) (kk := .i64) (sz := 3) (by kernel_rfl) (by kernel_rfl) (by kernel_rfl) (by kernel_rfl) hx7_9a (by have := idx_lt hx7_9; simpa only [List.length_set, List.length_replicate] using this) hp7_9A), QuAt.mk (v := .slice p7_9.2.1 x7_9.f1.length p7_9.2.2) (some 42) (by kernel_rfl) (by kernel_rfl) (Qu.loadR (t := 30) (x := .tmp 41) (hh := p1_1) (m := x1_1.f0.length) (i := x2_2.toNat) (u := .pointer (some ⟨p7_9.1, 0 + x2_2.toNat * 3 + 1, none⟩)) (r := .slice p7_9.2.1 x7_9.f1.length p7_9.2.2) (cs := [.string x7_9.f0, .slice p7_9.2.1 x7_9.f1.length p7_9.2.2, .int .i64 x7_9.f2]) 0 1 [p7_9.1, 0 + x2_2.toNat * 3 + 1] (by kernel_rfl) (by kernel_rfl) hp7_9A rfl (by kernel_rfl)), trivial⟩) (by kernel_rfl) ⟨?_, trivial⟩
        refine EvStep.mk (some 45) (new := fun p7_14 => [(16, some 47, .pointer (some ⟨p7_9.1, 0 + x2_2.toNat * 3, none⟩)), (17, some 48, .pointer (some ⟨p7_9.1, 0 + x2_2.toNat * 3 + 1, none⟩))]) ([0, 1, 2, 3, 4, 5, 6, 7, 8, 10, 15, 17] ++ [9, 16]) (by kernel_rfl) (Ev.cut3 (d := (Kd.int .u8)) (xs := x7_9.f1) (t := 30) (x := .tmp 42) (lo := none) (hi := (some (.tmp 43))) (mx := (some (.tmp 44))) (vlo := none) (vhi := (some (.int .i64 a2))) (vmx := (some (.int .i64 a2))) (A := p7_9.2.1) (c := p7_9.2.2) (l := (0 : Int).toNat) (h := (a2 : Int).toNat) 0 (by kernel_rfl) (by kernel_rfl) (by kernel_rfl) (by kernel_rfl) (by kernel_rfl) (by kernel_rfl) (Bd.dflt _) ⟨_, _, rfl, by omega, rfl⟩ ⟨_, _, rfl, by omega, rfl⟩ (by omega) (by omega) rfl) (fun p7_14 => by kernel_rfl) (fun p7_14 => ?_)
        refine D.mid (cs := [18]) [0, 1, 2, 3, 4, 5, 6, 7, 8, 10, 15, 17] [9, 16] [(1, 0), (1, 0), (1, 0)] [p0_0, 0, p0_0, 0, p0_0, 0] (by kernel_rfl) (by kernel_rfl) (⟨QuAt.mk (v := .pointer (some ⟨p7_9.1, 0 + x2_2.toNat * 3, none⟩)) (some 40) (by kernel_rfl) (by kernel_rfl) (Qu.idx (t := 22) (x := .tmp 38) (y := .tmp 39) (len := x1_1.f0.length) (c := p1_1.2) (kk := .i64) (sz := 3) (by kernel_rfl) (by kernel_rfl) (by kernel_rfl) (by kernel_rfl) hx7_9a (by have := idx_lt hx7_9; simpa only [List.length_set, List.length_replicate] using this) hp7_9A), QuAt.mk (v := .pointer (some ⟨p7_9.1, 0 + x2_2.toNat * 3, none⟩)) (some 47) (by kernel_rfl) (by kernel_rfl) (Qu.idx (t := 22) (x := .tmp 32) (y := .tmp 33) (len := x1_1.f0.length) (c := p1_1.2) (kk := .i64) (sz := 3) (by kernel_rfl) (by kernel_rfl) (by kernel_rfl) (by kernel_rfl) hx7_9a (by have := idx_lt hx7_9; simpa only [List.length_set, List.length_replicate] using this) hp7_9A), trivial⟩) (by kernel_rfl) ⟨?_, trivial⟩
        refine EvStep.mk none (new := fun _ => [(19, some 49, .pointer (some ⟨p7_9.1, 0 + x2_2.toNat * 3, none⟩)), (20, some 50, .pointer (some ⟨p7_9.1, 0 + x2_2.toNat * 3 + 2, none⟩))]) ([3, 4, 5, 15, 20] ++ [16, 19]) (by kernel_rfl) (Ev.storeR (t := 30) (x := .tmp 48) (y := .tmp 45) (hh := p1_1) (m := x1_1.f0.length) (g := p7_9.1) (i := x2_2.toNat) (f := 1) (s := 1) (u := .pointer (some ⟨p7_9.1, 0 + x2_2.toNat * 3 + 1, none⟩)) (z := .slice ((p7_14, (cutL x7_9.f1 ((0 : Int).toNat) ((a2 : Int).toNat)).length) : Hd).1 (cutL x7_9.f1 ((0 : Int).toNat) ((a2 : Int).toNat)).length ((p7_14, (cutL x7_9.f1 ((0 : Int).toNat) ((a2 : Int).toNat)).length) : Hd).2) (cs := [.string x7_9.f0, .slice p7_9.2.1 x7_9.f1.length p7_9.2.2, .int .i64 x7_9.f2]) (ncs := [.string x7_9.f0, .slice ((p7_14, (cutL x7_9.f1 ((0 : Int).toNat) ((a2 : Int).toNat)).length) : Hd).1 (cutL x7_9.f1 ((0 : Int).toNat) ((a2 : Int).toNat)).length ((p7_14, (cutL x7_9.f1 ((0 : Int).toNat) ((a2 : Int).toNat)).length) : Hd).2, .int .i64 x7_9.f2]) (⟨x7_9.f0, (cutL x7_9.f1 ((0 : Int).toNat) ((a2 : Int).toNat)), x7_9.f2⟩ : S43) (some 0) (by kernel_rfl) (by kernel_rfl) rfl (by kernel_rfl) hp7_9A (by have := idx_lt hx7_9; simpa only [List.length_set] using this) ⟨by kernel_rfl, by kernel_rfl, by kernel_rfl, by kernel_rfl⟩ rfl (by kernel_rfl) (fun w' hφ => ⟨((p7_14, (cutL x7_9.f1 ((0 : Int).toNat) ((a2 : Int).toNat)).length) : Hd), rfl, hφ _ (List.mem_of_getElem? (i := 0) rfl)⟩)) (fun _ => by kernel_rfl) (fun _ => ?_)
        refine D.mid (cs := [21]) [3, 4, 5, 15, 20] [16, 19] [(1, 0)] [p0_0, 0] (by kernel_rfl) (by kernel_rfl) (⟨QuAt.mk (v := .pointer (some ⟨p7_9.1, 0 + x2_2.toNat * 3, none⟩)) (some 47) (by kernel_rfl) (by kernel_rfl) (Qu.idx (t := 22) (x := .tmp 32) (y := .tmp 33) (len := x1_1.f0.length) (c := p1_1.2) (kk := .i64) (sz := 3) (by kernel_rfl) (by kernel_rfl) (by kernel_rfl) (by kernel_rfl) hx7_9a (by have := idx_lt hx7_9; simpa only [List.length_set, List.length_replicate] using this) hp7_9A), QuAt.mk (v := .pointer (some ⟨p7_9.1, 0 + x2_2.toNat * 3, none⟩)) (some 49) (by kernel_rfl) (by kernel_rfl) (Qu.idx (t := 22) (x := .tmp 35) (y := .tmp 36) (len := x1_1.f0.length) (c := p1_1.2) (kk := .i64) (sz := 3) (by kernel_rfl) (by kernel_rfl) (by kernel_rfl) (by kernel_rfl) hx7_9a (by have := idx_lt hx7_9; simpa only [List.length_set, List.length_replicate] using this) hp7_9A), trivial⟩) (by kernel_rfl) ⟨?_, trivial⟩
        refine EvStep.mk none (new := fun _ => []) ([] ++ [19]) (by kernel_rfl) (Ev.storeR (t := 3) (x := .tmp 50) (y := .tmp 46) (hh := p1_1) (m := x1_1.f0.length) (g := p7_9.1) (i := x2_2.toNat) (f := 2) (s := 1) (u := .pointer (some ⟨p7_9.1, 0 + x2_2.toNat * 3 + 2, none⟩)) (z := .int .i64 a2) (cs := [.string x7_9.f0, .slice ((p7_14, (cutL x7_9.f1 ((0 : Int).toNat) ((a2 : Int).toNat)).length) : Hd).1 (cutL x7_9.f1 ((0 : Int).toNat) ((a2 : Int).toNat)).length ((p7_14, (cutL x7_9.f1 ((0 : Int).toNat) ((a2 : Int).toNat)).length) : Hd).2, .int .i64 x7_9.f2]) (ncs := [.string x7_9.f0, .slice ((p7_14, (cutL x7_9.f1 ((0 : Int).toNat) ((a2 : Int).toNat)).length) : Hd).1 (cutL x7_9.f1 ((0 : Int).toNat) ((a2 : Int).toNat)).length ((p7_14, (cutL x7_9.f1 ((0 : Int).toNat) ((a2 : Int).toNat)).length) : Hd).2, .int .i64 a2]) (⟨x7_9.f0, (cutL x7_9.f1 ((0 : Int).toNat) ((a2 : Int).toNat)), a2⟩ : S43) (some 0) (by kernel_rfl) (by kernel_rfl) rfl (by kernel_rfl) hp7_9A (by have := idx_lt hx7_9; simpa only [List.length_set] using this) ⟨by kernel_rfl, by kernel_rfl, by kernel_rfl, by kernel_rfl⟩ rfl (by kernel_rfl) (fun w' hφ => ⟨((p7_14, (cutL x7_9.f1 ((0 : Int).toNat) ((a2 : Int).toNat)).length) : Hd), rfl, hφ _ (List.mem_of_getElem? (i := 0) rfl)⟩)) (fun _ => by kernel_rfl) (fun _ => ?_)
        refine D.fin (fr' := [(3, .pointer (some ⟨p0_0, 0, none⟩)), (6, .pointer (some ⟨p0_1, 0, none⟩))]) [] [19] [] [] [3, 6] (by kernel_rfl) (by kernel_rfl) (⟨QuAt.mk (v := .pointer (some ⟨p7_9.1, 0 + x2_2.toNat * 3, none⟩)) (some 49) (by kernel_rfl) (by kernel_rfl) (Qu.idx (t := 22) (x := .tmp 35) (y := .tmp 36) (len := x1_1.f0.length) (c := p1_1.2) (kk := .i64) (sz := 3) (by kernel_rfl) (by kernel_rfl) (by kernel_rfl) (by kernel_rfl) hx7_9a (by have := idx_lt hx7_9; simpa only [List.length_set, List.length_replicate] using this) hp7_9A), trivial⟩) (by kernel_rfl) ?_
        refine J.mono (fun w hS => hS.unpk) ?_
        refine J.renS [3, 6] (fr1 := [(3, .pointer (some ⟨p0_0, 0, none⟩)), (6, .pointer (some ⟨p0_1, 0, none⟩))]) (bx1 := [⟨p0_1, [.slice none 0 0], 24⟩, ⟨p0_0, [.slice p1_1.1 x1_1.f0.length p1_1.2], 24⟩]) (rw1 := [mkRow kd43 43 (.slice p1_1.1 x1_1.f0.length p1_1.2) ((x1_1.f0.set x2_2.toNat (⟨x7_9.f0, (cutL x7_9.f1 ((0 : Int).toNat) ((a2 : Int).toNat)), x7_9.f2⟩ : S43)).set x2_2.toNat (⟨x7_9.f0, (cutL x7_9.f1 ((0 : Int).toNat) ((a2 : Int).toNat)), a2⟩ : S43))]) (fr' := [(3, .pointer (some ⟨p0_0, 0, none⟩)), (6, .pointer (some ⟨p0_1, 0, none⟩))]) (bx' := [⟨p0_1, [.slice none 0 0], 24⟩, ⟨p0_0, [.slice p1_1.1 ((x1_1.f0.set x2_2.toNat (⟨x7_9.f0, (cutL x7_9.f1 ((0 : Int).toNat) ((a2 : Int).toNat)), x7_9.f2⟩ : S43)).set x2_2.toNat (⟨x7_9.f0, (cutL x7_9.f1 ((0 : Int).toNat) ((a2 : Int).toNat)), a2⟩ : S43)).length p1_1.2], 24⟩]) (rw' := [mkRow kd43 43 (.slice p1_1.1 ((x1_1.f0.set x2_2.toNat (⟨x7_9.f0, (cutL x7_9.f1 ((0 : Int).toNat) ((a2 : Int).toNat)), x7_9.f2⟩ : S43)).set x2_2.toNat (⟨x7_9.f0, (cutL x7_9.f1 ((0 : Int).toNat) ((a2 : Int).toNat)), a2⟩ : S43)).length p1_1.2) ((x1_1.f0.set x2_2.toNat (⟨x7_9.f0, (cutL x7_9.f1 ((0 : Int).toNat) ((a2 : Int).toNat)), x7_9.f2⟩ : S43)).set x2_2.toNat (⟨x7_9.f0, (cutL x7_9.f1 ((0 : Int).toNat) ((a2 : Int).toNat)), a2⟩ : S43))]) (by kernel_rfl) (by kernel_rfl) (by simp only [List.length_set, List.length_replicate]) ?_
        refine J.seq (by kernel_rfl) ?_
        refine J.region (by kernel_rfl) ?_
        refine O.pure 3 [(1, 0), (0, 0)] [6, 7] [p0_0, 0, p0_1, 0] (fr' := [(6, .pointer (some ⟨p0_1, 0, none⟩)), (7, .int .i64 0)]) (bx' := [⟨p0_1, [.slice p1_1.1 ((x1_1.f0.set x2_2.toNat (⟨x7_9.f0, (cutL x7_9.f1 ((0 : Int).toNat) ((a2 : Int).toNat)), x7_9.f2⟩ : S43)).set x2_2.toNat (⟨x7_9.f0, (cutL x7_9.f1 ((0 : Int).toNat) ((a2 : Int).toNat)), a2⟩ : S43)).length p1_1.2], 24⟩, ⟨p0_0, [.slice p1_1.1 ((x1_1.f0.set x2_2.toNat (⟨x7_9.f0, (cutL x7_9.f1 ((0 : Int).toNat) ((a2 : Int).toNat)), x7_9.f2⟩ : S43)).set x2_2.toNat (⟨x7_9.f0, (cutL x7_9.f1 ((0 : Int).toNat) ((a2 : Int).toNat)), a2⟩ : S43)).length p1_1.2], 24⟩]) (by kernel_rfl) ?_
        refine O.nil (by kernel_rfl) ?_
        obtain rfl := Option.some.inj H
        exact J.doneS [(0, 0)] [p0_1, 0] [] [] [0] p1_1 (vs := [.agg #[.slice p1_1.1 ((x1_1.f0.set x2_2.toNat (⟨x7_9.f0, (cutL x7_9.f1 ((0 : Int).toNat) ((a2 : Int).toNat)), x7_9.f2⟩ : S43)).set x2_2.toNat (⟨x7_9.f0, (cutL x7_9.f1 ((0 : Int).toNat) ((a2 : Int).toNat)), a2⟩ : S43)).length p1_1.2], .int .i64 0]) (by kernel_rfl) (by kernel_rfl) (by kernel_rfl) (by kernel_rfl) (by kernel_rfl) (by decide)
/-! ### haywain/disk.Drop: function 26 -/
def disk_Drop.f (K : Nat) (a0 : S24) (a1 : ByteArray) : Option (S24 × Int) := (disk_own.f K a0).bind fun x1_1 => (disk_at.f K x1_1 a1).bind fun x2_2 => cond (decide (x2_2 < 0)) (some ((x1_1, 4))) ((cutO x1_1.f0 0 x2_2).bind fun y5_4 => (cutO x1_1.f0 (IntKind.wrap .i64 (x2_2 + 1)) (x1_1.f0.length : Int)).bind fun y5_9 => (appO 48 (cutL x1_1.f0 ((0 : Int).toNat) ((x2_2 : Int).toNat)) (cutL x1_1.f0 (((IntKind.wrap .i64 (x2_2 + 1)) : Int).toNat) (((x1_1.f0.length : Int) : Int).toNat))).bind fun y5_10 => some (((⟨((cutL x1_1.f0 ((0 : Int).toNat) ((x2_2 : Int).toNat)) ++ (cutL x1_1.f0 (((IntKind.wrap .i64 (x2_2 + 1)) : Int).toNat) (((x1_1.f0.length : Int) : Int).toNat)))⟩ : S24), 0)))
set_option maxRecDepth 100000 in
set_option maxHeartbeats 1000000 in
theorem disk_Drop.con (K : Nat) (a0 : S24) (a1 : ByteArray) (h0 : Hd) (r : (S24 × Int)) (X : Nat → Nat → Prop) (w : World) (hS : St X w [] [] [] [] [Rd kd43 h0.1 h0.2 a0.f0] w) (H : disk_Drop.f K a0 a1 = some r) :
    Cn Try.prog 26 [.agg #[.slice h0.1 a0.f0.length h0.2], .string a1] X w [] (fun i : Hd => .tuple #[.agg #[.slice i.1 r.1.f0.length i.2], .int .i64 r.2]) (fun i => []) (fun i => []) (fun i => [Rd kd43 i.1 i.2 r.1.f0]) := by
  refine Cn.of Try.func26 (by kernel_rfl) hS ?_
  unfold disk_Drop.f at H
  refine J.seq (by kernel_rfl) ?_
  refine J.region (by kernel_rfl) ?_
  refine O.e (some 2) (Ev.box (t := 24) (x := .tmp 0) (v := .agg #[.slice h0.1 a0.f0.length h0.2]) (by kernel_rfl) (by kernel_rfl)) (by kernel_rfl) (fun p0_0 => ?_)
  refine O.e (some 4) (Ev.alloc (t := 24) (z := .agg #[.slice none 0 0]) (by kernel_rfl) (by kernel_rfl)) (by kernel_rfl) (fun p0_1 => ?_)
  refine O.pure 1 [] [1, 2, 4] [] (fr' := [(1, .string a1), (2, .pointer (some ⟨p0_0, 0, none⟩)), (4, .pointer (some ⟨p0_1, 0, none⟩))]) (bx' := [⟨p0_1, [.slice none 0 0], 24⟩, ⟨p0_0, [.slice h0.1 a0.f0.length h0.2], 24⟩]) (by kernel_rfl) ?_
  refine O.nil (by kernel_rfl) ?_
  refine J.seq (by kernel_rfl) ?_
  obtain ⟨x1_1, hx1_1, H⟩ := bindE H
  refine J.region (by kernel_rfl) ?_
  refine O.pure 1 [(1, 0)] [1, 2, 4, 7] [p0_0, 0] (fr' := [(1, .string a1), (2, .pointer (some ⟨p0_0, 0, none⟩)), (4, .pointer (some ⟨p0_1, 0, none⟩)), (7, .agg #[.slice h0.1 a0.f0.length h0.2])]) (bx' := [⟨p0_1, [.slice none 0 0], 24⟩, ⟨p0_0, [.slice h0.1 a0.f0.length h0.2], 24⟩]) (by kernel_rfl) ?_
  refine O.e (some 8) (Ev.call0 (xs := [.tmp 7]) [0] (by kernel_rfl) (by kernel_rfl) (fun w hS => disk_own.con K a0 h0  _ _ w hS hx1_1)) (by kernel_rfl) (fun p1_1 => ?_)
  refine O.pure 1 [(1, 0)] [1, 2, 4] [p0_0, 0] (fr' := [(1, .string a1), (2, .pointer (some ⟨p0_0, 0, none⟩)), (4, .pointer (some ⟨p0_1, 0, none⟩))]) (bx' := [⟨p0_1, [.slice none 0 0], 24⟩, ⟨p0_0, [.slice p1_1.1 x1_1.f0.length p1_1.2], 24⟩]) (by kernel_rfl) ?_
  refine O.nil (by kernel_rfl) ?_
  refine J.seq (by kernel_rfl) ?_
  obtain ⟨x2_2, hx2_2, H⟩ := bindE H
  refine J.region (by kernel_rfl) ?_
  refine O.pure 2 [(1, 0)] [2, 4, 9, 10] [p0_0, 0] (fr' := [(2, .pointer (some ⟨p0_0, 0, none⟩)), (4, .pointer (some ⟨p0_1, 0, none⟩)), (9, .agg #[.slice p1_1.1 x1_1.f0.length p1_1.2]), (10, .string a1)]) (bx' := [⟨p0_1, [.slice none 0 0], 24⟩, ⟨p0_0, [.slice p1_1.1 x1_1.f0.length p1_1.2], 24⟩]) (by kernel_rfl) ?_
  refine O.e (some 11) (Ev.callLb (xs1 := [.tmp 9, .tmp 10]) [0] (fun w hS => (hS.rowsel [0] rfl (by decide)).freezeL (hh := p1_1) (m := x1_1.f0.length) (xs := x1_1.f0) rfl) (by kernel_rfl) (by kernel_rfl) (fun _ q hq => by cases hq) (fun w hS => disk_at.con K x1_1 a1 p1_1  _ _ w hS hx2_2)) (by kernel_rfl) (fun _ => ?_)
  refine O.pure 1 [] [2, 4, 6] [] (fr' := [(2, .pointer (some ⟨p0_0, 0, none⟩)), (4, .pointer (some ⟨p0_1, 0, none⟩)), (6, .int .i64 x2_2)]) (bx' := [⟨p0_1, [.slice none 0 0], 24⟩, ⟨p0_0, [.slice p1_1.1 x1_1.f0.length p1_1.2], 24⟩]) (by kernel_rfl) ?_
  refine O.nil (by kernel_rfl) ?_
  refine J.seq (by kernel_rfl) ?_
  refine J.seq (by kernel_rfl) ?_
  refine J.region (by kernel_rfl) ?_
  refine O.pure 2 [] [2, 4, 6, 13] [] (fr' := [(2, .pointer (some ⟨p0_0, 0, none⟩)), (4, .pointer (some ⟨p0_1, 0, none⟩)), (6, .int .i64 x2_2), (13, .bool (decide (x2_2 < 0)))]) (bx' := [⟨p0_1, [.slice none 0 0], 24⟩, ⟨p0_0, [.slice p1_1.1 x1_1.f0.length p1_1.2], 24⟩]) (by kernel_rfl) ?_
  refine O.nil (by kernel_rfl) ?_
  rcases condE H with ⟨hc1, H⟩ | ⟨hc1, H⟩
  · refine J.condT (x := .tmp 13) (t := (decide (x2_2 < 0))) (by kernel_rfl) (by kernel_rfl) hc1 ?_
    refine J.seq (by kernel_rfl) ?_
    refine J.region (by kernel_rfl) ?_
    refine O.pure 3 [(1, 0), (0, 0)] [4, 5] [p0_0, 0, p0_1, 0] (fr' := [(4, .pointer (some ⟨p0_1, 0, none⟩)), (5, .int .i64 4)]) (bx' := [⟨p0_1, [.slice p1_1.1 x1_1.f0.length p1_1.2], 24⟩, ⟨p0_0, [.slice p1_1.1 x1_1.f0.length p1_1.2], 24⟩]) (by kernel_rfl) ?_
    refine O.nil (by kernel_rfl) ?_
    obtain rfl := Option.some.inj H
    refine J.mono (fun w hS => hS.freezeH (h := p1_1) (xs := x1_1.f0)) ?_
    exact J.doneS [(0, 0)] [p0_1, 0] [0] [] [] p1_1 (vs := [.agg #[.slice p1_1.1 x1_1.f0.length p1_1.2], .int .i64 4]) (by kernel_rfl) (by kernel_rfl) (by kernel_rfl) (by kernel_rfl) (by kernel_rfl) (by decide)
  · refine J.condF (x := .tmp 13) (t := (decide (x2_2 < 0))) (by kernel_rfl) (by kernel_rfl) hc1 ?_
    refine J.skip (by kernel_rfl) ?_
    refine J.seq (by kernel_rfl) ?_
    obtain ⟨y5_4, hy5_4, H⟩ := bindE H
    obtain ⟨hy5_4a, hy5_4b, hy5_4c, -⟩ := cutE hy5_4
    obtain ⟨y5_9, hy5_9, H⟩ := bindE H
    obtain ⟨hy5_9a, hy5_9b, hy5_9c, -⟩ := cutE hy5_9
    obtain ⟨y5_10, hy5_10, H⟩ := bindE H
    have hy5_10a := (appE hy5_10).1
    refine J.cutAt (γ := (Option Addr) × Hd × Hd) (fun q_ => [(2, .pointer (some ⟨p0_0, 0, none⟩)), (4, .pointer (some ⟨p0_1, 0, none⟩))]) (fun q_ => St X w [] [⟨p0_1, [.slice none 0 0], 24⟩, ⟨p0_0, [.slice q_.2.2.1 ((cutL x1_1.f0 ((0 : Int).toNat) ((x2_2 : Int).toNat)) ++ (cutL x1_1.f0 (((IntKind.wrap .i64 (x2_2 + 1)) : Int).toNat) (((x1_1.f0.length : Int) : Int).toNat))).length q_.2.2.2], 24⟩] [] [] [Rd kd43 q_.2.2.1 q_.2.2.2 ((cutL x1_1.f0 ((0 : Int).toNat) ((x2_2 : Int).toNat)) ++ (cutL x1_1.f0 (((IntKind.wrap .i64 (x2_2 + 1)) : Int).toNat) (((x1_1.f0.length : Int) : Int).toNat))), Rd kd43 q_.2.1.1 q_.2.1.2 (cutL x1_1.f0 (((IntKind.wrap .i64 (x2_2 + 1)) : Int).toNat) (((x1_1.f0.length : Int) : Int).toNat)), Rd kd43 ((q_.1, (cutL x1_1.f0 ((0 : Int).toNat) ((x2_2 : Int).toNat)).length) : Hd).1 ((q_.1, (cutL x1_1.f0 ((0 : Int).toNat) ((x2_2 : Int).toNat)).length) : Hd).2 (cutL x1_1.f0 ((0 : Int).toNat) ((x2_2 : Int).toNat)), Rd kd43 p1_1.1 p1_1.2 x1_1.f0, Rd kd43 h0.1 h0.2 a0.f0]) (fun q_ => ?_) (fun hk_ => ?_)
    · obtain ⟨p5_4, p5_9, p5_10⟩ := q_
      refine J.seq (by kernel_rfl) ?_
      refine J.region (by kernel_rfl) ?_
      refine O.pure 3 [(1, 0), (0, 0)] [4, 5] [p0_0, 0, p0_1, 0] (fr' := [(4, .pointer (some ⟨p0_1, 0, none⟩)), (5, .int .i64 0)]) (bx' := [⟨p0_1, [.slice p5_10.1 ((cutL x1_1.f0 ((0 : Int).toNat) ((x2_2 : Int).toNat)) ++ (cutL x1_1.f0 (((IntKind.wrap .i64 (x2_2 + 1)) : Int).toNat) (((x1_1.f0.length : Int) : Int).toNat))).length p5_10.2], 24⟩, ⟨p0_0, [.slice p5_10.1 ((cutL x1_1.f0 ((0 : Int).toNat) ((x2_2 : Int).toNat)) ++ (cutL x1_1.f0 (((IntKind.wrap .i64 (x2_2 + 1)) : Int).toNat) (((x1_1.f0.length : Int) : Int).toNat))).length p5_10.2], 24⟩]) (by kernel_rfl) ?_
      refine O.nil (by kernel_rfl) ?_
      obtain rfl := Option.some.inj H
      exact J.doneS [(0, 0)] [p0_1, 0] [0] [] [] p5_10 (vs := [.agg #[.slice p5_10.1 ((cutL x1_1.f0 ((0 : Int).toNat) ((x2_2 : Int).toNat)) ++ (cutL x1_1.f0 (((IntKind.wrap .i64 (x2_2 + 1)) : Int).toNat) (((x1_1.f0.length : Int) : Int).toNat))).length p5_10.2], .int .i64 0]) (by kernel_rfl) (by kernel_rfl) (by kernel_rfl) (by kernel_rfl) (by kernel_rfl) (by decide)
    · refine J.drawS (by kernel_rfl) [(0, some 15, .pointer (some ⟨p0_0, 0, none⟩)), (1, some 16, .slice p1_1.1 x1_1.f0.length p1_1.2), (2, some 17, .int .i64 x2_2), (3, some 18, .int .i64 x2_2), (5, some 20, .pointer (some ⟨p0_0, 0, none⟩)), (6, some 21, .slice p1_1.1 x1_1.f0.length p1_1.2), (7, some 22, .int .i64 x2_2), (8, some 23, .int .i64 (IntKind.wrap .i64 (x2_2 + 1)))] ([0, 1, 2, 3, 5, 6, 7, 8] ++ []) (by kernel_rfl) ?_
      refine D.mid (cs := [4, 9]) [0, 1, 2, 3, 5, 6, 7, 8] [] [(1, 0), (1, 0)] [p0_0, 0, p0_0, 0] (by kernel_rfl) (by kernel_rfl) trivial (by kernel_rfl) ⟨?_, ?_, trivial⟩
      · refine EvStep.mk (some 19) (new := fun p5_4 => []) ([0, 5, 6, 7, 8] ++ []) (by kernel_rfl) (Ev.mono (fun w hS => hS.freezeH (h := p1_1) (xs := x1_1.f0)) (Ev.cut3 (d := kd43) (xs := x1_1.f0) (t := 22) (x := .tmp 16) (lo := none) (hi := (some (.tmp 17))) (mx := (some (.tmp 18))) (vlo := none) (vhi := (some (.int .i64 x2_2))) (vmx := (some (.int .i64 x2_2))) (A := p1_1.1) (c := p1_1.2) (l := (0 : Int).toNat) (h := (x2_2 : Int).toNat) 0 (by kernel_rfl) (by kernel_rfl) (by kernel_rfl) (by kernel_rfl) (by kernel_rfl) (by kernel_rfl) (Bd.dflt _) ⟨_, _, rfl, by omega, rfl⟩ ⟨_, _, rfl, by omega, rfl⟩ (by omega) (by omega) rfl)) (fun p5_4 => by kernel_rfl) (fun p5_4 => ?_)
        refine D.mid (cs := [9]) [0, 5, 6, 7, 8] [] [(1, 0)] [p0_0, 0] (by kernel_rfl) (by kernel_rfl) trivial (by kernel_rfl) ⟨?_, trivial⟩
        refine EvStep.mk (some 24) (new := fun p5_9 => []) ([0, 5, 7] ++ []) (by kernel_rfl) (Ev.cut (d := kd43) (xs := x1_1.f0) (t := 22) (x := .tmp 21) (lo := (some (.tmp 23))) (hi := none) (vlo := (some (.int .i64 (IntKind.wrap .i64 (x2_2 + 1))))) (vhi := none) (A := p1_1.1) (c := p1_1.2) (l := ((IntKind.wrap .i64 (x2_2 + 1)) : Int).toNat) (h := ((x1_1.f0.length : Int) : Int).toNat) 1 (by kernel_rfl) (by kernel_rfl) (by kernel_rfl) (by kernel_rfl) (by kernel_rfl) (Bd.val _ _ _ (by omega)) (Bd.dflt _) (by omega) (by omega) rfl) (fun p5_9 => by kernel_rfl) (fun p5_9 => ?_)
        refine D.mid (cs := [10]) [0, 5, 7] [] [] [] (by kernel_rfl) (by kernel_rfl) trivial (by kernel_rfl) ⟨?_, trivial⟩
        refine EvStep.mk (some 25) (new := fun p5_10 => [(11, some 26, .pointer (some ⟨p0_0, 0, none⟩))]) ([0, 5, 7, 11] ++ []) (by kernel_rfl) (Ev.appFull (d := kd43) (e := 43) (xs := (cutL x1_1.f0 ((0 : Int).toNat) ((x2_2 : Int).toNat))) (ys := (cutL x1_1.f0 (((IntKind.wrap .i64 (x2_2 + 1)) : Int).toNat) (((x1_1.f0.length : Int) : Int).toNat))) (hx := ((p5_4, (cutL x1_1.f0 ((0 : Int).toNat) ((x2_2 : Int).toNat)).length) : Hd)) (hy := p5_9) (x := .tmp 19) (y := .tmp 24) (t := 22) (bytes := 48) 1 0 (by kernel_rfl) (by kernel_rfl) (by kernel_rfl) rfl rfl (by kernel_rfl) (by decide) hy5_10a) (fun p5_10 => by kernel_rfl) (fun p5_10 => ?_)
        refine D.mid (cs := [12]) [0, 5, 7, 11] [] [] [] (by kernel_rfl) (by kernel_rfl) trivial (by kernel_rfl) ⟨?_, trivial⟩
        refine EvStep.mk none (new := fun _ => []) ([] ++ []) (by kernel_rfl) (Ev.store (kk := 1) (cs := [.slice p5_10.1 ((cutL x1_1.f0 ((0 : Int).toNat) ((x2_2 : Int).toNat)) ++ (cutL x1_1.f0 (((IntKind.wrap .i64 (x2_2 + 1)) : Int).toNat) (((x1_1.f0.length : Int) : Int).toNat))).length p5_10.2]) (1, 0) [p0_0, 0] (by kernel_rfl)) (fun _ => by kernel_rfl) (fun _ => ?_)
        refine D.fin (fr' := [(2, .pointer (some ⟨p0_0, 0, none⟩)), (4, .pointer (some ⟨p0_1, 0, none⟩))]) [] [] [] [] [2, 4] (by kernel_rfl) (by kernel_rfl) trivial (by kernel_rfl) ?_
        exact J.conv2 [2, 4] [0, 1, 2, 3, 4] [0, 1] [] (by kernel_rfl) (by kernel_rfl) (by kernel_rfl) (by kernel_rfl) (by decide) (hk_ (p5_4, p5_9, p5_10))
      · refine EvStep.mk (some 24) (new := fun p5_9 => []) ([0, 1, 2, 3, 5, 7] ++ []) (by kernel_rfl) (Ev.mono (fun w hS => hS.freezeH (h := p1_1) (xs := x1_1.f0)) (Ev.cut (d := kd43) (xs := x1_1.f0) (t := 22) (x := .tmp 21) (lo := (some (.tmp 23))) (hi := none) (vlo := (some (.int .i64 (IntKind.wrap .i64 (x2_2 + 1))))) (vhi := none) (A := p1_1.1) (c := p1_1.2) (l := ((IntKind.wrap .i64 (x2_2 + 1)) : Int).toNat) (h := ((x1_1.f0.length : Int) : Int).toNat) 0 (by kernel_rfl) (by kernel_rfl) (by kernel_rfl) (by kernel_rfl) (by kernel_rfl) (Bd.val _ _ _ (by omega)) (Bd.dflt _) (by omega) (by omega) rfl)) (fun p5_9 => by kernel_rfl) (fun p5_9 => ?_)
        refine D.mid (cs := [4]) [0, 1, 2, 3, 5, 7] [] [(1, 0)] [p0_0, 0] (by kernel_rfl) (by kernel_rfl) trivial (by kernel_rfl) ⟨?_, trivial⟩
        refine EvStep.mk (some 19) (new := fun p5_4 => []) ([0, 5, 7] ++ []) (by kernel_rfl) (Ev.cut3 (d := kd43) (xs := x1_1.f0) (t := 22) (x := .tmp 16) (lo := none) (hi := (some (.tmp 17))) (mx := (some (.tmp 18))) (vlo := none) (vhi := (some (.int .i64 x2_2))) (vmx := (some (.int .i64 x2_2))) (A := p1_1.1) (c := p1_1.2) (l := (0 : Int).toNat) (h := (x2_2 : Int).toNat) 1 (by kernel_rfl) (by kernel_rfl) (by kernel_rfl) (by kernel_rfl) (by kernel_rfl) (by kernel_rfl) (Bd.dflt _) ⟨_, _, rfl, by omega, rfl⟩ ⟨_, _, rfl, by omega, rfl⟩ (by omega) (by omega) rfl) (fun p5_4 => by kernel_rfl) (fun p5_4 => ?_)
        refine D.mid (cs := [10]) [0, 5, 7] [] [] [] (by kernel_rfl) (by kernel_rfl) trivial (by kernel_rfl) ⟨?_, trivial⟩
        refine EvStep.mk (some 25) (new := fun p5_10 => [(11, some 26, .pointer (some ⟨p0_0, 0, none⟩))]) ([0, 5, 7, 11] ++ []) (by kernel_rfl) (Ev.appFull (d := kd43) (e := 43) (xs := (cutL x1_1.f0 ((0 : Int).toNat) ((x2_2 : Int).toNat))) (ys := (cutL x1_1.f0 (((IntKind.wrap .i64 (x2_2 + 1)) : Int).toNat) (((x1_1.f0.length : Int) : Int).toNat))) (hx := ((p5_4, (cutL x1_1.f0 ((0 : Int).toNat) ((x2_2 : Int).toNat)).length) : Hd)) (hy := p5_9) (x := .tmp 19) (y := .tmp 24) (t := 22) (bytes := 48) 0 1 (by kernel_rfl) (by kernel_rfl) (by kernel_rfl) rfl rfl (by kernel_rfl) (by decide) hy5_10a) (fun p5_10 => by kernel_rfl) (fun p5_10 => ?_)
        refine D.mid (cs := [12]) [0, 5, 7, 11] [] [] [] (by kernel_rfl) (by kernel_rfl) trivial (by kernel_rfl) ⟨?_, trivial⟩
        refine EvStep.mk none (new := fun _ => []) ([] ++ []) (by kernel_rfl) (Ev.store (kk := 1) (cs := [.slice p5_10.1 ((cutL x1_1.f0 ((0 : Int).toNat) ((x2_2 : Int).toNat)) ++ (cutL x1_1.f0 (((IntKind.wrap .i64 (x2_2 + 1)) : Int).toNat) (((x1_1.f0.length : Int) : Int).toNat))).length p5_10.2]) (1, 0) [p0_0, 0] (by kernel_rfl)) (fun _ => by kernel_rfl) (fun _ => ?_)
        refine D.fin (fr' := [(2, .pointer (some ⟨p0_0, 0, none⟩)), (4, .pointer (some ⟨p0_1, 0, none⟩))]) [] [] [] [] [2, 4] (by kernel_rfl) (by kernel_rfl) trivial (by kernel_rfl) ?_
        exact J.conv2 [2, 4] [0, 2, 1, 3, 4] [0, 1] [] (by kernel_rfl) (by kernel_rfl) (by kernel_rfl) (by kernel_rfl) (by decide) (hk_ (p5_4, p5_9, p5_10))
/-! ### haywain/haywainlaw13.do: function 23 -/
def haywainlaw13_do.f (K : Nat) (a0 : S24) (a1 : S52) : Option (S24 × Int) := cond (a1.f0 == 0) ((appO 1 ([] : List Int) a1.f3).bind fun y3_6 => (disk_Put.f K a0 a1.f2 (([] : List Int) ++ a1.f3)).bind fun x3_7 => some ((x3_7.1, x3_7.2))) (cond (a1.f0 == 1) ((disk_Sync.f K a0 a1.f2).bind fun x5_3 => some ((x5_3.1, x5_3.2))) (cond (a1.f0 == 2) ((disk_Cut.f K a0 a1.f2 a1.f1).bind fun x7_5 => some ((x7_5.1, x7_5.2))) (cond (a1.f0 == 3) ((disk_Drop.f K a0 a1.f2).bind fun x9_3 => some ((x9_3.1, x9_3.2))) ((disk_Crash.f K a0 a1.f4).bind fun x10_3 => some ((x10_3, 0))))))
set_option maxRecDepth 100000 in
set_option maxHeartbeats 1000000 in
theorem haywainlaw13_do.con (K : Nat) (a0 : S24) (a1 : S52) (h0 : Hd) (h1 : Hd) (h2 : Hd) (r : (S24 × Int)) (X : Nat → Nat → Prop) (w : World) (hS : St X w [] [] [] [] [Rd kd43 h0.1 h0.2 a0.f0, Rd (Kd.int .u8) h1.1 h1.2 a1.f3, Rd (Kd.int .i64) h2.1 h2.2 a1.f4] w) (H : haywainlaw13_do.f K a0 a1 = some r) :
    Cn Try.prog 23 [.agg #[.slice h0.1 a0.f0.length h0.2], .agg #[.int .i64 a1.f0, .int .i64 a1.f1, .string a1.f2, .slice h1.1 a1.f3.length h1.2, .slice h2.1 a1.f4.length h2.2]] X w [] (fun i : Hd => .tuple #[.agg #[.slice i.1 r.1.f0.length i.2], .int .i64 r.2]) (fun i => []) (fun i => []) (fun i => [Rd kd43 i.1 i.2 r.1.f0]) := by
  refine Cn.of Try.func23 (by kernel_rfl) hS ?_
  unfold haywainlaw13_do.f at H
  refine J.seq (by kernel_rfl) ?_
  refine J.region (by kernel_rfl) ?_
  refine O.e (some 2) (Ev.box (t := 24) (x := .tmp 0) (v := .agg #[.slice h0.1 a0.f0.length h0.2]) (by kernel_rfl) (by kernel_rfl)) (by kernel_rfl) (fun p0_0 => ?_)
  refine O.e (some 3) (Ev.box (t := 52) (x := .tmp 1) (v := .agg #[.int .i64 a1.f0, .int .i64 a1.f1, .string a1.f2, .slice h1.1 a1.f3.length h1.2, .slice h2.1 a1.f4.length h2.2]) (by kernel_rfl) (by kernel_rfl)) (by kernel_rfl) (fun p0_1 => ?_)
  refine O.e (some 4) (Ev.alloc (t := 24) (z := .agg #[.slice none 0 0]) (by kernel_rfl) (by kernel_rfl)) (by kernel_rfl) (fun p0_2 => ?_)
  refine O.pure 1 [] [2, 3, 4] [] (fr' := [(2, .pointer (some ⟨p0_0, 0, none⟩)), (3, .pointer (some ⟨p0_1, 0, none⟩)), (4, .pointer (some ⟨p0_2, 0, none⟩))]) (bx' := [⟨p0_2, [.slice none 0 0], 24⟩, ⟨p0_1, [.int .i64 a1.f0, .int .i64 a1.f1, .string a1.f2, .slice h1.1 a1.f3.length h1.2, .slice h2.1 a1.f4.length h2.2], 52⟩, ⟨p0_0, [.slice h0.1 a0.f0.length h0.2], 24⟩]) (by kernel_rfl) ?_
  refine O.nil (by kernel_rfl) ?_
  refine J.seq (by kernel_rfl) ?_
  refine J.seq (by kernel_rfl) ?_
  refine J.region (by kernel_rfl) ?_
  refine O.pure 2 [(1, 0)] [2, 3, 4, 7] [p0_1, 0] (fr' := [(2, .pointer (some ⟨p0_0, 0, none⟩)), (3, .pointer (some ⟨p0_1, 0, none⟩)), (4, .pointer (some ⟨p0_2, 0, none⟩)), (7, .int .i64 a1.f0)]) (bx' := [⟨p0_2, [.slice none 0 0], 24⟩, ⟨p0_1, [.int .i64 a1.f0, .int .i64 a1.f1, .string a1.f2, .slice h1.1 a1.f3.length h1.2, .slice h2.1 a1.f4.length h2.2], 52⟩, ⟨p0_0, [.slice h0.1 a0.f0.length h0.2], 24⟩]) (by kernel_rfl) ?_
  refine O.nil (by kernel_rfl) ?_
  refine J.block (id := 0) (by kernel_rfl) ?_
  refine J.seq (by kernel_rfl) ?_
  refine J.region (by kernel_rfl) ?_
  refine O.pure 2 [] [2, 3, 4, 7, 8] [] (fr' := [(2, .pointer (some ⟨p0_0, 0, none⟩)), (3, .pointer (some ⟨p0_1, 0, none⟩)), (4, .pointer (some ⟨p0_2, 0, none⟩)), (7, .int .i64 a1.f0), (8, .bool (a1.f0 == 0))]) (bx' := [⟨p0_2, [.slice none 0 0], 24⟩, ⟨p0_1, [.int .i64 a1.f0, .int .i64 a1.f1, .string a1.f2, .slice h1.1 a1.f3.length h1.2, .slice h2.1 a1.f4.length h2.2], 52⟩, ⟨p0_0, [.slice h0.1 a0.f0.length h0.2], 24⟩]) (by kernel_rfl) ?_
  refine O.nil (by kernel_rfl) ?_
  rcases condE H with ⟨hc1, H⟩ | ⟨hc1, H⟩
  · refine J.condT (x := .tmp 8) (t := (a1.f0 == 0)) (by kernel_rfl) (by kernel_rfl) hc1 ?_
    refine J.seq (by kernel_rfl) ?_
    obtain ⟨y3_6, hy3_6, H⟩ := bindE H
    have hy3_6a := (appE hy3_6).1
    obtain ⟨x3_7, hx3_7, H⟩ := bindE H
    refine J.drawS (by kernel_rfl) [(0, some 10, .agg #[.slice h0.1 a0.f0.length h0.2]), (1, some 11, .pointer (some ⟨p0_1, 2, none⟩)), (2, some 12, .string a1.f2), (4, some 14, .pointer (some ⟨p0_1, 3, none⟩)), (5, some 15, .slice h1.1 a1.f3.length h1.2)] ([0, 1, 2, 4, 5] ++ []) (by kernel_rfl) ?_
    refine D.mid (cs := [3]) [0, 1, 2, 4, 5] [] [(2, 0), (1, 2), (1, 3)] [p0_0, 0, p0_1, 2, p0_1, 3] (by kernel_rfl) (by kernel_rfl) trivial (by kernel_rfl) ⟨?_, trivial⟩
    refine EvStep.mk (some 13) (new := fun p3_3 => []) ([0, 1, 2, 4, 5] ++ []) (by kernel_rfl) (Ev.lit (t := 30) (len := 0) (parts := #[]) (ps := []) (cs := []) (e := 5) (Kd.int .u8) ([] : List Int) (by kernel_rfl) (by kernel_rfl) (by kernel_rfl) (by kernel_rfl) (by kernel_rfl) (by decide) (fun w' hφ => (Els.nil _ _ _))) (fun p3_3 => by kernel_rfl) (fun p3_3 => ?_)
    refine D.mid (cs := [6]) [0, 1, 2, 4, 5] [] [(2, 0), (1, 2), (1, 3)] [p0_0, 0, p0_1, 2, p0_1, 3] (by kernel_rfl) (by kernel_rfl) trivial (by kernel_rfl) ⟨?_, trivial⟩
    refine EvStep.mk (some 16) (new := fun p3_6 => []) ([0, 1, 2, 4] ++ []) (by kernel_rfl) (Ev.appSl (d := (Kd.int .u8)) (ys := a1.f3) (A := h1.1) (c := h1.2) (x := .tmp 13) (y := .tmp 15) (t := 30) (bytes := 1) 1 (by kernel_rfl) (by kernel_rfl) (by kernel_rfl) rfl (by kernel_rfl) (by decide) hy3_6a) (fun p3_6 => by kernel_rfl) (fun p3_6 => ?_)
    refine D.mid (cs := [7]) [0, 1, 2, 4] [] [(2, 0), (1, 2)] [p0_0, 0, p0_1, 2] (by kernel_rfl) (by kernel_rfl) trivial (by kernel_rfl) ⟨?_, trivial⟩
    refine EvStep.mk (some 17) (new := fun p3_7 => [(8, some 18, .agg #[.slice p3_7.1 x3_7.1.f0.length p3_7.2]), (9, some 19, .int .i64 x3_7.2)]) ([1, 4, 8, 9] ++ []) (by kernel_rfl) (Ev.mono (fun w hS => hS.freezeH (h := p3_6) (xs := (([] : List Int) ++ a1.f3))) (Ev.call0 (xs := [.tmp 10, .tmp 12, .tmp 16]) [1, 0] (by kernel_rfl) (by kernel_rfl) (fun w hS => disk_Put.con K a0 a1.f2 (([] : List Int) ++ a1.f3) h0 p3_6  _ _ w hS hx3_7))) (fun p3_7 => by kernel_rfl) (fun p3_7 => ?_)
    refine D.mid (cs := [10]) [1, 4, 8, 9] [] [] [] (by kernel_rfl) (by kernel_rfl) trivial (by kernel_rfl) ⟨?_, trivial⟩
    refine EvStep.mk none (new := fun _ => [(11, some 5, .int .i64 x3_7.2)]) ([11] ++ []) (by kernel_rfl) (Ev.store (kk := 0) (cs := [.slice p3_7.1 x3_7.1.f0.length p3_7.2]) (0, 0) [p0_2, 0] (by kernel_rfl)) (fun _ => by kernel_rfl) (fun _ => ?_)
    refine D.fin (fr' := [(4, .pointer (some ⟨p0_2, 0, none⟩)), (5, .int .i64 x3_7.2)]) [11] [] [] [] [4, 5] (by kernel_rfl) (by kernel_rfl) trivial (by kernel_rfl) ?_
    obtain rfl := Option.some.inj H
    refine J.mono (fun w hS => hS.freezeH (h := p3_7) (xs := x3_7.1.f0)) ?_
    exact J.doneS [(0, 0)] [p0_2, 0] [0] [] [] p3_7 (vs := [.agg #[.slice p3_7.1 x3_7.1.f0.length p3_7.2], .int .i64 x3_7.2]) (by kernel_rfl) (by kernel_rfl) (by kernel_rfl) (by kernel_rfl) (by kernel_rfl) (by decide)
  · refine J.condF (x := .tmp 8) (t := (a1.f0 == 0)) (by kernel_rfl) (by kernel_rfl) hc1 ?_
    refine J.seq (by kernel_rfl) ?_
    refine J.region (by kernel_rfl) ?_
    refine O.pure 2 [] [2, 3, 4, 7, 20] [] (fr' := [(2, .pointer (some ⟨p0_0, 0, none⟩)), (3, .pointer (some ⟨p0_1, 0, none⟩)), (4, .pointer (some ⟨p0_2, 0, none⟩)), (7, .int .i64 a1.f0), (20, .bool (a1.f0 == 1))]) (bx' := [⟨p0_2, [.slice none 0 0], 24⟩, ⟨p0_1, [.int .i64 a1.f0, .int .i64 a1.f1, .string a1.f2, .slice h1.1 a1.f3.length h1.2, .slice h2.1 a1.f4.length h2.2], 52⟩, ⟨p0_0, [.slice h0.1 a0.f0.length h0.2], 24⟩]) (by kernel_rfl) ?_
    refine O.nil (by kernel_rfl) ?_
    rcases condE H with ⟨hc2, H⟩ | ⟨hc2, H⟩
    · refine J.condT (x := .tmp 20) (t := (a1.f0 == 1)) (by kernel_rfl) (by kernel_rfl) hc2 ?_
      refine J.seq (by kernel_rfl) ?_
      obtain ⟨x5_3, hx5_3, H⟩ := bindE H
      refine J.region (by kernel_rfl) ?_
      refine O.pure 3 [(2, 0), (1, 2)] [4, 22, 24] [p0_0, 0, p0_1, 2] (fr' := [(4, .pointer (some ⟨p0_2, 0, none⟩)), (22, .agg #[.slice h0.1 a0.f0.length h0.2]), (24, .string a1.f2)]) (bx' := [⟨p0_2, [.slice none 0 0], 24⟩, ⟨p0_1, [.int .i64 a1.f0, .int .i64 a1.f1, .string a1.f2, .slice h1.1 a1.f3.length h1.2, .slice h2.1 a1.f4.length h2.2], 52⟩, ⟨p0_0, [.slice h0.1 a0.f0.length h0.2], 24⟩]) (by kernel_rfl) ?_
      refine O.e (some 25) (Ev.call0 (xs := [.tmp 22, .tmp 24]) [0] (by kernel_rfl) (by kernel_rfl) (fun w hS => disk_Sync.con K a0 a1.f2 h0  _ _ w hS hx5_3)) (by kernel_rfl) (fun p5_3 => ?_)
      refine O.pure 4 [(0, 0)] [4, 5] [p0_2, 0] (fr' := [(4, .pointer (some ⟨p0_2, 0, none⟩)), (5, .int .i64 x5_3.2)]) (bx' := [⟨p0_2, [.slice p5_3.1 x5_3.1.f0.length p5_3.2], 24⟩, ⟨p0_1, [.int .i64 a1.f0, .int .i64 a1.f1, .string a1.f2, .slice h1.1 a1.f3.length h1.2, .slice h2.1 a1.f4.length h2.2], 52⟩, ⟨p0_0, [.slice h0.1 a0.f0.length h0.2], 24⟩]) (by kernel_rfl) ?_
      refine O.nil (by kernel_rfl) ?_
      obtain rfl := Option.some.inj H
      refine J.mono (fun w hS => hS.freezeH (h := p5_3) (xs := x5_3.1.f0)) ?_
      exact J.doneS [(0, 0)] [p0_2, 0] [0] [] [] p5_3 (vs := [.agg #[.slice p5_3.1 x5_3.1.f0.length p5_3.2], .int .i64 x5_3.2]) (by kernel_rfl) (by kernel_rfl) (by kernel_rfl) (by kernel_rfl) (by kernel_rfl) (by decide)
    · refine J.condF (x := .tmp 20) (t := (a1.f0 == 1)) (by kernel_rfl) (by kernel_rfl) hc2 ?_
      refine J.seq (by kernel_rfl) ?_
      refine J.region (by kernel_rfl) ?_
      refine O.pure 2 [] [2, 3, 4, 7, 28] [] (fr' := [(2, .pointer (some ⟨p0_0, 0, none⟩)), (3, .pointer (some ⟨p0_1, 0, none⟩)), (4, .pointer (some ⟨p0_2, 0, none⟩)), (7, .int .i64 a1.f0), (28, .bool (a1.f0 == 2))]) (bx' := [⟨p0_2, [.slice none 0 0], 24⟩, ⟨p0_1, [.int .i64 a1.f0, .int .i64 a1.f1, .string a1.f2, .slice h1.1 a1.f3.length h1.2, .slice h2.1 a1.f4.length h2.2], 52⟩, ⟨p0_0, [.slice h0.1 a0.f0.length h0.2], 24⟩]) (by kernel_rfl) ?_
      refine O.nil (by kernel_rfl) ?_
      rcases condE H with ⟨hc3, H⟩ | ⟨hc3, H⟩
      · refine J.condT (x := .tmp 28) (t := (a1.f0 == 2)) (by kernel_rfl) (by kernel_rfl) hc3 ?_
        refine J.seq (by kernel_rfl) ?_
        obtain ⟨x7_5, hx7_5, H⟩ := bindE H
        refine J.region (by kernel_rfl) ?_
        refine O.pure 5 [(2, 0), (1, 2), (1, 1)] [4, 30, 32, 34] [p0_0, 0, p0_1, 2, p0_1, 1] (fr' := [(4, .pointer (some ⟨p0_2, 0, none⟩)), (30, .agg #[.slice h0.1 a0.f0.length h0.2]), (32, .string a1.f2), (34, .int .i64 a1.f1)]) (bx' := [⟨p0_2, [.slice none 0 0], 24⟩, ⟨p0_1, [.int .i64 a1.f0, .int .i64 a1.f1, .string a1.f2, .slice h1.1 a1.f3.length h1.2, .slice h2.1 a1.f4.length h2.2], 52⟩, ⟨p0_0, [.slice h0.1 a0.f0.length h0.2], 24⟩]) (by kernel_rfl) ?_
        refine O.e (some 35) (Ev.call0 (xs := [.tmp 30, .tmp 32, .tmp 34]) [0] (by kernel_rfl) (by kernel_rfl) (fun w hS => disk_Cut.con K a0 a1.f2 a1.f1 h0  _ _ w hS hx7_5)) (by kernel_rfl) (fun p7_5 => ?_)
        refine O.pure 4 [(0, 0)] [4, 5] [p0_2, 0] (fr' := [(4, .pointer (some ⟨p0_2, 0, none⟩)), (5, .int .i64 x7_5.2)]) (bx' := [⟨p0_2, [.slice p7_5.1 x7_5.1.f0.length p7_5.2], 24⟩, ⟨p0_1, [.int .i64 a1.f0, .int .i64 a1.f1, .string a1.f2, .slice h1.1 a1.f3.length h1.2, .slice h2.1 a1.f4.length h2.2], 52⟩, ⟨p0_0, [.slice h0.1 a0.f0.length h0.2], 24⟩]) (by kernel_rfl) ?_
        refine O.nil (by kernel_rfl) ?_
        obtain rfl := Option.some.inj H
        refine J.mono (fun w hS => hS.freezeH (h := p7_5) (xs := x7_5.1.f0)) ?_
        exact J.doneS [(0, 0)] [p0_2, 0] [0] [] [] p7_5 (vs := [.agg #[.slice p7_5.1 x7_5.1.f0.length p7_5.2], .int .i64 x7_5.2]) (by kernel_rfl) (by kernel_rfl) (by kernel_rfl) (by kernel_rfl) (by kernel_rfl) (by decide)
      · refine J.condF (x := .tmp 28) (t := (a1.f0 == 2)) (by kernel_rfl) (by kernel_rfl) hc3 ?_
        refine J.seq (by kernel_rfl) ?_
        refine J.region (by kernel_rfl) ?_
        refine O.pure 2 [] [2, 3, 4, 38] [] (fr' := [(2, .pointer (some ⟨p0_0, 0, none⟩)), (3, .pointer (some ⟨p0_1, 0, none⟩)), (4, .pointer (some ⟨p0_2, 0, none⟩)), (38, .bool (a1.f0 == 3))]) (bx' := [⟨p0_2, [.slice none 0 0], 24⟩, ⟨p0_1, [.int .i64 a1.f0, .int .i64 a1.f1, .string a1.f2, .slice h1.1 a1.f3.length h1.2, .slice h2.1 a1.f4.length h2.2], 52⟩, ⟨p0_0, [.slice h0.1 a0.f0.length h0.2], 24⟩]) (by kernel_rfl) ?_
        refine O.nil (by kernel_rfl) ?_
        rcases condE H with ⟨hc4, H⟩ | ⟨hc4, H⟩
        · refine J.condT (x := .tmp 38) (t := (a1.f0 == 3)) (by kernel_rfl) (by kernel_rfl) hc4 ?_
          refine J.seq (by kernel_rfl) ?_
          obtain ⟨x9_3, hx9_3, H⟩ := bindE H
          refine J.region (by kernel_rfl) ?_
          refine O.pure 3 [(2, 0), (1, 2)] [4, 40, 42] [p0_0, 0, p0_1, 2] (fr' := [(4, .pointer (some ⟨p0_2, 0, none⟩)), (40, .agg #[.slice h0.1 a0.f0.length h0.2]), (42, .string a1.f2)]) (bx' := [⟨p0_2, [.slice none 0 0], 24⟩, ⟨p0_1, [.int .i64 a1.f0, .int .i64 a1.f1, .string a1.f2, .slice h1.1 a1.f3.length h1.2, .slice h2.1 a1.f4.length h2.2], 52⟩, ⟨p0_0, [.slice h0.1 a0.f0.length h0.2], 24⟩]) (by kernel_rfl) ?_
          refine O.e (some 43) (Ev.call0 (xs := [.tmp 40, .tmp 42]) [0] (by kernel_rfl) (by kernel_rfl) (fun w hS => disk_Drop.con K a0 a1.f2 h0  _ _ w hS hx9_3)) (by kernel_rfl) (fun p9_3 => ?_)
          refine O.pure 4 [(0, 0)] [4, 5] [p0_2, 0] (fr' := [(4, .pointer (some ⟨p0_2, 0, none⟩)), (5, .int .i64 x9_3.2)]) (bx' := [⟨p0_2, [.slice p9_3.1 x9_3.1.f0.length p9_3.2], 24⟩, ⟨p0_1, [.int .i64 a1.f0, .int .i64 a1.f1, .string a1.f2, .slice h1.1 a1.f3.length h1.2, .slice h2.1 a1.f4.length h2.2], 52⟩, ⟨p0_0, [.slice h0.1 a0.f0.length h0.2], 24⟩]) (by kernel_rfl) ?_
          refine O.nil (by kernel_rfl) ?_
          obtain rfl := Option.some.inj H
          exact J.doneS [(0, 0)] [p0_2, 0] [0] [] [] p9_3 (vs := [.agg #[.slice p9_3.1 x9_3.1.f0.length p9_3.2], .int .i64 x9_3.2]) (by kernel_rfl) (by kernel_rfl) (by kernel_rfl) (by kernel_rfl) (by kernel_rfl) (by decide)
        · refine J.condF (x := .tmp 38) (t := (a1.f0 == 3)) (by kernel_rfl) (by kernel_rfl) hc4 ?_
          refine J.skip (by kernel_rfl) ?_
          refine J.out ?_
          refine J.seq (by kernel_rfl) ?_
          obtain ⟨x10_3, hx10_3, H⟩ := bindE H
          refine J.region (by kernel_rfl) ?_
          refine O.pure 3 [(2, 0), (1, 4)] [4, 46, 48] [p0_0, 0, p0_1, 4] (fr' := [(4, .pointer (some ⟨p0_2, 0, none⟩)), (46, .agg #[.slice h0.1 a0.f0.length h0.2]), (48, .slice h2.1 a1.f4.length h2.2)]) (bx' := [⟨p0_2, [.slice none 0 0], 24⟩, ⟨p0_1, [.int .i64 a1.f0, .int .i64 a1.f1, .string a1.f2, .slice h1.1 a1.f3.length h1.2, .slice h2.1 a1.f4.length h2.2], 52⟩, ⟨p0_0, [.slice h0.1 a0.f0.length h0.2], 24⟩]) (by kernel_rfl) ?_
          refine O.e (some 49) (Ev.call0 (xs := [.tmp 46, .tmp 48]) [0, 2] (by kernel_rfl) (by kernel_rfl) (fun w hS => disk_Crash.con K a0 a1.f4 h0 h2  _ _ w hS hx10_3)) (by kernel_rfl) (fun p10_3 => ?_)
          refine O.pure 2 [(0, 0)] [4, 5] [p0_2, 0] (fr' := [(4, .pointer (some ⟨p0_2, 0, none⟩)), (5, .int .i64 0)]) (bx' := [⟨p0_2, [.slice p10_3.1 x10_3.f0.length p10_3.2], 24⟩, ⟨p0_1, [.int .i64 a1.f0, .int .i64 a1.f1, .string a1.f2, .slice h1.1 a1.f3.length h1.2, .slice h2.1 a1.f4.length h2.2], 52⟩, ⟨p0_0, [.slice h0.1 a0.f0.length h0.2], 24⟩]) (by kernel_rfl) ?_
          refine O.nil (by kernel_rfl) ?_
          obtain rfl := Option.some.inj H
          refine J.mono (fun w hS => hS.freezeH (h := p10_3) (xs := x10_3.f0)) ?_
          exact J.doneS [(0, 0)] [p0_2, 0] [0] [] [] p10_3 (vs := [.agg #[.slice p10_3.1 x10_3.f0.length p10_3.2], .int .i64 0]) (by kernel_rfl) (by kernel_rfl) (by kernel_rfl) (by kernel_rfl) (by kernel_rfl) (by decide)
/-! ### haywain/haywainref13.with: function 39 -/
def haywainref13_with.l23 (K : Nat) (a0 : List S39) (a1 : S39) : Nat → ((List S39) × Bool × Int) → Option ((List S39) × Bool)
  | 0, _ => none
  | k + 1, s23 => cond (decide (s23.2.2 < (a0.length : Int))) (cond (!s23.2.1) ((idxO a0 s23.2.2).bind fun x6_5 => (cond (!(Op.bytesLess x6_5.f0.toList a1.f0.toList)) ((appO 48 s23.1 ([a1] : List S39)).bind fun y7_3 => some (((s23.1 ++ ([a1] : List S39)), true))) (some ((s23.1, s23.2.1))) : Option ((List S39) × Bool)).bind fun o38 : (List S39) × Bool => (idxO a0 s23.2.2).bind fun x9_2 => cond (!(x9_2.f0.toList == a1.f0.toList)) ((idxO a0 s23.2.2).bind fun x10_3 => (appO 48 o38.1 ([x10_3] : List S39)).bind fun y10_6 => haywainref13_with.l23 K a0 a1 k ((o38.1 ++ ([x10_3] : List S39)), o38.2, (IntKind.wrap .i64 (s23.2.2 + 1)))) (haywainref13_with.l23 K a0 a1 k (o38.1, o38.2, (IntKind.wrap .i64 (s23.2.2 + 1))))) ((idxO a0 s23.2.2).bind fun x9_2 => cond (!(x9_2.f0.toList == a1.f0.toList)) ((idxO a0 s23.2.2).bind fun x10_3 => (appO 48 s23.1 ([x10_3] : List S39)).bind fun y10_6 => haywainref13_with.l23 K a0 a1 k ((s23.1 ++ ([x10_3] : List S39)), s23.2.1, (IntKind.wrap .i64 (s23.2.2 + 1)))) (haywainref13_with.l23 K a0 a1 k (s23.1, s23.2.1, (IntKind.wrap .i64 (s23.2.2 + 1)))))) (some ((s23.1, s23.2.1)))
def haywainref13_with.f (K : Nat) (a0 : List S39) (a1 : S39) : Option (List S39) := (haywainref13_with.l23 K a0 a1 K (([] : List S39), false, 0) : Option ((List S39) × Bool)).bind fun o1 : (List S39) × Bool => cond (!o1.2) ((appO 48 o1.1 ([a1] : List S39)).bind fun y12_3 => some ((o1.1 ++ ([a1] : List S39)))) (some (o1.1))
set_option maxRecDepth 100000 in
set_option maxHeartbeats 1000000 in
theorem haywainref13_with.con (K : Nat) (a0 : List S39) (a1 : S39) (h0 : Hd) (h1 : Hd) (r : (List S39)) (X : Nat → Nat → Prop) (w : World) (hS : St X w [] [] [] [] [Rd kd39 h0.1 h0.2 a0, Rd (Kd.int .u8) h1.1 h1.2 a1.f1] w) (H : haywainref13_with.f K a0 a1 = some r) :
    Cn Try.prog 39 [.slice h0.1 a0.length h0.2, .agg #[.string a1.f0, .slice h1.1 a1.f1.length h1.2, .int .i64 a1.f2]] X w [] (fun i : Hd => .slice i.1 r.length i.2) (fun i => []) (fun i => [mkRow kd39 39 (.slice i.1 r.length i.2) r]) (fun i => []) := by
  refine Cn.of Try.func39 (by kernel_rfl) hS ?_
  unfold haywainref13_with.f at H
  refine J.seq (by kernel_rfl) ?_
  refine J.region (by kernel_rfl) ?_
  refine O.e (some 3) (Ev.box (t := 39) (x := .tmp 1) (v := .agg #[.string a1.f0, .slice h1.1 a1.f1.length h1.2, .int .i64 a1.f2]) (by kernel_rfl) (by kernel_rfl)) (by kernel_rfl) (fun p0_0 => ?_)
  refine O.pure 1 [] [0, 3] [] (fr' := [(0, .slice h0.1 a0.length h0.2), (3, .pointer (some ⟨p0_0, 0, none⟩))]) (bx' := [⟨p0_0, [.string a1.f0, .slice h1.1 a1.f1.length h1.2, .int .i64 a1.f2], 39⟩]) (by kernel_rfl) ?_
  refine O.nil (by kernel_rfl) ?_
  refine J.seq (by kernel_rfl) ?_
  refine J.region (by kernel_rfl) ?_
  refine O.pure 1 [] [0, 3, 5] [] (fr' := [(0, .slice h0.1 a0.length h0.2), (3, .pointer (some ⟨p0_0, 0, none⟩)), (5, .slice none 0 0)]) (bx' := [⟨p0_0, [.string a1.f0, .slice h1.1 a1.f1.length h1.2, .int .i64 a1.f2], 39⟩]) (by kernel_rfl) ?_
  refine O.nil (by kernel_rfl) ?_
  refine J.seq (by kernel_rfl) ?_
  refine J.region (by kernel_rfl) ?_
  refine O.pure 1 [] [0, 3, 5, 6] [] (fr' := [(0, .slice h0.1 a0.length h0.2), (3, .pointer (some ⟨p0_0, 0, none⟩)), (5, .slice none 0 0), (6, .bool false)]) (bx' := [⟨p0_0, [.string a1.f0, .slice h1.1 a1.f1.length h1.2, .int .i64 a1.f2], 39⟩]) (by kernel_rfl) ?_
  refine O.nil (by kernel_rfl) ?_
  refine J.seq (by kernel_rfl) ?_
  refine J.seq (by kernel_rfl) ?_
  refine J.region (by kernel_rfl) ?_
  refine O.pure 1 [] [0, 3, 5, 6, 7] [] (fr' := [(0, .slice h0.1 a0.length h0.2), (3, .pointer (some ⟨p0_0, 0, none⟩)), (5, .slice none 0 0), (6, .bool false), (7, .int .i64 0)]) (bx' := [⟨p0_0, [.string a1.f0, .slice h1.1 a1.f1.length h1.2, .int .i64 a1.f2], 39⟩]) (by kernel_rfl) ?_
  refine O.nil (by kernel_rfl) ?_
  refine J.join (α := (List S39) × Bool) (γ := Hd) (fun o1 q1 => [(3, .pointer (some ⟨p0_0, 0, none⟩)), (5, .slice q1.1 o1.1.length q1.2), (6, .bool o1.2)]) (fun o1 q1 => St X w [] [⟨p0_0, [.string a1.f0, .slice h1.1 a1.f1.length h1.2, .int .i64 a1.f2], 39⟩] [mkRow kd39 39 (.slice q1.1 o1.1.length q1.2) o1.1] [] [Rd kd39 h0.1 h0.2 a0, Rd (Kd.int .u8) h1.1 h1.2 a1.f1]) H (fun o1 q1 H => ?_) (fun o1 H hj1 => ?_)
  · refine J.seq (by kernel_rfl) ?_
    refine J.seq (by kernel_rfl) ?_
    refine J.region (by kernel_rfl) ?_
    refine O.pure 2 [] [3, 5, 46] [] (fr' := [(3, .pointer (some ⟨p0_0, 0, none⟩)), (5, .slice q1.1 o1.1.length q1.2), (46, .bool (!o1.2))]) (bx' := [⟨p0_0, [.string a1.f0, .slice h1.1 a1.f1.length h1.2, .int .i64 a1.f2], 39⟩]) (by kernel_rfl) ?_
    refine O.nil (by kernel_rfl) ?_
    rcases condE H with ⟨hc22, H⟩ | ⟨hc22, H⟩
    · refine J.condT (x := .tmp 46) (t := (!o1.2)) (by kernel_rfl) (by kernel_rfl) hc22 ?_
      obtain ⟨y12_3, hy12_3, H⟩ := bindE H
      have hy12_3a := (appE hy12_3).1
      refine J.region (by kernel_rfl) ?_
      refine O.pure 2 [(0, 0)] [5, 47, 48] [p0_0, 0] (fr' := [(5, .slice q1.1 o1.1.length q1.2), (47, .slice q1.1 o1.1.length q1.2), (48, .agg #[.string a1.f0, .slice h1.1 a1.f1.length h1.2, .int .i64 a1.f2])]) (bx' := [⟨p0_0, [.string a1.f0, .slice h1.1 a1.f1.length h1.2, .int .i64 a1.f2], 39⟩]) (by kernel_rfl) ?_
      refine O.e (some 49) (Ev.lit (t := 27) (len := 1) (parts := #[(0, .tmp 48)]) (ps := [(0, .agg #[.string a1.f0, .slice h1.1 a1.f1.length h1.2, .int .i64 a1.f2])]) (cs := [.string a1.f0, .slice h1.1 a1.f1.length h1.2, .int .i64 a1.f2]) (e := 39) kd39 ([a1] : List S39) (by kernel_rfl) (by kernel_rfl) (by kernel_rfl) (by kernel_rfl) (by kernel_rfl) (by decide) (fun w' hφ => (Els.cons (c := [.string a1.f0, .slice h1.1 a1.f1.length h1.2, .int .i64 a1.f2]) (⟨h1, rfl, hφ _ (List.mem_of_getElem? (i := 1) rfl)⟩) (Els.nil _ _ _)))) (by kernel_rfl) (fun p12_2 => ?_)
      refine O.e (some 50) (Ev.appLit (x := .tmp 47) (y := .tmp 49) (t := 27) (bytes := 48) (by kernel_rfl) (by kernel_rfl) (by kernel_rfl) (by kernel_rfl) (by kernel_rfl) (by decide) hy12_3a) (by kernel_rfl) (fun p12_3 => ?_)
      refine O.pure 1 [] [5] [] (fr' := [(5, .slice p12_3.1 (o1.1 ++ ([a1] : List S39)).length p12_3.2)]) (bx' := [⟨p0_0, [.string a1.f0, .slice h1.1 a1.f1.length h1.2, .int .i64 a1.f2], 39⟩]) (by kernel_rfl) ?_
      refine O.nil (by kernel_rfl) ?_
      refine J.seq (by kernel_rfl) ?_
      refine J.region (by kernel_rfl) ?_
      refine O.pure 2 [] [4] [] (fr' := [(4, .slice p12_3.1 (o1.1 ++ ([a1] : List S39)).length p12_3.2)]) (bx' := [⟨p0_0, [.string a1.f0, .slice h1.1 a1.f1.length h1.2, .int .i64 a1.f2], 39⟩]) (by kernel_rfl) ?_
      refine O.nil (by kernel_rfl) ?_
      obtain rfl := Option.some.inj H
      exact J.doneS [] [] [] [] [0] p12_3 (vs := [.slice p12_3.1 (o1.1 ++ ([a1] : List S39)).length p12_3.2]) (by kernel_rfl) (by kernel_rfl) (by kernel_rfl) (by kernel_rfl) (by kernel_rfl) (by decide)
    · refine J.condF (x := .tmp 46) (t := (!o1.2)) (by kernel_rfl) (by kernel_rfl) hc22 ?_
      refine J.skip (by kernel_rfl) ?_
      refine J.seq (by kernel_rfl) ?_
      refine J.region (by kernel_rfl) ?_
      refine O.pure 2 [] [4] [] (fr' := [(4, .slice q1.1 o1.1.length q1.2)]) (bx' := [⟨p0_0, [.string a1.f0, .slice h1.1 a1.f1.length h1.2, .int .i64 a1.f2], 39⟩]) (by kernel_rfl) ?_
      refine O.nil (by kernel_rfl) ?_
      obtain rfl := Option.some.inj H
      exact J.doneS [] [] [] [] [0] q1 (vs := [.slice q1.1 o1.1.length q1.2]) (by kernel_rfl) (by kernel_rfl) (by kernel_rfl) (by kernel_rfl) (by kernel_rfl) (by decide)
  · refine J.block (id := 0) (by kernel_rfl) ?_
    refine J.loopI (σ := (List S39) × Bool × Int) (γ := Hd) (f := fun m_ s_ => haywainref13_with.l23 K a0 a1 m_ s_) (fun s23 g23 => [(0, .slice h0.1 a0.length h0.2), (3, .pointer (some ⟨p0_0, 0, none⟩)), (5, .slice g23.1 s23.1.length g23.2), (6, .bool s23.2.1), (7, .int .i64 s23.2.2)]) (fun s23 g23 => St X w [] [⟨p0_0, [.string a1.f0, .slice h1.1 a1.f1.length h1.2, .int .i64 a1.f2], 39⟩] [mkRow kd39 39 (.slice g23.1 s23.1.length g23.2) s23.1] [] [Rd kd39 h0.1 h0.2 a0, Rd (Kd.int .u8) h1.1 h1.2 a1.f1]) K (([] : List S39), false, 0) (none, 0) (by kernel_rfl) H (fun _ => rfl) (fun m_ s23 H ih23 g23 => ?_) (fun h_ => ?_)
    · unfold haywainref13_with.l23 at H
      refine J.seq (by kernel_rfl) ?_
      refine J.seq (by kernel_rfl) ?_
      refine J.region (by kernel_rfl) ?_
      refine O.pure 4 [] [0, 3, 5, 6, 7, 11] [] (fr' := [(0, .slice h0.1 a0.length h0.2), (3, .pointer (some ⟨p0_0, 0, none⟩)), (5, .slice g23.1 s23.1.length g23.2), (6, .bool s23.2.1), (7, .int .i64 s23.2.2), (11, .bool (decide (s23.2.2 < (a0.length : Int))))]) (bx' := [⟨p0_0, [.string a1.f0, .slice h1.1 a1.f1.length h1.2, .int .i64 a1.f2], 39⟩]) (by kernel_rfl) ?_
      refine O.nil (by kernel_rfl) ?_
      rcases condE H with ⟨hc36, H⟩ | ⟨hc36, H⟩
      · refine J.condT (x := .tmp 11) (t := (decide (s23.2.2 < (a0.length : Int)))) (by kernel_rfl) (by kernel_rfl) hc36 ?_
        refine J.skip (by kernel_rfl) ?_
        refine J.seq (by kernel_rfl) ?_
        refine J.block (id := 1) (by kernel_rfl) ?_
        refine J.seq (by kernel_rfl) ?_
        refine J.seq (by kernel_rfl) ?_
        rcases condE H with ⟨hc37, H⟩ | ⟨hc37, H⟩
        · obtain ⟨x6_5, hx6_5, H⟩ := bindE H
          obtain ⟨hx6_5a, hx6_5⟩ := idxE hx6_5
          refine J.open (d := kd39) (h := h0) (i := s23.2.2) 0 rfl hx6_5 (op39 _) (fun p6_5 hp6_5A => ?_)
          refine J.drawS (by kernel_rfl) [(0, some 14, .bool s23.2.1), (2, some 16, .bool true), (3, some 17, .slice h0.1 a0.length h0.2), (4, some 18, .int .i64 s23.2.2), (6, some 20, .pointer (some ⟨p6_5.1, p6_5.2.1 + s23.2.2.toNat * 3, none⟩)), (7, some 21, .string x6_5.f0), (8, some 22, .pointer (some ⟨p0_0, 0, none⟩)), (9, some 23, .string a1.f0), (10, some 24, .bool (!(Op.bytesLess x6_5.f0.toList a1.f0.toList))), (11, some 25, .bool (!(Op.bytesLess x6_5.f0.toList a1.f0.toList))), (1, some 15, .bool true), (5, some 19, .pointer (some ⟨p6_5.1, p6_5.2.1 + s23.2.2.toNat * 3, none⟩))] ([0, 2, 3, 4, 6, 7, 8, 9, 10, 11] ++ [1, 5]) (by kernel_rfl) ?_
          refine D.fin (fr' := [(0, .slice h0.1 a0.length h0.2), (3, .pointer (some ⟨p0_0, 0, none⟩)), (5, .slice g23.1 s23.1.length g23.2), (6, .bool s23.2.1), (7, .int .i64 s23.2.2), (17, .slice h0.1 a0.length h0.2), (18, .int .i64 s23.2.2), (19, .pointer (some ⟨p6_5.1, p6_5.2.1 + s23.2.2.toNat * 3, none⟩)), (20, .pointer (some ⟨p6_5.1, p6_5.2.1 + s23.2.2.toNat * 3, none⟩)), (21, .string x6_5.f0), (22, .pointer (some ⟨p0_0, 0, none⟩)), (23, .string a1.f0), (24, .bool (!(Op.bytesLess x6_5.f0.toList a1.f0.toList))), (25, .bool (!(Op.bytesLess x6_5.f0.toList a1.f0.toList)))]) [0, 2, 3, 4, 6, 7, 8, 9, 10, 11] [1, 5] [(1, 0), (0, 0)] [p6_5.1, p6_5.2.1 + s23.2.2.toNat * 3, p0_0, 0] [0, 3, 5, 6, 7, 17, 18, 19, 20, 21, 22, 23, 24, 25] (by kernel_rfl) (by kernel_rfl) (⟨QuAt.mk (v := .bool true) (some 15) (by kernel_rfl) (by kernel_rfl) (Qu.eqv (u := .bool (!s23.2.1)) (v := .bool true) (0, 0) [] (by kernel_rfl) (congrArg Value.bool hc37)), QuAt.mk (v := .pointer (some ⟨p6_5.1, p6_5.2.1 + s23.2.2.toNat * 3, none⟩)) (some 19) (by kernel_rfl) (by kernel_rfl) (Qu.idx (t := 27) (x := .tmp 17) (y := .tmp 18) (c := h0.2) (kk := .i64) (sz := 3) (by kernel_rfl) (by kernel_rfl) (by kernel_rfl) (by kernel_rfl) hx6_5a (idx_lt hx6_5) hp6_5A), trivial⟩) (by kernel_rfl) ?_
          refine J.join (α := (List S39) × Bool) (γ := Hd) (fun o38 q38 => [(0, .slice h0.1 a0.length h0.2), (3, .pointer (some ⟨p0_0, 0, none⟩)), (5, .slice q38.1 o38.1.length q38.2), (6, .bool o38.2), (7, .int .i64 s23.2.2), (17, .slice h0.1 a0.length h0.2), (18, .int .i64 s23.2.2), (19, .pointer (some ⟨p6_5.1, p6_5.2.1 + s23.2.2.toNat * 3, none⟩)), (20, .pointer (some ⟨p6_5.1, p6_5.2.1 + s23.2.2.toNat * 3, none⟩)), (21, .string x6_5.f0), (22, .pointer (some ⟨p0_0, 0, none⟩)), (23, .string a1.f0), (24, .bool (!(Op.bytesLess x6_5.f0.toList a1.f0.toList)))]) (fun o38 q38 => St X w [] [⟨p0_0, [.string a1.f0, .slice h1.1 a1.f1.length h1.2, .int .i64 a1.f2], 39⟩] [mkRow kd39 39 (.slice q38.1 o38.1.length q38.2) o38.1] [] [Rd kd39 h0.1 h0.2 a0, Rd (Kd.int .u8) h1.1 h1.2 a1.f1]) H (fun o38 q38 H => ?_) (fun o38 H hj38 => ?_)
          · refine J.seq (by kernel_rfl) ?_
            obtain ⟨x9_2, hx9_2, H⟩ := bindE H
            obtain ⟨hx9_2a, hx9_2⟩ := idxE hx9_2
            refine J.open (d := kd39) (h := h0) (i := s23.2.2) 0 rfl hx9_2 (op39 _) (fun p9_2 hp9_2A => ?_)
            refine J.drawS (by kernel_rfl) [(0, some 30, .slice h0.1 a0.length h0.2), (1, some 31, .int .i64 s23.2.2), (3, some 33, .pointer (some ⟨p9_2.1, p9_2.2.1 + s23.2.2.toNat * 3, none⟩)), (4, some 34, .string x9_2.f0), (5, some 35, .pointer (some ⟨p0_0, 0, none⟩)), (6, some 36, .string a1.f0), (7, some 37, .bool (!(x9_2.f0.toList == a1.f0.toList))), (2, some 32, .pointer (some ⟨p9_2.1, p9_2.2.1 + s23.2.2.toNat * 3, none⟩))] ([0, 1, 3, 4, 5, 6, 7] ++ [2]) (by kernel_rfl) ?_
            refine D.fin (fr' := [(0, .slice h0.1 a0.length h0.2), (3, .pointer (some ⟨p0_0, 0, none⟩)), (5, .slice q38.1 o38.1.length q38.2), (6, .bool o38.2), (7, .int .i64 s23.2.2), (17, .slice h0.1 a0.length h0.2), (18, .int .i64 s23.2.2), (19, .pointer (some ⟨p6_5.1, p6_5.2.1 + s23.2.2.toNat * 3, none⟩)), (20, .pointer (some ⟨p6_5.1, p6_5.2.1 + s23.2.2.toNat * 3, none⟩)), (21, .string x6_5.f0), (22, .pointer (some ⟨p0_0, 0, none⟩)), (23, .string a1.f0), (24, .bool (!(Op.bytesLess x6_5.f0.toList a1.f0.toList))), (37, .bool (!(x9_2.f0.toList == a1.f0.toList)))]) [0, 1, 3, 4, 5, 6, 7] [2] [(1, 0), (0, 0)] [p9_2.1, p9_2.2.1 + s23.2.2.toNat * 3, p0_0, 0] [0, 3, 5, 6, 7, 17, 18, 19, 20, 21, 22, 23, 24, 37] (by kernel_rfl) (by kernel_rfl) (⟨QuAt.mk (v := .pointer (some ⟨p9_2.1, p9_2.2.1 + s23.2.2.toNat * 3, none⟩)) (some 32) (by kernel_rfl) (by kernel_rfl) (Qu.idx (t := 27) (x := .tmp 30) (y := .tmp 31) (c := h0.2) (kk := .i64) (sz := 3) (by kernel_rfl) (by kernel_rfl) (by kernel_rfl) (by kernel_rfl) hx9_2a (idx_lt hx9_2) hp9_2A), trivial⟩) (by kernel_rfl) ?_
            rcases condE H with ⟨hc40, H⟩ | ⟨hc40, H⟩
            · refine J.condT (x := .tmp 37) (t := (!(x9_2.f0.toList == a1.f0.toList))) (by kernel_rfl) (by kernel_rfl) hc40 ?_
              obtain ⟨x10_3, hx10_3, H⟩ := bindE H
              obtain ⟨hx10_3a, hx10_3⟩ := idxE hx10_3
              obtain ⟨y10_6, hy10_6, H⟩ := bindE H
              have hy10_6a := (appE hy10_6).1
              refine J.region (by kernel_rfl) ?_
              refine O.pure 3 [] [0, 3, 5, 6, 7, 17, 18, 19, 20, 21, 22, 23, 24, 38, 39, 40] [] (fr' := [(0, .slice h0.1 a0.length h0.2), (3, .pointer (some ⟨p0_0, 0, none⟩)), (5, .slice q38.1 o38.1.length q38.2), (6, .bool o38.2), (7, .int .i64 s23.2.2), (17, .slice h0.1 a0.length h0.2), (18, .int .i64 s23.2.2), (19, .pointer (some ⟨p6_5.1, p6_5.2.1 + s23.2.2.toNat * 3, none⟩)), (20, .pointer (some ⟨p6_5.1, p6_5.2.1 + s23.2.2.toNat * 3, none⟩)), (21, .string x6_5.f0), (22, .pointer (some ⟨p0_0, 0, none⟩)), (23, .string a1.f0), (24, .bool (!(Op.bytesLess x6_5.f0.toList a1.f0.toList))), (38, .slice q38.1 o38.1.length q38.2), (39, .slice h0.1 a0.length h0.2), (40, .int .i64 s23.2.2)]) (bx' := [⟨p0_0, [.string a1.f0, .slice h1.1 a1.f1.length h1.2, .int .i64 a1.f2], 39⟩]) (by kernel_rfl) ?_
              refine O.open (d := kd39) (h := h0) (i := s23.2.2) 1 rfl hx10_3 (op39 _) (fun p10_3 hp10_3A => ?_)
              refine O.q (v := .pointer (some ⟨p10_3.1, p10_3.2.1 + s23.2.2.toNat * 3, none⟩)) (some 41) (Qu.idx (t := 27) (x := .tmp 39) (y := .tmp 40) (c := h0.2) (kk := .i64) (sz := 3) (by kernel_rfl) (by kernel_rfl) (by kernel_rfl) (by kernel_rfl) hx10_3a (idx_lt hx10_3) hp10_3A) (by kernel_rfl) ?_
              refine O.pure 1 [(1, 0)] [0, 3, 5, 6, 7, 17, 18, 19, 20, 21, 22, 23, 24, 38, 42] [p10_3.1, p10_3.2.1 + s23.2.2.toNat * 3] (fr' := [(0, .slice h0.1 a0.length h0.2), (3, .pointer (some ⟨p0_0, 0, none⟩)), (5, .slice q38.1 o38.1.length q38.2), (6, .bool o38.2), (7, .int .i64 s23.2.2), (17, .slice h0.1 a0.length h0.2), (18, .int .i64 s23.2.2), (19, .pointer (some ⟨p6_5.1, p6_5.2.1 + s23.2.2.toNat * 3, none⟩)), (20, .pointer (some ⟨p6_5.1, p6_5.2.1 + s23.2.2.toNat * 3, none⟩)), (21, .string x6_5.f0), (22, .pointer (some ⟨p0_0, 0, none⟩)), (23, .string a1.f0), (24, .bool (!(Op.bytesLess x6_5.f0.toList a1.f0.toList))), (38, .slice q38.1 o38.1.length q38.2), (42, .agg #[.string x10_3.f0, .slice p10_3.2.2.1 x10_3.f1.length p10_3.2.2.2, .int .i64 x10_3.f2])]) (bx' := [⟨p0_0, [.string a1.f0, .slice h1.1 a1.f1.length h1.2, .int .i64 a1.f2], 39⟩]) (by kernel_rfl) ?_
              refine O.e (some 43) (Ev.lit (t := 27) (len := 1) (parts := #[(0, .tmp 42)]) (ps := [(0, .agg #[.string x10_3.f0, .slice p10_3.2.2.1 x10_3.f1.length p10_3.2.2.2, .int .i64 x10_3.f2])]) (cs := [.string x10_3.f0, .slice p10_3.2.2.1 x10_3.f1.length p10_3.2.2.2, .int .i64 x10_3.f2]) (e := 39) kd39 ([x10_3] : List S39) (by kernel_rfl) (by kernel_rfl) (by kernel_rfl) (by kernel_rfl) (by kernel_rfl) (by decide) (fun w' hφ => (Els.cons (c := [.string x10_3.f0, .slice p10_3.2.2.1 x10_3.f1.length p10_3.2.2.2, .int .i64 x10_3.f2]) (⟨p10_3.2.2, rfl, hφ _ (List.mem_of_getElem? (i := 0) rfl)⟩) (Els.nil _ _ _)))) (by kernel_rfl) (fun p10_5 => ?_)
              refine O.e (some 44) (Ev.appLit (x := .tmp 38) (y := .tmp 43) (t := 27) (bytes := 48) (by kernel_rfl) (by kernel_rfl) (by kernel_rfl) (by kernel_rfl) (by kernel_rfl) (by decide) hy10_6a) (by kernel_rfl) (fun p10_6 => ?_)
              refine O.pure 1 [] [0, 3, 5, 6, 7, 17, 18, 19, 20, 21, 22, 23, 24] [] (fr' := [(0, .slice h0.1 a0.length h0.2), (3, .pointer (some ⟨p0_0, 0, none⟩)), (5, .slice p10_6.1 (o38.1 ++ ([x10_3] : List S39)).length p10_6.2), (6, .bool o38.2), (7, .int .i64 s23.2.2), (17, .slice h0.1 a0.length h0.2), (18, .int .i64 s23.2.2), (19, .pointer (some ⟨p6_5.1, p6_5.2.1 + s23.2.2.toNat * 3, none⟩)), (20, .pointer (some ⟨p6_5.1, p6_5.2.1 + s23.2.2.toNat * 3, none⟩)), (21, .string x6_5.f0), (22, .pointer (some ⟨p0_0, 0, none⟩)), (23, .string a1.f0), (24, .bool (!(Op.bytesLess x6_5.f0.toList a1.f0.toList)))]) (bx' := [⟨p0_0, [.string a1.f0, .slice h1.1 a1.f1.length h1.2, .int .i64 a1.f2], 39⟩]) (by kernel_rfl) ?_
              refine O.nil (by kernel_rfl) ?_
              refine J.out ?_
              refine J.region (by kernel_rfl) ?_
              refine O.pure 3 [] [0, 3, 5, 6, 7, 17, 18, 19, 20, 21, 22, 23, 24] [] (fr' := [(0, .slice h0.1 a0.length h0.2), (3, .pointer (some ⟨p0_0, 0, none⟩)), (5, .slice p10_6.1 (o38.1 ++ ([x10_3] : List S39)).length p10_6.2), (6, .bool o38.2), (7, .int .i64 (IntKind.wrap .i64 (s23.2.2 + 1))), (17, .slice h0.1 a0.length h0.2), (18, .int .i64 s23.2.2), (19, .pointer (some ⟨p6_5.1, p6_5.2.1 + s23.2.2.toNat * 3, none⟩)), (20, .pointer (some ⟨p6_5.1, p6_5.2.1 + s23.2.2.toNat * 3, none⟩)), (21, .string x6_5.f0), (22, .pointer (some ⟨p0_0, 0, none⟩)), (23, .string a1.f0), (24, .bool (!(Op.bytesLess x6_5.f0.toList a1.f0.toList)))]) (bx' := [⟨p0_0, [.string a1.f0, .slice h1.1 a1.f1.length h1.2, .int .i64 a1.f2], 39⟩]) (by kernel_rfl) ?_
              refine O.nil (by kernel_rfl) ?_
              exact J.conv2 [0, 3, 5, 6, 7] [2, 3] [0] [0] (by kernel_rfl) (by kernel_rfl) (by kernel_rfl) (by kernel_rfl) (by decide) (ih23 ((o38.1 ++ ([x10_3] : List S39)), o38.2, (IntKind.wrap .i64 (s23.2.2 + 1))) p10_6 H)
            · refine J.condF (x := .tmp 37) (t := (!(x9_2.f0.toList == a1.f0.toList))) (by kernel_rfl) (by kernel_rfl) hc40 ?_
              refine J.skip (by kernel_rfl) ?_
              refine J.out ?_
              refine J.region (by kernel_rfl) ?_
              refine O.pure 3 [] [0, 3, 5, 6, 7, 17, 18, 19, 20, 21, 22, 23, 24] [] (fr' := [(0, .slice h0.1 a0.length h0.2), (3, .pointer (some ⟨p0_0, 0, none⟩)), (5, .slice q38.1 o38.1.length q38.2), (6, .bool o38.2), (7, .int .i64 (IntKind.wrap .i64 (s23.2.2 + 1))), (17, .slice h0.1 a0.length h0.2), (18, .int .i64 s23.2.2), (19, .pointer (some ⟨p6_5.1, p6_5.2.1 + s23.2.2.toNat * 3, none⟩)), (20, .pointer (some ⟨p6_5.1, p6_5.2.1 + s23.2.2.toNat * 3, none⟩)), (21, .string x6_5.f0), (22, .pointer (some ⟨p0_0, 0, none⟩)), (23, .string a1.f0), (24, .bool (!(Op.bytesLess x6_5.f0.toList a1.f0.toList)))]) (bx' := [⟨p0_0, [.string a1.f0, .slice h1.1 a1.f1.length h1.2, .int .i64 a1.f2], 39⟩]) (by kernel_rfl) ?_
              refine O.nil (by kernel_rfl) ?_
              exact J.conv2 [0, 3, 5, 6, 7] [1, 2] [0] [0] (by kernel_rfl) (by kernel_rfl) (by kernel_rfl) (by kernel_rfl) (by decide) (ih23 (o38.1, o38.2, (IntKind.wrap .i64 (s23.2.2 + 1))) q38 H)
          · rcases condE H with ⟨hc41, H⟩ | ⟨hc41, H⟩
            · refine J.condT (x := .tmp 25) (t := (!(Op.bytesLess x6_5.f0.toList a1.f0.toList))) (by kernel_rfl) (by kernel_rfl) hc41 ?_
              refine J.seq (by kernel_rfl) ?_
              obtain ⟨y7_3, hy7_3, H⟩ := bindE H
              have hy7_3a := (appE hy7_3).1
              refine J.region (by kernel_rfl) ?_
              refine O.pure 2 [(0, 0)] [0, 3, 5, 7, 17, 18, 19, 20, 21, 22, 23, 24, 26, 27] [p0_0, 0] (fr' := [(0, .slice h0.1 a0.length h0.2), (3, .pointer (some ⟨p0_0, 0, none⟩)), (5, .slice g23.1 s23.1.length g23.2), (7, .int .i64 s23.2.2), (17, .slice h0.1 a0.length h0.2), (18, .int .i64 s23.2.2), (19, .pointer (some ⟨p6_5.1, p6_5.2.1 + s23.2.2.toNat * 3, none⟩)), (20, .pointer (some ⟨p6_5.1, p6_5.2.1 + s23.2.2.toNat * 3, none⟩)), (21, .string x6_5.f0), (22, .pointer (some ⟨p0_0, 0, none⟩)), (23, .string a1.f0), (24, .bool (!(Op.bytesLess x6_5.f0.toList a1.f0.toList))), (26, .slice g23.1 s23.1.length g23.2), (27, .agg #[.string a1.f0, .slice h1.1 a1.f1.length h1.2, .int .i64 a1.f2])]) (bx' := [⟨p0_0, [.string a1.f0, .slice h1.1 a1.f1.length h1.2, .int .i64 a1.f2], 39⟩]) (by kernel_rfl) ?_
              refine O.e (some 28) (Ev.lit (t := 27) (len := 1) (parts := #[(0, .tmp 27)]) (ps := [(0, .agg #[.string a1.f0, .slice h1.1 a1.f1.length h1.2, .int .i64 a1.f2])]) (cs := [.string a1.f0, .slice h1.1 a1.f1.length h1.2, .int .i64 a1.f2]) (e := 39) kd39 ([a1] : List S39) (by kernel_rfl) (by kernel_rfl) (by kernel_rfl) (by kernel_rfl) (by kernel_rfl) (by decide) (fun w' hφ => (Els.cons (c := [.string a1.f0, .slice h1.1 a1.f1.length h1.2, .int .i64 a1.f2]) (⟨h1, rfl, hφ _ (List.mem_of_getElem? (i := 2) rfl)⟩) (Els.nil _ _ _)))) (by kernel_rfl) (fun p7_2 => ?_)
              refine O.e (some 29) (Ev.appLit (x := .tmp 26) (y := .tmp 28) (t := 27) (bytes := 48) (by kernel_rfl) (by kernel_rfl) (by kernel_rfl) (by kernel_rfl) (by kernel_rfl) (by decide) hy7_3a) (by kernel_rfl) (fun p7_3 => ?_)
              refine O.pure 1 [] [0, 3, 5, 7, 17, 18, 19, 20, 21, 22, 23, 24] [] (fr' := [(0, .slice h0.1 a0.length h0.2), (3, .pointer (some ⟨p0_0, 0, none⟩)), (5, .slice p7_3.1 (s23.1 ++ ([a1] : List S39)).length p7_3.2), (7, .int .i64 s23.2.2), (17, .slice h0.1 a0.length h0.2), (18, .int .i64 s23.2.2), (19, .pointer (some ⟨p6_5.1, p6_5.2.1 + s23.2.2.toNat * 3, none⟩)), (20, .pointer (some ⟨p6_5.1, p6_5.2.1 + s23.2.2.toNat * 3, none⟩)), (21, .string x6_5.f0), (22, .pointer (some ⟨p0_0, 0, none⟩)), (23, .string a1.f0), (24, .bool (!(Op.bytesLess x6_5.f0.toList a1.f0.toList)))]) (bx' := [⟨p0_0, [.string a1.f0, .slice h1.1 a1.f1.length h1.2, .int .i64 a1.f2], 39⟩]) (by kernel_rfl) ?_
              refine O.nil (by kernel_rfl) ?_
              refine J.region (by kernel_rfl) ?_
              refine O.pure 1 [] [0, 3, 5, 6, 7, 17, 18, 19, 20, 21, 22, 23, 24] [] (fr' := [(0, .slice h0.1 a0.length h0.2), (3, .pointer (some ⟨p0_0, 0, none⟩)), (5, .slice p7_3.1 (s23.1 ++ ([a1] : List S39)).length p7_3.2), (6, .bool true), (7, .int .i64 s23.2.2), (17, .slice h0.1 a0.length h0.2), (18, .int .i64 s23.2.2), (19, .pointer (some ⟨p6_5.1, p6_5.2.1 + s23.2.2.toNat * 3, none⟩)), (20, .pointer (some ⟨p6_5.1, p6_5.2.1 + s23.2.2.toNat * 3, none⟩)), (21, .string x6_5.f0), (22, .pointer (some ⟨p0_0, 0, none⟩)), (23, .string a1.f0), (24, .bool (!(Op.bytesLess x6_5.f0.toList a1.f0.toList)))]) (bx' := [⟨p0_0, [.string a1.f0, .slice h1.1 a1.f1.length h1.2, .int .i64 a1.f2], 39⟩]) (by kernel_rfl) ?_
              refine O.nil (by kernel_rfl) ?_
              obtain rfl := Option.some.inj H
              exact J.conv2 [0, 3, 5, 6, 7, 17, 18, 19, 20, 21, 22, 23, 24] [1, 2] [0] [0] (by kernel_rfl) (by kernel_rfl) (by kernel_rfl) (by kernel_rfl) (by decide) (hj38 p7_3)
            · refine J.condF (x := .tmp 25) (t := (!(Op.bytesLess x6_5.f0.toList a1.f0.toList))) (by kernel_rfl) (by kernel_rfl) hc41 ?_
              refine J.skip (by kernel_rfl) ?_
              obtain rfl := Option.some.inj H
              exact J.conv2 [0, 3, 5, 6, 7, 17, 18, 19, 20, 21, 22, 23, 24] [1, 2] [0] [0] (by kernel_rfl) (by kernel_rfl) (by kernel_rfl) (by kernel_rfl) (by decide) (hj38 g23)
        · refine J.drawS (by kernel_rfl) [(0, some 14, .bool s23.2.1), (2, some 16, .bool false), (3, some 17, undef), (4, some 18, undef), (5, some 19, undef), (6, some 20, undef), (7, some 21, undef), (8, some 22, undef), (9, some 23, undef), (10, some 24, undef), (11, some 25, .bool false), (1, some 15, .bool false)] ([0, 2, 3, 4, 5, 6, 7, 8, 9, 10, 11] ++ [1]) (by kernel_rfl) ?_
          refine D.fin (fr' := [(0, .slice h0.1 a0.length h0.2), (3, .pointer (some ⟨p0_0, 0, none⟩)), (5, .slice g23.1 s23.1.length g23.2), (6, .bool s23.2.1), (7, .int .i64 s23.2.2), (17, undef), (18, undef), (19, undef), (20, undef), (21, undef), (22, undef), (23, undef), (24, undef), (25, .bool false)]) [0, 2, 3, 4, 5, 6, 7, 8, 9, 10, 11] [1] [] [] [0, 3, 5, 6, 7, 17, 18, 19, 20, 21, 22, 23, 24, 25] (by kernel_rfl) (by kernel_rfl) (⟨QuAt.mk (v := .bool false) (some 15) (by kernel_rfl) (by kernel_rfl) (Qu.eqv (u := .bool (!s23.2.1)) (v := .bool false) (0, 0) [] (by kernel_rfl) (congrArg Value.bool hc37)), trivial⟩) (by kernel_rfl) ?_
          refine J.cond (o := .tmp 25) false (by kernel_rfl) (by kernel_rfl) ?_
          refine J.skip (by kernel_rfl) ?_
          refine J.seq (by kernel_rfl) ?_
          obtain ⟨x9_2, hx9_2, H⟩ := bindE H
          obtain ⟨hx9_2a, hx9_2⟩ := idxE hx9_2
          refine J.open (d := kd39) (h := h0) (i := s23.2.2) 0 rfl hx9_2 (op39 _) (fun p9_2 hp9_2A => ?_)
          refine J.drawS (by kernel_rfl) [(0, some 30, .slice h0.1 a0.length h0.2), (1, some 31, .int .i64 s23.2.2), (3, some 33, .pointer (some ⟨p9_2.1, p9_2.2.1 + s23.2.2.toNat * 3, none⟩)), (4, some 34, .string x9_2.f0), (5, some 35, .pointer (some ⟨p0_0, 0, none⟩)), (6, some 36, .string a1.f0), (7, some 37, .bool (!(x9_2.f0.toList == a1.f0.toList))), (2, some 32, .pointer (some ⟨p9_2.1, p9_2.2.1 + s23.2.2.toNat * 3, none⟩))] ([0, 1, 3, 4, 5, 6, 7] ++ [2]) (by kernel_rfl) ?_
          refine D.fin (fr' := [(0, .slice h0.1 a0.length h0.2), (3, .pointer (some ⟨p0_0, 0, none⟩)), (5, .slice g23.1 s23.1.length g23.2), (6, .bool s23.2.1), (7, .int .i64 s23.2.2), (17, undef), (18, undef), (19, undef), (20, undef), (21, undef), (22, undef), (23, undef), (24, undef), (37, .bool (!(x9_2.f0.toList == a1.f0.toList)))]) [0, 1, 3, 4, 5, 6, 7] [2] [(1, 0), (0, 0)] [p9_2.1, p9_2.2.1 + s23.2.2.toNat * 3, p0_0, 0] [0, 3, 5, 6, 7, 17, 18, 19, 20, 21, 22, 23, 24, 37] (by kernel_rfl) (by kernel_rfl) (⟨QuAt.mk (v := .pointer (some ⟨p9_2.1, p9_2.2.1 + s23.2.2.toNat * 3, none⟩)) (some 32) (by kernel_rfl) (by kernel_rfl) (Qu.idx (t := 27) (x := .tmp 30) (y := .tmp 31) (c := h0.2) (kk := .i64) (sz := 3) (by kernel_rfl) (by kernel_rfl) (by kernel_rfl) (by kernel_rfl) hx9_2a (idx_lt hx9_2) hp9_2A), trivial⟩) (by kernel_rfl) ?_
          rcases condE H with ⟨hc42, H⟩ | ⟨hc42, H⟩
          · refine J.condT (x := .tmp 37) (t := (!(x9_2.f0.toList == a1.f0.toList))) (by kernel_rfl) (by kernel_rfl) hc42 ?_
            obtain ⟨x10_3, hx10_3, H⟩ := bindE H
            obtain ⟨hx10_3a, hx10_3⟩ := idxE hx10_3
            obtain ⟨y10_6, hy10_6, H⟩ := bindE H
            have hy10_6a := (appE hy10_6).1
            refine J.region (by kernel_rfl) ?_
            refine O.pure 3 [] [0, 3, 5, 6, 7, 17, 18, 19, 20, 21, 22, 23, 24, 38, 39, 40] [] (fr' := [(0, .slice h0.1 a0.length h0.2), (3, .pointer (some ⟨p0_0, 0, none⟩)), (5, .slice g23.1 s23.1.length g23.2), (6, .bool s23.2.1), (7, .int .i64 s23.2.2), (17, undef), (18, undef), (19, undef), (20, undef), (21, undef), (22, undef), (23, undef), (24, undef), (38, .slice g23.1 s23.1.length g23.2), (39, .slice h0.1 a0.length h0.2), (40, .int .i64 s23.2.2)]) (bx' := [⟨p0_0, [.string a1.f0, .slice h1.1 a1.f1.length h1.2, .int .i64 a1.f2], 39⟩]) (by kernel_rfl) ?_
            refine O.open (d := kd39) (h := h0) (i := s23.2.2) 1 rfl hx10_3 (op39 _) (fun p10_3 hp10_3A => ?_)
            refine O.q (v := .pointer (some ⟨p10_3.1, p10_3.2.1 + s23.2.2.toNat * 3, none⟩)) (some 41) (Qu.idx (t := 27) (x := .tmp 39) (y := .tmp 40) (c := h0.2) (kk := .i64) (sz := 3) (by kernel_rfl) (by kernel_rfl) (by kernel_rfl) (by kernel_rfl) hx10_3a (idx_lt hx10_3) hp10_3A) (by kernel_rfl) ?_
            refine O.pure 1 [(1, 0)] [0, 3, 5, 6, 7, 17, 18, 19, 20, 21, 22, 23, 24, 38, 42] [p10_3.1, p10_3.2.1 + s23.2.2.toNat * 3] (fr' := [(0, .slice h0.1 a0.length h0.2), (3, .pointer (some ⟨p0_0, 0, none⟩)), (5, .slice g23.1 s23.1.length g23.2), (6, .bool s23.2.1), (7, .int .i64 s23.2.2), (17, undef), (18, undef), (19, undef), (20, undef), (21, undef), (22, undef), (23, undef), (24, undef), (38, .slice g23.1 s23.1.length g23.2), (42, .agg #[.string x10_3.f0, .slice p10_3.2.2.1 x10_3.f1.length p10_3.2.2.2, .int .i64 x10_3.f2])]) (bx' := [⟨p0_0, [.string a1.f0, .slice h1.1 a1.f1.length h1.2, .int .i64 a1.f2], 39⟩]) (by kernel_rfl) ?_
            refine O.e (some 43) (Ev.lit (t := 27) (len := 1) (parts := #[(0, .tmp 42)]) (ps := [(0, .agg #[.string x10_3.f0, .slice p10_3.2.2.1 x10_3.f1.length p10_3.2.2.2, .int .i64 x10_3.f2])]) (cs := [.string x10_3.f0, .slice p10_3.2.2.1 x10_3.f1.length p10_3.2.2.2, .int .i64 x10_3.f2]) (e := 39) kd39 ([x10_3] : List S39) (by kernel_rfl) (by kernel_rfl) (by kernel_rfl) (by kernel_rfl) (by kernel_rfl) (by decide) (fun w' hφ => (Els.cons (c := [.string x10_3.f0, .slice p10_3.2.2.1 x10_3.f1.length p10_3.2.2.2, .int .i64 x10_3.f2]) (⟨p10_3.2.2, rfl, hφ _ (List.mem_of_getElem? (i := 0) rfl)⟩) (Els.nil _ _ _)))) (by kernel_rfl) (fun p10_5 => ?_)
            refine O.e (some 44) (Ev.appLit (x := .tmp 38) (y := .tmp 43) (t := 27) (bytes := 48) (by kernel_rfl) (by kernel_rfl) (by kernel_rfl) (by kernel_rfl) (by kernel_rfl) (by decide) hy10_6a) (by kernel_rfl) (fun p10_6 => ?_)
            refine O.pure 1 [] [0, 3, 5, 6, 7, 17, 18, 19, 20, 21, 22, 23, 24] [] (fr' := [(0, .slice h0.1 a0.length h0.2), (3, .pointer (some ⟨p0_0, 0, none⟩)), (5, .slice p10_6.1 (s23.1 ++ ([x10_3] : List S39)).length p10_6.2), (6, .bool s23.2.1), (7, .int .i64 s23.2.2), (17, undef), (18, undef), (19, undef), (20, undef), (21, undef), (22, undef), (23, undef), (24, undef)]) (bx' := [⟨p0_0, [.string a1.f0, .slice h1.1 a1.f1.length h1.2, .int .i64 a1.f2], 39⟩]) (by kernel_rfl) ?_
            refine O.nil (by kernel_rfl) ?_
            refine J.out ?_
            refine J.region (by kernel_rfl) ?_
            refine O.pure 3 [] [0, 3, 5, 6, 7, 17, 18, 19, 20, 21, 22, 23, 24] [] (fr' := [(0, .slice h0.1 a0.length h0.2), (3, .pointer (some ⟨p0_0, 0, none⟩)), (5, .slice p10_6.1 (s23.1 ++ ([x10_3] : List S39)).length p10_6.2), (6, .bool s23.2.1), (7, .int .i64 (IntKind.wrap .i64 (s23.2.2 + 1))), (17, undef), (18, undef), (19, undef), (20, undef), (21, undef), (22, undef), (23, undef), (24, undef)]) (bx' := [⟨p0_0, [.string a1.f0, .slice h1.1 a1.f1.length h1.2, .int .i64 a1.f2], 39⟩]) (by kernel_rfl) ?_
            refine O.nil (by kernel_rfl) ?_
            exact J.conv2 [0, 3, 5, 6, 7] [2, 3] [0] [0] (by kernel_rfl) (by kernel_rfl) (by kernel_rfl) (by kernel_rfl) (by decide) (ih23 ((s23.1 ++ ([x10_3] : List S39)), s23.2.1, (IntKind.wrap .i64 (s23.2.2 + 1))) p10_6 H)
          · refine J.condF (x := .tmp 37) (t := (!(x9_2.f0.toList == a1.f0.toList))) (by kernel_rfl) (by kernel_rfl) hc42 ?_
            refine J.skip (by kernel_rfl) ?_
            refine J.out ?_
            refine J.region (by kernel_rfl) ?_
            refine O.pure 3 [] [0, 3, 5, 6, 7, 17, 18, 19, 20, 21, 22, 23, 24] [] (fr' := [(0, .slice h0.1 a0.length h0.2), (3, .pointer (some ⟨p0_0, 0, none⟩)), (5, .slice g23.1 s23.1.length g23.2), (6, .bool s23.2.1), (7, .int .i64 (IntKind.wrap .i64 (s23.2.2 + 1))), (17, undef), (18, undef), (19, undef), (20, undef), (21, undef), (22, undef), (23, undef), (24, undef)]) (bx' := [⟨p0_0, [.string a1.f0, .slice h1.1 a1.f1.length h1.2, .int .i64 a1.f2], 39⟩]) (by kernel_rfl) ?_
            refine O.nil (by kernel_rfl) ?_
            exact J.conv2 [0, 3, 5, 6, 7] [1, 2] [0] [0] (by kernel_rfl) (by kernel_rfl) (by kernel_rfl) (by kernel_rfl) (by decide) (ih23 (s23.1, s23.2.1, (IntKind.wrap .i64 (s23.2.2 + 1))) g23 H)
      · refine J.condF (x := .tmp 11) (t := (decide (s23.2.2 < (a0.length : Int)))) (by kernel_rfl) (by kernel_rfl) hc36 ?_
        refine J.exit (id := 0) (by kernel_rfl) rfl ?_
        obtain rfl := Option.some.inj H
        exact J.conv2 [3, 5, 6] [0, 1] [0] [0] (by kernel_rfl) (by kernel_rfl) (by kernel_rfl) (by kernel_rfl) (by decide) (hj1 g23)
    · refine J.nilrow kd39 39 ?_
      exact J.conv2 [0, 3, 5, 6, 7] [0, 1] [0] [0] (by kernel_rfl) (by kernel_rfl) (by kernel_rfl) (by kernel_rfl) (by decide) h_
/-! ### haywain/haywainref13.safe: function 40 -/
def haywainref13_safe.l1 (K : Nat) (a0 : List S39) (a1 : ByteArray) : Nat → Int → Option Int
  | 0, _ => none
  | k + 1, s1 => cond (decide (s1 < (a0.length : Int))) ((idxO a0 s1).bind fun x4_2 => cond (x4_2.f0.toList == a1.toList) ((idxO a0 s1).bind fun x5_2 => some (x5_2.f2)) (haywainref13_safe.l1 K a0 a1 k (IntKind.wrap .i64 (s1 + 1)))) (some (0))
def haywainref13_safe.f (K : Nat) (a0 : List S39) (a1 : ByteArray) : Option Int := haywainref13_safe.l1 K a0 a1 K 0
set_option maxRecDepth 100000 in
set_option maxHeartbeats 1000000 in
theorem haywainref13_safe.con (K : Nat) (a0 : List S39) (a1 : ByteArray) (h0 : Hd) (r : Int) (X : Nat → Nat → Prop) (w : World) (hS : St X w [] [] [] [] [Rd kd39 h0.1 h0.2 a0] w) (H : haywainref13_safe.f K a0 a1 = some r) :
    Cn Try.prog 40 [.slice h0.1 a0.length h0.2, .string a1] X w [] (fun i : Unit => .int .i64 r) (fun i => []) (fun i => []) (fun i => []) := by
  refine Cn.of Try.func40 (by kernel_rfl) hS ?_
  unfold haywainref13_safe.f at H
  refine J.seq (by kernel_rfl) ?_
  refine J.region (by kernel_rfl) ?_
  refine O.pure 1 [] [0, 1] [] (fr' := [(0, .slice h0.1 a0.length h0.2), (1, .string a1)]) (bx' := []) (by kernel_rfl) ?_
  refine O.nil (by kernel_rfl) ?_
  refine J.seq (by kernel_rfl) ?_
  refine J.seq (by kernel_rfl) ?_
  refine J.region (by kernel_rfl) ?_
  refine O.pure 1 [] [0, 1, 5] [] (fr' := [(0, .slice h0.1 a0.length h0.2), (1, .string a1), (5, .int .i64 0)]) (bx' := []) (by kernel_rfl) ?_
  refine O.nil (by kernel_rfl) ?_
  refine J.block (id := 0) (by kernel_rfl) ?_
  refine J.loopI (σ := Int) (γ := Unit) (f := fun m_ s_ => haywainref13_safe.l1 K a0 a1 m_ s_) (fun s1 g1 => [(0, .slice h0.1 a0.length h0.2), (1, .string a1), (5, .int .i64 s1)]) (fun s1 g1 => St X w [] [] [] [] [Rd kd39 h0.1 h0.2 a0]) K 0 () (by kernel_rfl) H (fun _ => rfl) (fun m_ s1 H ih1 g1 => ?_) (fun h_ => ?_)
  · unfold haywainref13_safe.l1 at H
    refine J.seq (by kernel_rfl) ?_
    refine J.seq (by kernel_rfl) ?_
    refine J.region (by kernel_rfl) ?_
    refine O.pure 4 [] [0, 1, 5, 9] [] (fr' := [(0, .slice h0.1 a0.length h0.2), (1, .string a1), (5, .int .i64 s1), (9, .bool (decide (s1 < (a0.length : Int))))]) (bx' := []) (by kernel_rfl) ?_
    refine O.nil (by kernel_rfl) ?_
    rcases condE H with ⟨hc6, H⟩ | ⟨hc6, H⟩
    · refine J.condT (x := .tmp 9) (t := (decide (s1 < (a0.length : Int)))) (by kernel_rfl) (by kernel_rfl) hc6 ?_
      refine J.skip (by kernel_rfl) ?_
      refine J.seq (by kernel_rfl) ?_
      refine J.block (id := 1) (by kernel_rfl) ?_
      refine J.seq (by kernel_rfl) ?_
      obtain ⟨x4_2, hx4_2, H⟩ := bindE H
      obtain ⟨hx4_2a, hx4_2⟩ := idxE hx4_2
      refine J.region (by kernel_rfl) ?_
      refine O.pure 2 [] [0, 1, 5, 12, 13] [] (fr' := [(0, .slice h0.1 a0.length h0.2), (1, .string a1), (5, .int .i64 s1), (12, .slice h0.1 a0.length h0.2), (13, .int .i64 s1)]) (bx' := []) (by kernel_rfl) ?_
      refine O.open (d := kd39) (h := h0) (i := s1) 0 rfl hx4_2 (op39 _) (fun p4_2 hp4_2A => ?_)
      refine O.q (v := .pointer (some ⟨p4_2.1, p4_2.2.1 + s1.toNat * 3, none⟩)) (some 14) (Qu.idx (t := 27) (x := .tmp 12) (y := .tmp 13) (c := h0.2) (kk := .i64) (sz := 3) (by kernel_rfl) (by kernel_rfl) (by kernel_rfl) (by kernel_rfl) hx4_2a (idx_lt hx4_2) hp4_2A) (by kernel_rfl) ?_
      refine O.pure 4 [(0, 0)] [0, 1, 5, 18] [p4_2.1, p4_2.2.1 + s1.toNat * 3] (fr' := [(0, .slice h0.1 a0.length h0.2), (1, .string a1), (5, .int .i64 s1), (18, .bool (x4_2.f0.toList == a1.toList))]) (bx' := []) (by kernel_rfl) ?_
      refine O.nil (by kernel_rfl) ?_
      rcases condE H with ⟨hc7, H⟩ | ⟨hc7, H⟩
      · refine J.condT (x := .tmp 18) (t := (x4_2.f0.toList == a1.toList)) (by kernel_rfl) (by kernel_rfl) hc7 ?_
        refine J.seq (by kernel_rfl) ?_
        obtain ⟨x5_2, hx5_2, H⟩ := bindE H
        obtain ⟨hx5_2a, hx5_2⟩ := idxE hx5_2
        refine J.region (by kernel_rfl) ?_
        refine O.pure 2 [] [19, 20] [] (fr' := [(19, .slice h0.1 a0.length h0.2), (20, .int .i64 s1)]) (bx' := []) (by kernel_rfl) ?_
        refine O.open (d := kd39) (h := h0) (i := s1) 1 rfl hx5_2 (op39 _) (fun p5_2 hp5_2A => ?_)
        refine O.q (v := .pointer (some ⟨p5_2.1, p5_2.2.1 + s1.toNat * 3, none⟩)) (some 21) (Qu.idx (t := 27) (x := .tmp 19) (y := .tmp 20) (c := h0.2) (kk := .i64) (sz := 3) (by kernel_rfl) (by kernel_rfl) (by kernel_rfl) (by kernel_rfl) hx5_2a (idx_lt hx5_2) hp5_2A) (by kernel_rfl) ?_
        refine O.pure 3 [(0, 2)] [4] [p5_2.1, p5_2.2.1 + s1.toNat * 3 + 2] (fr' := [(4, .int .i64 x5_2.f2)]) (bx' := []) (by kernel_rfl) ?_
        refine O.nil (by kernel_rfl) ?_
        obtain rfl := Option.some.inj H
        exact J.doneS [] [] [] [] [] () (vs := [.int .i64 x5_2.f2]) (by kernel_rfl) (by kernel_rfl) (by kernel_rfl) (by kernel_rfl) (by kernel_rfl) (by decide)
      · refine J.condF (x := .tmp 18) (t := (x4_2.f0.toList == a1.toList)) (by kernel_rfl) (by kernel_rfl) hc7 ?_
        refine J.skip (by kernel_rfl) ?_
        refine J.out ?_
        refine J.region (by kernel_rfl) ?_
        refine O.pure 3 [] [0, 1, 5] [] (fr' := [(0, .slice h0.1 a0.length h0.2), (1, .string a1), (5, .int .i64 (IntKind.wrap .i64 (s1 + 1)))]) (bx' := []) (by kernel_rfl) ?_
        refine O.nil (by kernel_rfl) ?_
        exact J.conv2 [0, 1, 5] [1] [] [] (by kernel_rfl) (by kernel_rfl) (by kernel_rfl) (by kernel_rfl) (by decide) (ih1 (IntKind.wrap .i64 (s1 + 1)) () H)
    · refine J.condF (x := .tmp 9) (t := (decide (s1 < (a0.length : Int)))) (by kernel_rfl) (by kernel_rfl) hc6 ?_
      refine J.exit (id := 0) (by kernel_rfl) rfl ?_
      refine J.seq (by kernel_rfl) ?_
      refine J.region (by kernel_rfl) ?_
      refine O.pure 1 [] [4] [] (fr' := [(4, .int .i64 0)]) (bx' := []) (by kernel_rfl) ?_
      refine O.nil (by kernel_rfl) ?_
      obtain rfl := Option.some.inj H
      exact J.doneS [] [] [] [] [] () (vs := [.int .i64 0]) (by kernel_rfl) (by kernel_rfl) (by kernel_rfl) (by kernel_rfl) (by kernel_rfl) (by decide)
  · exact J.conv2 [0, 1, 5] [0] [] [] (by kernel_rfl) (by kernel_rfl) (by kernel_rfl) (by kernel_rfl) (by decide) h_
/-! ### haywain/haywainref13.Put: function 33 -/
def haywainref13_Put.f (K : Nat) (a0 : List S39) (a1 : ByteArray) (a2 : List Int) : Option ((List S39) × Int) := (haywainref13_Good.f K a0).bind fun x1_1 => cond (decide ((a1.size : Int) < 1)) (some ((x1_1, 1))) (cond (decide ((a1.size : Int) > 16)) (some ((x1_1, 1))) ((haywainref13_Has.f K x1_1 a1).bind fun x4_2 => cond (!x4_2) (cond ((x1_1.length : Int) == 40) (some ((x1_1, 3))) (cond (decide ((a2.length : Int) > 20000)) (some ((x1_1, 3))) ((haywainref13_Get.f K x1_1 a1).bind fun x4_17 => cond (decide ((IntKind.wrap .i64 ((x4_17.length : Int) + (a2.length : Int))) > 20000)) (some ((x1_1, 3))) ((haywainref13_Get.f K x1_1 a1).bind fun x6_3 => (appO 1 ([] : List Int) x6_3).bind fun y6_4 => (appO 1 (([] : List Int) ++ x6_3) a2).bind fun y7_4 => (haywainref13_safe.f K x1_1 a1).bind fun x7_7 => (haywainref13_with.f K x1_1 (⟨a1, ((([] : List Int) ++ x6_3) ++ a2), x7_7⟩ : S39)).bind fun x7_9 => some ((x7_9, 0)))))) (cond (decide ((a2.length : Int) > 20000)) (some ((x1_1, 3))) ((haywainref13_Get.f K x1_1 a1).bind fun x4_17 => cond (decide ((IntKind.wrap .i64 ((x4_17.length : Int) + (a2.length : Int))) > 20000)) (some ((x1_1, 3))) ((haywainref13_Get.f K x1_1 a1).bind fun x6_3 => (appO 1 ([] : List Int) x6_3).bind fun y6_4 => (appO 1 (([] : List Int) ++ x6_3) a2).bind fun y7_4 => (haywainref13_safe.f K x1_1 a1).bind fun x7_7 => (haywainref13_with.f K x1_1 (⟨a1, ((([] : List Int) ++ x6_3) ++ a2), x7_7⟩ : S39)).bind fun x7_9 => some ((x7_9, 0)))))))
set_option maxRecDepth 100000 in
set_option maxHeartbeats 1000000 in
theorem haywainref13_Put.con (K : Nat) (a0 : List S39) (a1 : ByteArray) (a2 : List Int) (h0 : Hd) (h1 : Hd) (r : ((List S39) × Int)) (X : Nat → Nat → Prop) (w : World) (hS : St X w [] [] [] [] [Rd kd39 h0.1 h0.2 a0, Rd (Kd.int .u8) h1.1 h1.2 a2] w) (H : haywainref13_Put.f K a0 a1 a2 = some r) :
    Cn Try.prog 33 [.slice h0.1 a0.length h0.2, .string a1, .slice h1.1 a2.length h1.2] X w [] (fun i : Hd => .tuple #[.slice i.1 r.1.length i.2, .int .i64 r.2]) (fun i => []) (fun i => []) (fun i => [Rd kd39 i.1 i.2 r.1]) := by
  refine Cn.of Try.func33 (by kernel_rfl) hS ?_
  unfold haywainref13_Put.f at H
  refine J.seq (by kernel_rfl) ?_
  refine J.region (by kernel_rfl) ?_
  refine O.pure 2 [] [0, 1, 2] [] (fr' := [(0, .slice h0.1 a0.length h0.2), (1, .string a1), (2, .slice h1.1 a2.length h1.2)]) (bx' := []) (by kernel_rfl) ?_
  refine O.nil (by kernel_rfl) ?_
  refine J.seq (by kernel_rfl) ?_
  obtain ⟨x1_1, hx1_1, H⟩ := bindE H
  refine J.region (by kernel_rfl) ?_
  refine O.pure 1 [] [0, 1, 2, 9] [] (fr' := [(0, .slice h0.1 a0.length h0.2), (1, .string a1), (2, .slice h1.1 a2.length h1.2), (9, .slice h0.1 a0.length h0.2)]) (bx' := []) (by kernel_rfl) ?_
  refine O.e (some 10) (Ev.call0 (xs := [.tmp 9]) [0] (by kernel_rfl) (by kernel_rfl) (fun w hS => haywainref13_Good.con K a0 h0  _ _ w hS hx1_1)) (by kernel_rfl) (fun p1_1 => ?_)
  refine O.pure 1 [] [0, 1, 2] [] (fr' := [(0, .slice p1_1.1 x1_1.length p1_1.2), (1, .string a1), (2, .slice h1.1 a2.length h1.2)]) (bx' := []) (by kernel_rfl) ?_
  refine O.nil (by kernel_rfl) ?_
  refine J.seq (by kernel_rfl) ?_
  refine J.seq (by kernel_rfl) ?_
  rcases condE H with ⟨hc1, H⟩ | ⟨hc1, H⟩
  · refine J.region (by kernel_rfl) ?_
    refine O.pure 2 [] [0, 1, 2, 12] [] (fr' := [(0, .slice p1_1.1 x1_1.length p1_1.2), (1, .string a1), (2, .slice h1.1 a2.length h1.2), (12, .int .i64 (a1.size : Int))]) (bx' := []) (by kernel_rfl) ?_
    refine O.q (v := .bool true) (some 13) (Qu.eqv (u := .bool (decide ((a1.size : Int) < 1))) (v := .bool true) (0, 0) [] (by kernel_rfl) (congrArg Value.bool hc1)) (by kernel_rfl) ?_
    refine O.pure 5 [] [0, 1, 2, 18] [] (fr' := [(0, .slice p1_1.1 x1_1.length p1_1.2), (1, .string a1), (2, .slice h1.1 a2.length h1.2), (18, .bool true)]) (bx' := []) (by kernel_rfl) ?_
    refine O.nil (by kernel_rfl) ?_
    refine J.cond (o := .tmp 18) true (by kernel_rfl) (by kernel_rfl) ?_
    refine J.seq (by kernel_rfl) ?_
    refine J.region (by kernel_rfl) ?_
    refine O.pure 3 [] [6, 7] [] (fr' := [(6, .slice p1_1.1 x1_1.length p1_1.2), (7, .int .i64 1)]) (bx' := []) (by kernel_rfl) ?_
    refine O.nil (by kernel_rfl) ?_
    obtain rfl := Option.some.inj H
    exact J.doneS [] [] [0] [] [] p1_1 (vs := [.slice p1_1.1 x1_1.length p1_1.2, .int .i64 1]) (by kernel_rfl) (by kernel_rfl) (by kernel_rfl) (by kernel_rfl) (by kernel_rfl) (by decide)
  · refine J.region (by kernel_rfl) ?_
    refine O.pure 2 [] [0, 1, 2, 12] [] (fr' := [(0, .slice p1_1.1 x1_1.length p1_1.2), (1, .string a1), (2, .slice h1.1 a2.length h1.2), (12, .int .i64 (a1.size : Int))]) (bx' := []) (by kernel_rfl) ?_
    refine O.q (v := .bool false) (some 13) (Qu.eqv (u := .bool (decide ((a1.size : Int) < 1))) (v := .bool false) (0, 0) [] (by kernel_rfl) (congrArg Value.bool hc1)) (by kernel_rfl) ?_
    refine O.pure 5 [] [0, 1, 2, 18] [] (fr' := [(0, .slice p1_1.1 x1_1.length p1_1.2), (1, .string a1), (2, .slice h1.1 a2.length h1.2), (18, .bool (decide ((a1.size : Int) > 16)))]) (bx' := []) (by kernel_rfl) ?_
    refine O.nil (by kernel_rfl) ?_
    rcases condE H with ⟨hc2, H⟩ | ⟨hc2, H⟩
    · refine J.condT (x := .tmp 18) (t := (decide ((a1.size : Int) > 16))) (by kernel_rfl) (by kernel_rfl) hc2 ?_
      refine J.seq (by kernel_rfl) ?_
      refine J.region (by kernel_rfl) ?_
      refine O.pure 3 [] [6, 7] [] (fr' := [(6, .slice p1_1.1 x1_1.length p1_1.2), (7, .int .i64 1)]) (bx' := []) (by kernel_rfl) ?_
      refine O.nil (by kernel_rfl) ?_
      obtain rfl := Option.some.inj H
      exact J.doneS [] [] [0] [] [] p1_1 (vs := [.slice p1_1.1 x1_1.length p1_1.2, .int .i64 1]) (by kernel_rfl) (by kernel_rfl) (by kernel_rfl) (by kernel_rfl) (by kernel_rfl) (by decide)
    · refine J.condF (x := .tmp 18) (t := (decide ((a1.size : Int) > 16))) (by kernel_rfl) (by kernel_rfl) hc2 ?_
      refine J.skip (by kernel_rfl) ?_
      refine J.seq (by kernel_rfl) ?_
      refine J.seq (by kernel_rfl) ?_
      obtain ⟨x4_2, hx4_2, H⟩ := bindE H
      rcases condE H with ⟨hc3, H⟩ | ⟨hc3, H⟩
      · rcases condE H with ⟨hc4, H⟩ | ⟨hc4, H⟩
        · refine J.region (by kernel_rfl) ?_
          refine O.pure 2 [] [0, 1, 2, 20, 21] [] (fr' := [(0, .slice p1_1.1 x1_1.length p1_1.2), (1, .string a1), (2, .slice h1.1 a2.length h1.2), (20, .slice p1_1.1 x1_1.length p1_1.2), (21, .string a1)]) (bx' := []) (by kernel_rfl) ?_
          refine O.e (some 22) (Ev.call0 (xs := [.tmp 20, .tmp 21]) [0] (by kernel_rfl) (by kernel_rfl) (fun w hS => haywainref13_Has.con K x1_1 a1 p1_1  _ _ w hS hx4_2)) (by kernel_rfl) (fun _ => ?_)
          refine O.q (v := .bool true) (some 23) (Qu.eqv (u := .bool (!x4_2)) (v := .bool true) (0, 0) [] (by kernel_rfl) (congrArg Value.bool hc3)) (by kernel_rfl) ?_
          refine O.pure 3 [] [0, 1, 2, 24, 26] [] (fr' := [(0, .slice p1_1.1 x1_1.length p1_1.2), (1, .string a1), (2, .slice h1.1 a2.length h1.2), (24, .bool true), (26, .int .i64 (x1_1.length : Int))]) (bx' := []) (by kernel_rfl) ?_
          refine O.q (v := .bool true) (some 27) (Qu.eqv (u := .bool ((x1_1.length : Int) == 40)) (v := .bool true) (0, 0) [] (by kernel_rfl) (congrArg Value.bool hc4)) (by kernel_rfl) ?_
          refine O.pure 16 [] [0, 1, 2, 43] [] (fr' := [(0, .slice p1_1.1 x1_1.length p1_1.2), (1, .string a1), (2, .slice h1.1 a2.length h1.2), (43, .bool true)]) (bx' := []) (by kernel_rfl) ?_
          refine O.nil (by kernel_rfl) ?_
          refine J.cond (o := .tmp 43) true (by kernel_rfl) (by kernel_rfl) ?_
          refine J.seq (by kernel_rfl) ?_
          refine J.region (by kernel_rfl) ?_
          refine O.pure 3 [] [6, 7] [] (fr' := [(6, .slice p1_1.1 x1_1.length p1_1.2), (7, .int .i64 3)]) (bx' := []) (by kernel_rfl) ?_
          refine O.nil (by kernel_rfl) ?_
          obtain rfl := Option.some.inj H
          exact J.doneS [] [] [0] [] [] p1_1 (vs := [.slice p1_1.1 x1_1.length p1_1.2, .int .i64 3]) (by kernel_rfl) (by kernel_rfl) (by kernel_rfl) (by kernel_rfl) (by kernel_rfl) (by decide)
        · rcases condE H with ⟨hc5, H⟩ | ⟨hc5, H⟩
          · refine J.region (by kernel_rfl) ?_
            refine O.pure 2 [] [0, 1, 2, 20, 21] [] (fr' := [(0, .slice p1_1.1 x1_1.length p1_1.2), (1, .string a1), (2, .slice h1.1 a2.length h1.2), (20, .slice p1_1.1 x1_1.length p1_1.2), (21, .string a1)]) (bx' := []) (by kernel_rfl) ?_
            refine O.e (some 22) (Ev.call0 (xs := [.tmp 20, .tmp 21]) [0] (by kernel_rfl) (by kernel_rfl) (fun w hS => haywainref13_Has.con K x1_1 a1 p1_1  _ _ w hS hx4_2)) (by kernel_rfl) (fun _ => ?_)
            refine O.q (v := .bool true) (some 23) (Qu.eqv (u := .bool (!x4_2)) (v := .bool true) (0, 0) [] (by kernel_rfl) (congrArg Value.bool hc3)) (by kernel_rfl) ?_
            refine O.pure 3 [] [0, 1, 2, 24, 26] [] (fr' := [(0, .slice p1_1.1 x1_1.length p1_1.2), (1, .string a1), (2, .slice h1.1 a2.length h1.2), (24, .bool true), (26, .int .i64 (x1_1.length : Int))]) (bx' := []) (by kernel_rfl) ?_
            refine O.q (v := .bool false) (some 27) (Qu.eqv (u := .bool ((x1_1.length : Int) == 40)) (v := .bool false) (0, 0) [] (by kernel_rfl) (congrArg Value.bool hc4)) (by kernel_rfl) ?_
            refine O.pure 4 [] [0, 1, 2, 29, 31] [] (fr' := [(0, .slice p1_1.1 x1_1.length p1_1.2), (1, .string a1), (2, .slice h1.1 a2.length h1.2), (29, .bool false), (31, .int .i64 (a2.length : Int))]) (bx' := []) (by kernel_rfl) ?_
            refine O.q (v := .bool true) (some 32) (Qu.eqv (u := .bool (decide ((a2.length : Int) > 20000))) (v := .bool true) (0, 0) [] (by kernel_rfl) (congrArg Value.bool hc5)) (by kernel_rfl) ?_
            refine O.pure 11 [] [0, 1, 2, 43] [] (fr' := [(0, .slice p1_1.1 x1_1.length p1_1.2), (1, .string a1), (2, .slice h1.1 a2.length h1.2), (43, .bool true)]) (bx' := []) (by kernel_rfl) ?_
            refine O.nil (by kernel_rfl) ?_
            refine J.cond (o := .tmp 43) true (by kernel_rfl) (by kernel_rfl) ?_
            refine J.seq (by kernel_rfl) ?_
            refine J.region (by kernel_rfl) ?_
            refine O.pure 3 [] [6, 7] [] (fr' := [(6, .slice p1_1.1 x1_1.length p1_1.2), (7, .int .i64 3)]) (bx' := []) (by kernel_rfl) ?_
            refine O.nil (by kernel_rfl) ?_
            obtain rfl := Option.some.inj H
            exact J.doneS [] [] [0] [] [] p1_1 (vs := [.slice p1_1.1 x1_1.length p1_1.2, .int .i64 3]) (by kernel_rfl) (by kernel_rfl) (by kernel_rfl) (by kernel_rfl) (by kernel_rfl) (by decide)
          · obtain ⟨x4_17, hx4_17, H⟩ := bindE H
            refine J.region (by kernel_rfl) ?_
            refine O.pure 2 [] [0, 1, 2, 20, 21] [] (fr' := [(0, .slice p1_1.1 x1_1.length p1_1.2), (1, .string a1), (2, .slice h1.1 a2.length h1.2), (20, .slice p1_1.1 x1_1.length p1_1.2), (21, .string a1)]) (bx' := []) (by kernel_rfl) ?_
            refine O.e (some 22) (Ev.call0 (xs := [.tmp 20, .tmp 21]) [0] (by kernel_rfl) (by kernel_rfl) (fun w hS => haywainref13_Has.con K x1_1 a1 p1_1  _ _ w hS hx4_2)) (by kernel_rfl) (fun _ => ?_)
            refine O.q (v := .bool true) (some 23) (Qu.eqv (u := .bool (!x4_2)) (v := .bool true) (0, 0) [] (by kernel_rfl) (congrArg Value.bool hc3)) (by kernel_rfl) ?_
            refine O.pure 3 [] [0, 1, 2, 24, 26] [] (fr' := [(0, .slice p1_1.1 x1_1.length p1_1.2), (1, .string a1), (2, .slice h1.1 a2.length h1.2), (24, .bool true), (26, .int .i64 (x1_1.length : Int))]) (bx' := []) (by kernel_rfl) ?_
            refine O.q (v := .bool false) (some 27) (Qu.eqv (u := .bool ((x1_1.length : Int) == 40)) (v := .bool false) (0, 0) [] (by kernel_rfl) (congrArg Value.bool hc4)) (by kernel_rfl) ?_
            refine O.pure 4 [] [0, 1, 2, 29, 31] [] (fr' := [(0, .slice p1_1.1 x1_1.length p1_1.2), (1, .string a1), (2, .slice h1.1 a2.length h1.2), (29, .bool false), (31, .int .i64 (a2.length : Int))]) (bx' := []) (by kernel_rfl) ?_
            refine O.q (v := .bool false) (some 32) (Qu.eqv (u := .bool (decide ((a2.length : Int) > 20000))) (v := .bool false) (0, 0) [] (by kernel_rfl) (congrArg Value.bool hc5)) (by kernel_rfl) ?_
            refine O.pure 4 [] [0, 1, 2, 34, 35, 36] [] (fr' := [(0, .slice p1_1.1 x1_1.length p1_1.2), (1, .string a1), (2, .slice h1.1 a2.length h1.2), (34, .bool false), (35, .slice p1_1.1 x1_1.length p1_1.2), (36, .string a1)]) (bx' := []) (by kernel_rfl) ?_
            refine O.e (some 37) (Ev.call0 (xs := [.tmp 35, .tmp 36]) [0] (by kernel_rfl) (by kernel_rfl) (fun w hS => haywainref13_Get.con K x1_1 a1 p1_1  _ _ w hS hx4_17)) (by kernel_rfl) (fun p4_17 => ?_)
            refine O.pure 6 [] [0, 1, 2, 43] [] (fr' := [(0, .slice p1_1.1 x1_1.length p1_1.2), (1, .string a1), (2, .slice h1.1 a2.length h1.2), (43, .bool (decide ((IntKind.wrap .i64 ((x4_17.length : Int) + (a2.length : Int))) > 20000)))]) (bx' := []) (by kernel_rfl) ?_
            refine O.nil (by kernel_rfl) ?_
            rcases condE H with ⟨hc6, H⟩ | ⟨hc6, H⟩
            · refine J.condT (x := .tmp 43) (t := (decide ((IntKind.wrap .i64 ((x4_17.length : Int) + (a2.length : Int))) > 20000))) (by kernel_rfl) (by kernel_rfl) hc6 ?_
              refine J.seq (by kernel_rfl) ?_
              refine J.region (by kernel_rfl) ?_
              refine O.pure 3 [] [6, 7] [] (fr' := [(6, .slice p1_1.1 x1_1.length p1_1.2), (7, .int .i64 3)]) (bx' := []) (by kernel_rfl) ?_
              refine O.nil (by kernel_rfl) ?_
              obtain rfl := Option.some.inj H
              exact J.doneS [] [] [1] [] [] p1_1 (vs := [.slice p1_1.1 x1_1.length p1_1.2, .int .i64 3]) (by kernel_rfl) (by kernel_rfl) (by kernel_rfl) (by kernel_rfl) (by kernel_rfl) (by decide)
            · refine J.condF (x := .tmp 43) (t := (decide ((IntKind.wrap .i64 ((x4_17.length : Int) + (a2.length : Int))) > 20000))) (by kernel_rfl) (by kernel_rfl) hc6 ?_
              refine J.skip (by kernel_rfl) ?_
              refine J.seq (by kernel_rfl) ?_
              obtain ⟨x6_3, hx6_3, H⟩ := bindE H
              obtain ⟨y6_4, hy6_4, H⟩ := bindE H
              have hy6_4a := (appE hy6_4).1
              refine J.region (by kernel_rfl) ?_
              refine O.e (some 45) (Ev.lit (t := 30) (len := 0) (parts := #[]) (ps := []) (cs := []) (e := 5) (Kd.int .u8) ([] : List Int) (by kernel_rfl) (by kernel_rfl) (by kernel_rfl) (by kernel_rfl) (by kernel_rfl) (by decide) (fun w' hφ => (Els.nil _ _ _))) (by kernel_rfl) (fun p6_0 => ?_)
              refine O.pure 2 [] [0, 1, 2, 45, 46, 47] [] (fr' := [(0, .slice p1_1.1 x1_1.length p1_1.2), (1, .string a1), (2, .slice h1.1 a2.length h1.2), (45, .slice ((some ⟨p6_0, 0, none⟩, 0) : Hd).1 ([] : List Int).length ((some ⟨p6_0, 0, none⟩, 0) : Hd).2), (46, .slice p1_1.1 x1_1.length p1_1.2), (47, .string a1)]) (bx' := []) (by kernel_rfl) ?_
              refine O.e (some 48) (Ev.call0 (xs := [.tmp 46, .tmp 47]) [1] (by kernel_rfl) (by kernel_rfl) (fun w hS => haywainref13_Get.con K x1_1 a1 p1_1  _ _ w hS hx6_3)) (by kernel_rfl) (fun p6_3 => ?_)
              refine O.e (some 49) (Ev.appSl (d := (Kd.int .u8)) (ys := x6_3) (A := p6_3.1) (c := p6_3.2) (x := .tmp 45) (y := .tmp 48) (t := 30) (bytes := 1) 0 (by kernel_rfl) (by kernel_rfl) (by kernel_rfl) rfl (by kernel_rfl) (by decide) hy6_4a) (by kernel_rfl) (fun p6_4 => ?_)
              refine O.pure 1 [] [0, 1, 2, 8] [] (fr' := [(0, .slice p1_1.1 x1_1.length p1_1.2), (1, .string a1), (2, .slice h1.1 a2.length h1.2), (8, .slice p6_4.1 (([] : List Int) ++ x6_3).length p6_4.2)]) (bx' := []) (by kernel_rfl) ?_
              refine O.nil (by kernel_rfl) ?_
              refine J.seq (by kernel_rfl) ?_
              obtain ⟨y7_4, hy7_4, H⟩ := bindE H
              have hy7_4a := (appE hy7_4).1
              obtain ⟨x7_7, hx7_7, H⟩ := bindE H
              obtain ⟨x7_9, hx7_9, H⟩ := bindE H
              refine J.region (by kernel_rfl) ?_
              refine O.pure 4 [] [0, 1, 50, 51, 52, 53] [] (fr' := [(0, .slice p1_1.1 x1_1.length p1_1.2), (1, .string a1), (50, .slice p1_1.1 x1_1.length p1_1.2), (51, .string a1), (52, .slice p6_4.1 (([] : List Int) ++ x6_3).length p6_4.2), (53, .slice h1.1 a2.length h1.2)]) (bx' := []) (by kernel_rfl) ?_
              refine O.e (some 54) (Ev.appSl (d := (Kd.int .u8)) (ys := a2) (A := h1.1) (c := h1.2) (x := .tmp 52) (y := .tmp 53) (t := 30) (bytes := 1) 4 (by kernel_rfl) (by kernel_rfl) (by kernel_rfl) rfl (by kernel_rfl) (by decide) hy7_4a) (by kernel_rfl) (fun p7_4 => ?_)
              refine O.pure 2 [] [50, 51, 54, 55, 56] [] (fr' := [(50, .slice p1_1.1 x1_1.length p1_1.2), (51, .string a1), (54, .slice p7_4.1 ((([] : List Int) ++ x6_3) ++ a2).length p7_4.2), (55, .slice p1_1.1 x1_1.length p1_1.2), (56, .string a1)]) (bx' := []) (by kernel_rfl) ?_
              refine O.e (some 57) (Ev.call0 (xs := [.tmp 55, .tmp 56]) [2] (by kernel_rfl) (by kernel_rfl) (fun w hS => haywainref13_safe.con K x1_1 a1 p1_1  _ _ w hS hx7_7)) (by kernel_rfl) (fun _ => ?_)
              refine O.pure 1 [] [50, 58] [] (fr' := [(50, .slice p1_1.1 x1_1.length p1_1.2), (58, .agg #[.string a1, .slice p7_4.1 ((([] : List Int) ++ x6_3) ++ a2).length p7_4.2, .int .i64 x7_7])]) (bx' := []) (by kernel_rfl) ?_
              refine O.e (some 59) (Ev.mono (fun w hS => hS.freezeH (h := p7_4) (xs := ((([] : List Int) ++ x6_3) ++ a2))) (Ev.call0 (xs := [.tmp 50, .tmp 58]) [3, 0] (by kernel_rfl) (by kernel_rfl) (fun w hS => haywainref13_with.con K x1_1 (⟨a1, ((([] : List Int) ++ x6_3) ++ a2), x7_7⟩ : S39) p1_1 p7_4  _ _ w hS hx7_9))) (by kernel_rfl) (fun p7_9 => ?_)
              refine O.pure 2 [] [6, 7] [] (fr' := [(6, .slice p7_9.1 x7_9.length p7_9.2), (7, .int .i64 0)]) (bx' := []) (by kernel_rfl) ?_
              refine O.nil (by kernel_rfl) ?_
              obtain rfl := Option.some.inj H
              refine J.mono (fun w hS => hS.freezeH (h := p7_9) (xs := x7_9)) ?_
              exact J.doneS [] [] [0] [] [] p7_9 (vs := [.slice p7_9.1 x7_9.length p7_9.2, .int .i64 0]) (by kernel_rfl) (by kernel_rfl) (by kernel_rfl) (by kernel_rfl) (by kernel_rfl) (by decide)
      · rcases condE H with ⟨hc7, H⟩ | ⟨hc7, H⟩
        · refine J.region (by kernel_rfl) ?_
          refine O.pure 2 [] [0, 1, 2, 20, 21] [] (fr' := [(0, .slice p1_1.1 x1_1.length p1_1.2), (1, .string a1), (2, .slice h1.1 a2.length h1.2), (20, .slice p1_1.1 x1_1.length p1_1.2), (21, .string a1)]) (bx' := []) (by kernel_rfl) ?_
          refine O.e (some 22) (Ev.call0 (xs := [.tmp 20, .tmp 21]) [0] (by kernel_rfl) (by kernel_rfl) (fun w hS => haywainref13_Has.con K x1_1 a1 p1_1  _ _ w hS hx4_2)) (by kernel_rfl) (fun _ => ?_)
          refine O.q (v := .bool false) (some 23) (Qu.eqv (u := .bool (!x4_2)) (v := .bool false) (0, 0) [] (by kernel_rfl) (congrArg Value.bool hc3)) (by kernel_rfl) ?_
          refine O.pure 8 [] [0, 1, 2, 29, 31] [] (fr' := [(0, .slice p1_1.1 x1_1.length p1_1.2), (1, .string a1), (2, .slice h1.1 a2.length h1.2), (29, .bool false), (31, .int .i64 (a2.length : Int))]) (bx' := []) (by kernel_rfl) ?_
          refine O.q (v := .bool true) (some 32) (Qu.eqv (u := .bool (decide ((a2.length : Int) > 20000))) (v := .bool true) (0, 0) [] (by kernel_rfl) (congrArg Value.bool hc7)) (by kernel_rfl) ?_
          refine O.pure 11 [] [0, 1, 2, 43] [] (fr' := [(0, .slice p1_1.1 x1_1.length p1_1.2), (1, .string a1), (2, .slice h1.1 a2.length h1.2), (43, .bool true)]) (bx' := []) (by kernel_rfl) ?_
          refine O.nil (by kernel_rfl) ?_
          refine J.cond (o := .tmp 43) true (by kernel_rfl) (by kernel_rfl) ?_
          refine J.seq (by kernel_rfl) ?_
          refine J.region (by kernel_rfl) ?_
          refine O.pure 3 [] [6, 7] [] (fr' := [(6, .slice p1_1.1 x1_1.length p1_1.2), (7, .int .i64 3)]) (bx' := []) (by kernel_rfl) ?_
          refine O.nil (by kernel_rfl) ?_
          obtain rfl := Option.some.inj H
          exact J.doneS [] [] [0] [] [] p1_1 (vs := [.slice p1_1.1 x1_1.length p1_1.2, .int .i64 3]) (by kernel_rfl) (by kernel_rfl) (by kernel_rfl) (by kernel_rfl) (by kernel_rfl) (by decide)
        · obtain ⟨x4_17, hx4_17, H⟩ := bindE H
          refine J.region (by kernel_rfl) ?_
          refine O.pure 2 [] [0, 1, 2, 20, 21] [] (fr' := [(0, .slice p1_1.1 x1_1.length p1_1.2), (1, .string a1), (2, .slice h1.1 a2.length h1.2), (20, .slice p1_1.1 x1_1.length p1_1.2), (21, .string a1)]) (bx' := []) (by kernel_rfl) ?_
          refine O.e (some 22) (Ev.call0 (xs := [.tmp 20, .tmp 21]) [0] (by kernel_rfl) (by kernel_rfl) (fun w hS => haywainref13_Has.con K x1_1 a1 p1_1  _ _ w hS hx4_2)) (by kernel_rfl) (fun _ => ?_)
          refine O.q (v := .bool false) (some 23) (Qu.eqv (u := .bool (!x4_2)) (v := .bool false) (0, 0) [] (by kernel_rfl) (congrArg Value.bool hc3)) (by kernel_rfl) ?_
          refine O.pure 8 [] [0, 1, 2, 29, 31] [] (fr' := [(0, .slice p1_1.1 x1_1.length p1_1.2), (1, .string a1), (2, .slice h1.1 a2.length h1.2), (29, .bool false), (31, .int .i64 (a2.length : Int))]) (bx' := []) (by kernel_rfl) ?_
          refine O.q (v := .bool false) (some 32) (Qu.eqv (u := .bool (decide ((a2.length : Int) > 20000))) (v := .bool false) (0, 0) [] (by kernel_rfl) (congrArg Value.bool hc7)) (by kernel_rfl) ?_
          refine O.pure 4 [] [0, 1, 2, 34, 35, 36] [] (fr' := [(0, .slice p1_1.1 x1_1.length p1_1.2), (1, .string a1), (2, .slice h1.1 a2.length h1.2), (34, .bool false), (35, .slice p1_1.1 x1_1.length p1_1.2), (36, .string a1)]) (bx' := []) (by kernel_rfl) ?_
          refine O.e (some 37) (Ev.call0 (xs := [.tmp 35, .tmp 36]) [0] (by kernel_rfl) (by kernel_rfl) (fun w hS => haywainref13_Get.con K x1_1 a1 p1_1  _ _ w hS hx4_17)) (by kernel_rfl) (fun p4_17 => ?_)
          refine O.pure 6 [] [0, 1, 2, 43] [] (fr' := [(0, .slice p1_1.1 x1_1.length p1_1.2), (1, .string a1), (2, .slice h1.1 a2.length h1.2), (43, .bool (decide ((IntKind.wrap .i64 ((x4_17.length : Int) + (a2.length : Int))) > 20000)))]) (bx' := []) (by kernel_rfl) ?_
          refine O.nil (by kernel_rfl) ?_
          rcases condE H with ⟨hc8, H⟩ | ⟨hc8, H⟩
          · refine J.condT (x := .tmp 43) (t := (decide ((IntKind.wrap .i64 ((x4_17.length : Int) + (a2.length : Int))) > 20000))) (by kernel_rfl) (by kernel_rfl) hc8 ?_
            refine J.seq (by kernel_rfl) ?_
            refine J.region (by kernel_rfl) ?_
            refine O.pure 3 [] [6, 7] [] (fr' := [(6, .slice p1_1.1 x1_1.length p1_1.2), (7, .int .i64 3)]) (bx' := []) (by kernel_rfl) ?_
            refine O.nil (by kernel_rfl) ?_
            obtain rfl := Option.some.inj H
            exact J.doneS [] [] [1] [] [] p1_1 (vs := [.slice p1_1.1 x1_1.length p1_1.2, .int .i64 3]) (by kernel_rfl) (by kernel_rfl) (by kernel_rfl) (by kernel_rfl) (by kernel_rfl) (by decide)
          · refine J.condF (x := .tmp 43) (t := (decide ((IntKind.wrap .i64 ((x4_17.length : Int) + (a2.length : Int))) > 20000))) (by kernel_rfl) (by kernel_rfl) hc8 ?_
            refine J.skip (by kernel_rfl) ?_
            refine J.seq (by kernel_rfl) ?_
            obtain ⟨x6_3, hx6_3, H⟩ := bindE H
            obtain ⟨y6_4, hy6_4, H⟩ := bindE H
            have hy6_4a := (appE hy6_4).1
            refine J.region (by kernel_rfl) ?_
            refine O.e (some 45) (Ev.lit (t := 30) (len := 0) (parts := #[]) (ps := []) (cs := []) (e := 5) (Kd.int .u8) ([] : List Int) (by kernel_rfl) (by kernel_rfl) (by kernel_rfl) (by kernel_rfl) (by kernel_rfl) (by decide) (fun w' hφ => (Els.nil _ _ _))) (by kernel_rfl) (fun p6_0 => ?_)
            refine O.pure 2 [] [0, 1, 2, 45, 46, 47] [] (fr' := [(0, .slice p1_1.1 x1_1.length p1_1.2), (1, .string a1), (2, .slice h1.1 a2.length h1.2), (45, .slice ((some ⟨p6_0, 0, none⟩, 0) : Hd).1 ([] : List Int).length ((some ⟨p6_0, 0, none⟩, 0) : Hd).2), (46, .slice p1_1.1 x1_1.length p1_1.2), (47, .string a1)]) (bx' := []) (by kernel_rfl) ?_
            refine O.e (some 48) (Ev.call0 (xs := [.tmp 46, .tmp 47]) [1] (by kernel_rfl) (by kernel_rfl) (fun w hS => haywainref13_Get.con K x1_1 a1 p1_1  _ _ w hS hx6_3)) (by kernel_rfl) (fun p6_3 => ?_)
            refine O.e (some 49) (Ev.appSl (d := (Kd.int .u8)) (ys := x6_3) (A := p6_3.1) (c := p6_3.2) (x := .tmp 45) (y := .tmp 48) (t := 30) (bytes := 1) 0 (by kernel_rfl) (by kernel_rfl) (by kernel_rfl) rfl (by kernel_rfl) (by decide) hy6_4a) (by kernel_rfl) (fun p6_4 => ?_)
            refine O.pure 1 [] [0, 1, 2, 8] [] (fr' := [(0, .slice p1_1.1 x1_1.length p1_1.2), (1, .string a1), (2, .slice h1.1 a2.length h1.2), (8, .slice p6_4.1 (([] : List Int) ++ x6_3).length p6_4.2)]) (bx' := []) (by kernel_rfl) ?_
            refine O.nil (by kernel_rfl) ?_
            refine J.seq (by kernel_rfl) ?_
            obtain ⟨y7_4, hy7_4, H⟩ := bindE H
            have hy7_4a := (appE hy7_4).1
            obtain ⟨x7_7, hx7_7, H⟩ := bindE H
            obtain ⟨x7_9, hx7_9, H⟩ := bindE H
            refine J.region (by kernel_rfl) ?_
            refine O.pure 4 [] [0, 1, 50, 51, 52, 53] [] (fr' := [(0, .slice p1_1.1 x1_1.length p1_1.2), (1, .string a1), (50, .slice p1_1.1 x1_1.length p1_1.2), (51, .string a1), (52, .slice p6_4.1 (([] : List Int) ++ x6_3).length p6_4.2), (53, .slice h1.1 a2.length h1.2)]) (bx' := []) (by kernel_rfl) ?_
            refine O.e (some 54) (Ev.appSl (d := (Kd.int .u8)) (ys := a2) (A := h1.1) (c := h1.2) (x := .tmp 52) (y := .tmp 53) (t := 30) (bytes := 1) 4 (by kernel_rfl) (by kernel_rfl) (by kernel_rfl) rfl (by kernel_rfl) (by decide) hy7_4a) (by kernel_rfl) (fun p7_4 => ?_)
            refine O.pure 2 [] [50, 51, 54, 55, 56] [] (fr' := [(50, .slice p1_1.1 x1_1.length p1_1.2), (51, .string a1), (54, .slice p7_4.1 ((([] : List Int) ++ x6_3) ++ a2).length p7_4.2), (55, .slice p1_1.1 x1_1.length p1_1.2), (56, .string a1)]) (bx' := []) (by kernel_rfl) ?_
            refine O.e (some 57) (Ev.call0 (xs := [.tmp 55, .tmp 56]) [2] (by kernel_rfl) (by kernel_rfl) (fun w hS => haywainref13_safe.con K x1_1 a1 p1_1  _ _ w hS hx7_7)) (by kernel_rfl) (fun _ => ?_)
            refine O.pure 1 [] [50, 58] [] (fr' := [(50, .slice p1_1.1 x1_1.length p1_1.2), (58, .agg #[.string a1, .slice p7_4.1 ((([] : List Int) ++ x6_3) ++ a2).length p7_4.2, .int .i64 x7_7])]) (bx' := []) (by kernel_rfl) ?_
            refine O.e (some 59) (Ev.mono (fun w hS => hS.freezeH (h := p7_4) (xs := ((([] : List Int) ++ x6_3) ++ a2))) (Ev.call0 (xs := [.tmp 50, .tmp 58]) [3, 0] (by kernel_rfl) (by kernel_rfl) (fun w hS => haywainref13_with.con K x1_1 (⟨a1, ((([] : List Int) ++ x6_3) ++ a2), x7_7⟩ : S39) p1_1 p7_4  _ _ w hS hx7_9))) (by kernel_rfl) (fun p7_9 => ?_)
            refine O.pure 2 [] [6, 7] [] (fr' := [(6, .slice p7_9.1 x7_9.length p7_9.2), (7, .int .i64 0)]) (bx' := []) (by kernel_rfl) ?_
            refine O.nil (by kernel_rfl) ?_
            obtain rfl := Option.some.inj H
            refine J.mono (fun w hS => hS.freezeH (h := p7_9) (xs := x7_9)) ?_
            exact J.doneS [] [] [0] [] [] p7_9 (vs := [.slice p7_9.1 x7_9.length p7_9.2, .int .i64 0]) (by kernel_rfl) (by kernel_rfl) (by kernel_rfl) (by kernel_rfl) (by kernel_rfl) (by decide)
/-! ### haywain/haywainref13.Sync: function 34 -/
def haywainref13_Sync.f (K : Nat) (a0 : List S39) (a1 : ByteArray) : Option ((List S39) × Int) := (haywainref13_Good.f K a0).bind fun x1_1 => (haywainref13_Has.f K x1_1 a1).bind fun x2_2 => cond (!x2_2) (some ((x1_1, 4))) ((haywainref13_Get.f K x1_1 a1).bind fun x4_4 => (haywainref13_Get.f K x1_1 a1).bind fun x4_7 => (haywainref13_with.f K x1_1 (⟨a1, x4_4, (x4_7.length : Int)⟩ : S39)).bind fun x4_10 => some ((x4_10, 0)))
set_option maxRecDepth 100000 in
set_option maxHeartbeats 1000000 in
theorem haywainref13_Sync.con (K : Nat) (a0 : List S39) (a1 : ByteArray) (h0 : Hd) (r : ((List S39) × Int)) (X : Nat → Nat → Prop) (w : World) (hS : St X w [] [] [] [] [Rd kd39 h0.1 h0.2 a0] w) (H : haywainref13_Sync.f K a0 a1 = some r) :
    Cn Try.prog 34 [.slice h0.1 a0.length h0.2, .string a1] X w [] (fun i : Hd => .tuple #[.slice i.1 r.1.length i.2, .int .i64 r.2]) (fun i => []) (fun i => []) (fun i => [Rd kd39 i.1 i.2 r.1]) := by
  refine Cn.of Try.func34 (by kernel_rfl) hS ?_
  unfold haywainref13_Sync.f at H
  refine J.seq (by kernel_rfl) ?_
  refine J.region (by kernel_rfl) ?_
  refine O.pure 2 [] [0, 1] [] (fr' := [(0, .slice h0.1 a0.length h0.2), (1, .string a1)]) (bx' := []) (by kernel_rfl) ?_
  refine O.nil (by kernel_rfl) ?_
  refine J.seq (by kernel_rfl) ?_
  obtain ⟨x1_1, hx1_1, H⟩ := bindE H
  refine J.region (by kernel_rfl) ?_
  refine O.pure 1 [] [0, 1, 6] [] (fr' := [(0, .slice h0.1 a0.length h0.2), (1, .string a1), (6, .slice h0.1 a0.length h0.2)]) (bx' := []) (by kernel_rfl) ?_
  refine O.e (some 7) (Ev.call0 (xs := [.tmp 6]) [0] (by kernel_rfl) (by kernel_rfl) (fun w hS => haywainref13_Good.con K a0 h0  _ _ w hS hx1_1)) (by kernel_rfl) (fun p1_1 => ?_)
  refine O.pure 1 [] [0, 1] [] (fr' := [(0, .slice p1_1.1 x1_1.length p1_1.2), (1, .string a1)]) (bx' := []) (by kernel_rfl) ?_
  refine O.nil (by kernel_rfl) ?_
  refine J.seq (by kernel_rfl) ?_
  refine J.seq (by kernel_rfl) ?_
  obtain ⟨x2_2, hx2_2, H⟩ := bindE H
  refine J.region (by kernel_rfl) ?_
  refine O.pure 2 [] [0, 1, 8, 9] [] (fr' := [(0, .slice p1_1.1 x1_1.length p1_1.2), (1, .string a1), (8, .slice p1_1.1 x1_1.length p1_1.2), (9, .string a1)]) (bx' := []) (by kernel_rfl) ?_
  refine O.e (some 10) (Ev.call0 (xs := [.tmp 8, .tmp 9]) [0] (by kernel_rfl) (by kernel_rfl) (fun w hS => haywainref13_Has.con K x1_1 a1 p1_1  _ _ w hS hx2_2)) (by kernel_rfl) (fun _ => ?_)
  refine O.pure 1 [] [0, 1, 11] [] (fr' := [(0, .slice p1_1.1 x1_1.length p1_1.2), (1, .string a1), (11, .bool (!x2_2))]) (bx' := []) (by kernel_rfl) ?_
  refine O.nil (by kernel_rfl) ?_
  rcases condE H with ⟨hc1, H⟩ | ⟨hc1, H⟩
  · refine J.condT (x := .tmp 11) (t := (!x2_2)) (by kernel_rfl) (by kernel_rfl) hc1 ?_
    refine J.seq (by kernel_rfl) ?_
    refine J.region (by kernel_rfl) ?_
    refine O.pure 3 [] [4, 5] [] (fr' := [(4, .slice p1_1.1 x1_1.length p1_1.2), (5, .int .i64 4)]) (bx' := []) (by kernel_rfl) ?_
    refine O.nil (by kernel_rfl) ?_
    obtain rfl := Option.some.inj H
    exact J.doneS [] [] [0] [] [] p1_1 (vs := [.slice p1_1.1 x1_1.length p1_1.2, .int .i64 4]) (by kernel_rfl) (by kernel_rfl) (by kernel_rfl) (by kernel_rfl) (by kernel_rfl) (by decide)
  · refine J.condF (x := .tmp 11) (t := (!x2_2)) (by kernel_rfl) (by kernel_rfl) hc1 ?_
    refine J.skip (by kernel_rfl) ?_
    refine J.seq (by kernel_rfl) ?_
    obtain ⟨x4_4, hx4_4, H⟩ := bindE H
    obtain ⟨x4_7, hx4_7, H⟩ := bindE H
    obtain ⟨x4_10, hx4_10, H⟩ := bindE H
    refine J.region (by kernel_rfl) ?_
    refine O.pure 4 [] [0, 1, 13, 14, 15, 16] [] (fr' := [(0, .slice p1_1.1 x1_1.length p1_1.2), (1, .string a1), (13, .slice p1_1.1 x1_1.length p1_1.2), (14, .string a1), (15, .slice p1_1.1 x1_1.length p1_1.2), (16, .string a1)]) (bx' := []) (by kernel_rfl) ?_
    refine O.e (some 17) (Ev.call0 (xs := [.tmp 15, .tmp 16]) [0] (by kernel_rfl) (by kernel_rfl) (fun w hS => haywainref13_Get.con K x1_1 a1 p1_1  _ _ w hS hx4_4)) (by kernel_rfl) (fun p4_4 => ?_)
    refine O.pure 2 [] [13, 14, 17, 18, 19] [] (fr' := [(13, .slice p1_1.1 x1_1.length p1_1.2), (14, .string a1), (17, .slice p4_4.1 x4_4.length p4_4.2), (18, .slice p1_1.1 x1_1.length p1_1.2), (19, .string a1)]) (bx' := []) (by kernel_rfl) ?_
    refine O.e (some 20) (Ev.call0 (xs := [.tmp 18, .tmp 19]) [1] (by kernel_rfl) (by kernel_rfl) (fun w hS => haywainref13_Get.con K x1_1 a1 p1_1  _ _ w hS hx4_7)) (by kernel_rfl) (fun p4_7 => ?_)
    refine O.pure 2 [] [13, 22] [] (fr' := [(13, .slice p1_1.1 x1_1.length p1_1.2), (22, .agg #[.string a1, .slice p4_4.1 x4_4.length p4_4.2, .int .i64 (x4_7.length : Int)])]) (bx' := []) (by kernel_rfl) ?_
    refine O.e (some 23) (Ev.call0 (xs := [.tmp 13, .tmp 22]) [2, 1] (by kernel_rfl) (by kernel_rfl) (fun w hS => haywainref13_with.con K x1_1 (⟨a1, x4_4, (x4_7.length : Int)⟩ : S39) p1_1 p4_4  _ _ w hS hx4_10)) (by kernel_rfl) (fun p4_10 => ?_)
    refine O.pure 2 [] [4, 5] [] (fr' := [(4, .slice p4_10.1 x4_10.length p4_10.2), (5, .int .i64 0)]) (bx' := []) (by kernel_rfl) ?_
    refine O.nil (by kernel_rfl) ?_
    obtain rfl := Option.some.inj H
    refine J.mono (fun w hS => hS.freezeH (h := p4_10) (xs := x4_10)) ?_
    exact J.doneS [] [] [0] [] [] p4_10 (vs := [.slice p4_10.1 x4_10.length p4_10.2, .int .i64 0]) (by kernel_rfl) (by kernel_rfl) (by kernel_rfl) (by kernel_rfl) (by kernel_rfl) (by decide)
/-! ### haywain/haywainref13.Cut: function 35 -/
def haywainref13_Cut.f (K : Nat) (a0 : List S39) (a1 : ByteArray) (a2 : Int) : Option ((List S39) × Int) := (haywainref13_Good.f K a0).bind fun x1_1 => (haywainref13_Has.f K x1_1 a1).bind fun x2_2 => cond (!x2_2) (some ((x1_1, 4))) (cond (decide (a2 < 0)) (some ((x1_1, 1))) ((haywainref13_Get.f K x1_1 a1).bind fun x4_6 => cond (decide (a2 > (x4_6.length : Int))) (some ((x1_1, 1))) ((haywainref13_Get.f K x1_1 a1).bind fun x6_4 => (cutO x6_4 0 a2).bind fun y6_6 => (haywainref13_with.f K x1_1 (⟨a1, (cutL x6_4 ((0 : Int).toNat) ((a2 : Int).toNat)), a2⟩ : S39)).bind fun x6_9 => some ((x6_9, 0)))))
set_option maxRecDepth 100000 in
set_option maxHeartbeats 1000000 in
theorem haywainref13_Cut.con (K : Nat) (a0 : List S39) (a1 : ByteArray) (a2 : Int) (h0 : Hd) (r : ((List S39) × Int)) (X : Nat → Nat → Prop) (w : World) (hS : St X w [] [] [] [] [Rd kd39 h0.1 h0.2 a0] w) (H : haywainref13_Cut.f K a0 a1 a2 = some r) :
    Cn Try.prog 35 [.slice h0.1 a0.length h0.2, .string a1, .int .i64 a2] X w [] (fun i : Hd => .tuple #[.slice i.1 r.1.length i.2, .int .i64 r.2]) (fun i => []) (fun i => []) (fun i => [Rd kd39 i.1 i.2 r.1]) := by
  refine Cn.of Try.func35 (by kernel_rfl) hS ?_
  unfold haywainref13_Cut.f at H
  refine J.seq (by kernel_rfl) ?_
  refine J.region (by kernel_rfl) ?_
  refine O.pure 2 [] [0, 1, 2] [] (fr' := [(0, .slice h0.1 a0.length h0.2), (1, .string a1), (2, .int .i64 a2)]) (bx' := []) (by kernel_rfl) ?_
  refine O.nil (by kernel_rfl) ?_
  refine J.seq (by kernel_rfl) ?_
  obtain ⟨x1_1, hx1_1, H⟩ := bindE H
  refine J.region (by kernel_rfl) ?_
  refine O.pure 1 [] [0, 1, 2, 8] [] (fr' := [(0, .slice h0.1 a0.length h0.2), (1, .string a1), (2, .int .i64 a2), (8, .slice h0.1 a0.length h0.2)]) (bx' := []) (by kernel_rfl) ?_
  refine O.e (some 9) (Ev.call0 (xs := [.tmp 8]) [0] (by kernel_rfl) (by kernel_rfl) (fun w hS => haywainref13_Good.con K a0 h0  _ _ w hS hx1_1)) (by kernel_rfl) (fun p1_1 => ?_)
  refine O.pure 1 [] [0, 1, 2] [] (fr' := [(0, .slice p1_1.1 x1_1.length p1_1.2), (1, .string a1), (2, .int .i64 a2)]) (bx' := []) (by kernel_rfl) ?_
  refine O.nil (by kernel_rfl) ?_
  refine J.seq (by kernel_rfl) ?_
  refine J.seq (by kernel_rfl) ?_
  obtain ⟨x2_2, hx2_2, H⟩ := bindE H
  refine J.region (by kernel_rfl) ?_
  refine O.pure 2 [] [0, 1, 2, 10, 11] [] (fr' := [(0, .slice p1_1.1 x1_1.length p1_1.2), (1, .string a1), (2, .int .i64 a2), (10, .slice p1_1.1 x1_1.length p1_1.2), (11, .string a1)]) (bx' := []) (by kernel_rfl) ?_
  refine O.e (some 12) (Ev.call0 (xs := [.tmp 10, .tmp 11]) [0] (by kernel_rfl) (by kernel_rfl) (fun w hS => haywainref13_Has.con K x1_1 a1 p1_1  _ _ w hS hx2_2)) (by kernel_rfl) (fun _ => ?_)
  refine O.pure 1 [] [0, 1, 2, 13] [] (fr' := [(0, .slice p1_1.1 x1_1.length p1_1.2), (1, .string a1), (2, .int .i64 a2), (13, .bool (!x2_2))]) (bx' := []) (by kernel_rfl) ?_
  refine O.nil (by kernel_rfl) ?_
  rcases condE H with ⟨hc1, H⟩ | ⟨hc1, H⟩
  · refine J.condT (x := .tmp 13) (t := (!x2_2)) (by kernel_rfl) (by kernel_rfl) hc1 ?_
    refine J.seq (by kernel_rfl) ?_
    refine J.region (by kernel_rfl) ?_
    refine O.pure 3 [] [6, 7] [] (fr' := [(6, .slice p1_1.1 x1_1.length p1_1.2), (7, .int .i64 4)]) (bx' := []) (by kernel_rfl) ?_
    refine O.nil (by kernel_rfl) ?_
    obtain rfl := Option.some.inj H
    exact J.doneS [] [] [0] [] [] p1_1 (vs := [.slice p1_1.1 x1_1.length p1_1.2, .int .i64 4]) (by kernel_rfl) (by kernel_rfl) (by kernel_rfl) (by kernel_rfl) (by kernel_rfl) (by decide)
  · refine J.condF (x := .tmp 13) (t := (!x2_2)) (by kernel_rfl) (by kernel_rfl) hc1 ?_
    refine J.skip (by kernel_rfl) ?_
    refine J.seq (by kernel_rfl) ?_
    refine J.seq (by kernel_rfl) ?_
    rcases condE H with ⟨hc2, H⟩ | ⟨hc2, H⟩
    · refine J.region (by kernel_rfl) ?_
      refine O.pure 1 [] [0, 1, 2, 15] [] (fr' := [(0, .slice p1_1.1 x1_1.length p1_1.2), (1, .string a1), (2, .int .i64 a2), (15, .int .i64 a2)]) (bx' := []) (by kernel_rfl) ?_
      refine O.q (v := .bool true) (some 16) (Qu.eqv (u := .bool (decide (a2 < 0))) (v := .bool true) (0, 0) [] (by kernel_rfl) (congrArg Value.bool hc2)) (by kernel_rfl) ?_
      refine O.pure 8 [] [0, 1, 2, 24] [] (fr' := [(0, .slice p1_1.1 x1_1.length p1_1.2), (1, .string a1), (2, .int .i64 a2), (24, .bool true)]) (bx' := []) (by kernel_rfl) ?_
      refine O.nil (by kernel_rfl) ?_
      refine J.cond (o := .tmp 24) true (by kernel_rfl) (by kernel_rfl) ?_
      refine J.seq (by kernel_rfl) ?_
      refine J.region (by kernel_rfl) ?_
      refine O.pure 3 [] [6, 7] [] (fr' := [(6, .slice p1_1.1 x1_1.length p1_1.2), (7, .int .i64 1)]) (bx' := []) (by kernel_rfl) ?_
      refine O.nil (by kernel_rfl) ?_
      obtain rfl := Option.some.inj H
      exact J.doneS [] [] [0] [] [] p1_1 (vs := [.slice p1_1.1 x1_1.length p1_1.2, .int .i64 1]) (by kernel_rfl) (by kernel_rfl) (by kernel_rfl) (by kernel_rfl) (by kernel_rfl) (by decide)
    · obtain ⟨x4_6, hx4_6, H⟩ := bindE H
      refine J.region (by kernel_rfl) ?_
      refine O.pure 1 [] [0, 1, 2, 15] [] (fr' := [(0, .slice p1_1.1 x1_1.length p1_1.2), (1, .string a1), (2, .int .i64 a2), (15, .int .i64 a2)]) (bx' := []) (by kernel_rfl) ?_
      refine O.q (v := .bool false) (some 16) (Qu.eqv (u := .bool (decide (a2 < 0))) (v := .bool false) (0, 0) [] (by kernel_rfl) (congrArg Value.bool hc2)) (by kernel_rfl) ?_
      refine O.pure 4 [] [0, 1, 2, 17, 18, 19, 20] [] (fr' := [(0, .slice p1_1.1 x1_1.length p1_1.2), (1, .string a1), (2, .int .i64 a2), (17, .bool false), (18, .int .i64 a2), (19, .slice p1_1.1 x1_1.length p1_1.2), (20, .string a1)]) (bx' := []) (by kernel_rfl) ?_
      refine O.e (some 21) (Ev.call0 (xs := [.tmp 19, .tmp 20]) [0] (by kernel_rfl) (by kernel_rfl) (fun w hS => haywainref13_Get.con K x1_1 a1 p1_1  _ _ w hS hx4_6)) (by kernel_rfl) (fun p4_6 => ?_)
      refine O.pure 3 [] [0, 1, 2, 24] [] (fr' := [(0, .slice p1_1.1 x1_1.length p1_1.2), (1, .string a1), (2, .int .i64 a2), (24, .bool (decide (a2 > (x4_6.length : Int))))]) (bx' := []) (by kernel_rfl) ?_
      refine O.nil (by kernel_rfl) ?_
      rcases condE H with ⟨hc3, H⟩ | ⟨hc3, H⟩
      · refine J.condT (x := .tmp 24) (t := (decide (a2 > (x4_6.length : Int)))) (by kernel_rfl) (by kernel_rfl) hc3 ?_
        refine J.seq (by kernel_rfl) ?_
        refine J.region (by kernel_rfl) ?_
        refine O.pure 3 [] [6, 7] [] (fr' := [(6, .slice p1_1.1 x1_1.length p1_1.2), (7, .int .i64 1)]) (bx' := []) (by kernel_rfl) ?_
        refine O.nil (by kernel_rfl) ?_
        obtain rfl := Option.some.inj H
        exact J.doneS [] [] [1] [] [] p1_1 (vs := [.slice p1_1.1 x1_1.length p1_1.2, .int .i64 1]) (by kernel_rfl) (by kernel_rfl) (by kernel_rfl) (by kernel_rfl) (by kernel_rfl) (by decide)
      · refine J.condF (x := .tmp 24) (t := (decide (a2 > (x4_6.length : Int)))) (by kernel_rfl) (by kernel_rfl) hc3 ?_
        refine J.skip (by kernel_rfl) ?_
        refine J.seq (by kernel_rfl) ?_
        obtain ⟨x6_4, hx6_4, H⟩ := bindE H
        obtain ⟨y6_6, hy6_6, H⟩ := bindE H
        obtain ⟨hy6_6a, hy6_6b, hy6_6c, -⟩ := cutE hy6_6
        obtain ⟨x6_9, hx6_9, H⟩ := bindE H
        refine J.region (by kernel_rfl) ?_
        refine O.pure 4 [] [2, 26, 27, 28, 29] [] (fr' := [(2, .int .i64 a2), (26, .slice p1_1.1 x1_1.length p1_1.2), (27, .string a1), (28, .slice p1_1.1 x1_1.length p1_1.2), (29, .string a1)]) (bx' := []) (by kernel_rfl) ?_
        refine O.e (some 30) (Ev.call0 (xs := [.tmp 28, .tmp 29]) [1] (by kernel_rfl) (by kernel_rfl) (fun w hS => haywainref13_Get.con K x1_1 a1 p1_1  _ _ w hS hx6_4)) (by kernel_rfl) (fun p6_4 => ?_)
        refine O.pure 1 [] [2, 26, 27, 30, 31] [] (fr' := [(2, .int .i64 a2), (26, .slice p1_1.1 x1_1.length p1_1.2), (27, .string a1), (30, .slice p6_4.1 x6_4.length p6_4.2), (31, .int .i64 a2)]) (bx' := []) (by kernel_rfl) ?_
        refine O.e (some 32) (Ev.cut (d := (Kd.int .u8)) (xs := x6_4) (t := 30) (x := .tmp 30) (lo := none) (hi := (some (.tmp 31))) (vlo := none) (vhi := (some (.int .i64 a2))) (A := p6_4.1) (c := p6_4.2) (l := (0 : Int).toNat) (h := (a2 : Int).toNat) 0 (by kernel_rfl) (by kernel_rfl) (by kernel_rfl) (by kernel_rfl) (by kernel_rfl) (Bd.dflt _) (Bd.val _ _ _ (by omega)) (by omega) (by omega) rfl) (by kernel_rfl) (fun p6_6 => ?_)
        refine O.pure 2 [] [26, 34] [] (fr' := [(26, .slice p1_1.1 x1_1.length p1_1.2), (34, .agg #[.string a1, .slice p6_6.1 (cutL x6_4 ((0 : Int).toNat) ((a2 : Int).toNat)).length p6_6.2, .int .i64 a2])]) (bx' := []) (by kernel_rfl) ?_
        refine O.e (some 35) (Ev.call0 (xs := [.tmp 26, .tmp 34]) [3, 0] (by kernel_rfl) (by kernel_rfl) (fun w hS => haywainref13_with.con K x1_1 (⟨a1, (cutL x6_4 ((0 : Int).toNat) ((a2 : Int).toNat)), a2⟩ : S39) p1_1 p6_6  _ _ w hS hx6_9)) (by kernel_rfl) (fun p6_9 => ?_)
        refine O.pure 2 [] [6, 7] [] (fr' := [(6, .slice p6_9.1 x6_9.length p6_9.2), (7, .int .i64 0)]) (bx' := []) (by kernel_rfl) ?_
        refine O.nil (by kernel_rfl) ?_
        obtain rfl := Option.some.inj H
        refine J.mono (fun w hS => hS.freezeH (h := p6_9) (xs := x6_9)) ?_
        exact J.doneS [] [] [0] [] [] p6_9 (vs := [.slice p6_9.1 x6_9.length p6_9.2, .int .i64 0]) (by kernel_rfl) (by kernel_rfl) (by kernel_rfl) (by kernel_rfl) (by kernel_rfl) (by decide)
/-! ### haywain/haywainref13.Drop: function 36 -/
def haywainref13_Drop.l2 (K : Nat) (a1 : ByteArray) (x1_1 : List S39) : Nat → ((List S39) × Int) → Option ((List S39) × Int)
  | 0, _ => none
  | k + 1, s2 => cond (decide (s2.2 < (x1_1.length : Int))) ((idxO x1_1 s2.2).bind fun x8_2 => cond (!(x8_2.f0.toList == a1.toList)) ((idxO x1_1 s2.2).bind fun x9_3 => (appO 48 s2.1 ([x9_3] : List S39)).bind fun y9_6 => haywainref13_Drop.l2 K a1 x1_1 k ((s2.1 ++ ([x9_3] : List S39)), (IntKind.wrap .i64 (s2.2 + 1)))) (haywainref13_Drop.l2 K a1 x1_1 k (s2.1, (IntKind.wrap .i64 (s2.2 + 1))))) (some ((s2.1, 0)))
def haywainref13_Drop.f (K : Nat) (a0 : List S39) (a1 : ByteArray) : Option ((List S39) × Int) := (haywainref13_Good.f K a0).bind fun x1_1 => (haywainref13_Has.f K x1_1 a1).bind fun x2_2 => cond (!x2_2) (some ((x1_1, 4))) (haywainref13_Drop.l2 K a1 x1_1 K (([] : List S39), 0))
set_option maxRecDepth 100000 in
set_option maxHeartbeats 1000000 in
theorem haywainref13_Drop.con (K : Nat) (a0 : List S39) (a1 : ByteArray) (h0 : Hd) (r : ((List S39) × Int)) (X : Nat → Nat → Prop) (w : World) (hS : St X w [] [] [] [] [Rd kd39 h0.1 h0.2 a0] w) (H : haywainref13_Drop.f K a0 a1 = some r) :
    Cn Try.prog 36 [.slice h0.1 a0.length h0.2, .string a1] X w [] (fun i : Hd => .tuple #[.slice i.1 r.1.length i.2, .int .i64 r.2]) (fun i => []) (fun i => []) (fun i => [Rd kd39 i.1 i.2 r.1]) := by
  refine Cn.of Try.func36 (by kernel_rfl) hS ?_
  unfold haywainref13_Drop.f at H
  refine J.seq (by kernel_rfl) ?_
  refine J.region (by kernel_rfl) ?_
  refine O.pure 2 [] [0, 1] [] (fr' := [(0, .slice h0.1 a0.length h0.2), (1, .string a1)]) (bx' := []) (by kernel_rfl) ?_
  refine O.nil (by kernel_rfl) ?_
  refine J.seq (by kernel_rfl) ?_
  obtain ⟨x1_1, hx1_1, H⟩ := bindE H
  refine J.region (by kernel_rfl) ?_
  refine O.pure 1 [] [0, 1, 8] [] (fr' := [(0, .slice h0.1 a0.length h0.2), (1, .string a1), (8, .slice h0.1 a0.length h0.2)]) (bx' := []) (by kernel_rfl) ?_
  refine O.e (some 9) (Ev.call0 (xs := [.tmp 8]) [0] (by kernel_rfl) (by kernel_rfl) (fun w hS => haywainref13_Good.con K a0 h0  _ _ w hS hx1_1)) (by kernel_rfl) (fun p1_1 => ?_)
  refine O.pure 1 [] [0, 1] [] (fr' := [(0, .slice p1_1.1 x1_1.length p1_1.2), (1, .string a1)]) (bx' := []) (by kernel_rfl) ?_
  refine O.nil (by kernel_rfl) ?_
  refine J.seq (by kernel_rfl) ?_
  refine J.seq (by kernel_rfl) ?_
  obtain ⟨x2_2, hx2_2, H⟩ := bindE H
  refine J.region (by kernel_rfl) ?_
  refine O.pure 2 [] [0, 1, 10, 11] [] (fr' := [(0, .slice p1_1.1 x1_1.length p1_1.2), (1, .string a1), (10, .slice p1_1.1 x1_1.length p1_1.2), (11, .string a1)]) (bx' := []) (by kernel_rfl) ?_
  refine O.e (some 12) (Ev.call0 (xs := [.tmp 10, .tmp 11]) [0] (by kernel_rfl) (by kernel_rfl) (fun w hS => haywainref13_Has.con K x1_1 a1 p1_1  _ _ w hS hx2_2)) (by kernel_rfl) (fun _ => ?_)
  refine O.pure 1 [] [0, 1, 13] [] (fr' := [(0, .slice p1_1.1 x1_1.length p1_1.2), (1, .string a1), (13, .bool (!x2_2))]) (bx' := []) (by kernel_rfl) ?_
  refine O.nil (by kernel_rfl) ?_
  rcases condE H with ⟨hc1, H⟩ | ⟨hc1, H⟩
  · refine J.condT (x := .tmp 13) (t := (!x2_2)) (by kernel_rfl) (by kernel_rfl) hc1 ?_
    refine J.seq (by kernel_rfl) ?_
    refine J.region (by kernel_rfl) ?_
    refine O.pure 3 [] [4, 5] [] (fr' := [(4, .slice p1_1.1 x1_1.length p1_1.2), (5, .int .i64 4)]) (bx' := []) (by kernel_rfl) ?_
    refine O.nil (by kernel_rfl) ?_
    obtain rfl := Option.some.inj H
    exact J.doneS [] [] [0] [] [] p1_1 (vs := [.slice p1_1.1 x1_1.length p1_1.2, .int .i64 4]) (by kernel_rfl) (by kernel_rfl) (by kernel_rfl) (by kernel_rfl) (by kernel_rfl) (by decide)
  · refine J.condF (x := .tmp 13) (t := (!x2_2)) (by kernel_rfl) (by kernel_rfl) hc1 ?_
    refine J.skip (by kernel_rfl) ?_
    refine J.seq (by kernel_rfl) ?_
    refine J.region (by kernel_rfl) ?_
    refine O.pure 1 [] [0, 1, 6] [] (fr' := [(0, .slice p1_1.1 x1_1.length p1_1.2), (1, .string a1), (6, .slice none 0 0)]) (bx' := []) (by kernel_rfl) ?_
    refine O.nil (by kernel_rfl) ?_
    refine J.seq (by kernel_rfl) ?_
    refine J.seq (by kernel_rfl) ?_
    refine J.region (by kernel_rfl) ?_
    refine O.pure 1 [] [0, 1, 6, 7] [] (fr' := [(0, .slice p1_1.1 x1_1.length p1_1.2), (1, .string a1), (6, .slice none 0 0), (7, .int .i64 0)]) (bx' := []) (by kernel_rfl) ?_
    refine O.nil (by kernel_rfl) ?_
    refine J.block (id := 0) (by kernel_rfl) ?_
    refine J.loopI (σ := (List S39) × Int) (γ := Hd) (f := fun m_ s_ => haywainref13_Drop.l2 K a1 x1_1 m_ s_) (fun s2 g2 => [(0, .slice p1_1.1 x1_1.length p1_1.2), (1, .string a1), (6, .slice g2.1 s2.1.length g2.2), (7, .int .i64 s2.2)]) (fun s2 g2 => St X w [] [] [mkRow kd39 39 (.slice g2.1 s2.1.length g2.2) s2.1] [] [Rd kd39 p1_1.1 p1_1.2 x1_1, Rd kd39 h0.1 h0.2 a0]) K (([] : List S39), 0) (none, 0) (by kernel_rfl) H (fun _ => rfl) (fun m_ s2 H ih2 g2 => ?_) (fun h_ => ?_)
    · unfold haywainref13_Drop.l2 at H
      refine J.seq (by kernel_rfl) ?_
      refine J.seq (by kernel_rfl) ?_
      refine J.region (by kernel_rfl) ?_
      refine O.pure 4 [] [0, 1, 6, 7, 18] [] (fr' := [(0, .slice p1_1.1 x1_1.length p1_1.2), (1, .string a1), (6, .slice g2.1 s2.1.length g2.2), (7, .int .i64 s2.2), (18, .bool (decide (s2.2 < (x1_1.length : Int))))]) (bx' := []) (by kernel_rfl) ?_
      refine O.nil (by kernel_rfl) ?_
      rcases condE H with ⟨hc7, H⟩ | ⟨hc7, H⟩
      · refine J.condT (x := .tmp 18) (t := (decide (s2.2 < (x1_1.length : Int)))) (by kernel_rfl) (by kernel_rfl) hc7 ?_
        refine J.skip (by kernel_rfl) ?_
        refine J.seq (by kernel_rfl) ?_
        refine J.block (id := 1) (by kernel_rfl) ?_
        refine J.seq (by kernel_rfl) ?_
        obtain ⟨x8_2, hx8_2, H⟩ := bindE H
        obtain ⟨hx8_2a, hx8_2⟩ := idxE hx8_2
        refine J.region (by kernel_rfl) ?_
        refine O.pure 2 [] [0, 1, 6, 7, 21, 22] [] (fr' := [(0, .slice p1_1.1 x1_1.length p1_1.2), (1, .string a1), (6, .slice g2.1 s2.1.length g2.2), (7, .int .i64 s2.2), (21, .slice p1_1.1 x1_1.length p1_1.2), (22, .int .i64 s2.2)]) (bx' := []) (by kernel_rfl) ?_
        refine O.open (d := kd39) (h := p1_1) (i := s2.2) 0 rfl hx8_2 (op39 _) (fun p8_2 hp8_2A => ?_)
        refine O.q (v := .pointer (some ⟨p8_2.1, p8_2.2.1 + s2.2.toNat * 3, none⟩)) (some 23) (Qu.idx (t := 27) (x := .tmp 21) (y := .tmp 22) (c := p1_1.2) (kk := .i64) (sz := 3) (by kernel_rfl) (by kernel_rfl) (by kernel_rfl) (by kernel_rfl) hx8_2a (idx_lt hx8_2) hp8_2A) (by kernel_rfl) ?_
        refine O.pure 4 [(0, 0)] [0, 1, 6, 7, 27] [p8_2.1, p8_2.2.1 + s2.2.toNat * 3] (fr' := [(0, .slice p1_1.1 x1_1.length p1_1.2), (1, .string a1), (6, .slice g2.1 s2.1.length g2.2), (7, .int .i64 s2.2), (27, .bool (!(x8_2.f0.toList == a1.toList)))]) (bx' := []) (by kernel_rfl) ?_
        refine O.nil (by kernel_rfl) ?_
        rcases condE H with ⟨hc8, H⟩ | ⟨hc8, H⟩
        · refine J.condT (x := .tmp 27) (t := (!(x8_2.f0.toList == a1.toList))) (by kernel_rfl) (by kernel_rfl) hc8 ?_
          obtain ⟨x9_3, hx9_3, H⟩ := bindE H
          obtain ⟨hx9_3a, hx9_3⟩ := idxE hx9_3
          obtain ⟨y9_6, hy9_6, H⟩ := bindE H
          have hy9_6a := (appE hy9_6).1
          refine J.region (by kernel_rfl) ?_
          refine O.pure 3 [] [0, 1, 6, 7, 28, 29, 30] [] (fr' := [(0, .slice p1_1.1 x1_1.length p1_1.2), (1, .string a1), (6, .slice g2.1 s2.1.length g2.2), (7, .int .i64 s2.2), (28, .slice g2.1 s2.1.length g2.2), (29, .slice p1_1.1 x1_1.length p1_1.2), (30, .int .i64 s2.2)]) (bx' := []) (by kernel_rfl) ?_
          refine O.open (d := kd39) (h := p1_1) (i := s2.2) 1 rfl hx9_3 (op39 _) (fun p9_3 hp9_3A => ?_)
          refine O.q (v := .pointer (some ⟨p9_3.1, p9_3.2.1 + s2.2.toNat * 3, none⟩)) (some 31) (Qu.idx (t := 27) (x := .tmp 29) (y := .tmp 30) (c := p1_1.2) (kk := .i64) (sz := 3) (by kernel_rfl) (by kernel_rfl) (by kernel_rfl) (by kernel_rfl) hx9_3a (idx_lt hx9_3) hp9_3A) (by kernel_rfl) ?_
          refine O.pure 1 [(0, 0)] [0, 1, 6, 7, 28, 32] [p9_3.1, p9_3.2.1 + s2.2.toNat * 3] (fr' := [(0, .slice p1_1.1 x1_1.length p1_1.2), (1, .string a1), (6, .slice g2.1 s2.1.length g2.2), (7, .int .i64 s2.2), (28, .slice g2.1 s2.1.length g2.2), (32, .agg #[.string x9_3.f0, .slice p9_3.2.2.1 x9_3.f1.length p9_3.2.2.2, .int .i64 x9_3.f2])]) (bx' := []) (by kernel_rfl) ?_
          refine O.e (some 33) (Ev.lit (t := 27) (len := 1) (parts := #[(0, .tmp 32)]) (ps := [(0, .agg #[.string x9_3.f0, .slice p9_3.2.2.1 x9_3.f1.length p9_3.2.2.2, .int .i64 x9_3.f2])]) (cs := [.string x9_3.f0, .slice p9_3.2.2.1 x9_3.f1.length p9_3.2.2.2, .int .i64 x9_3.f2]) (e := 39) kd39 ([x9_3] : List S39) (by kernel_rfl) (by kernel_rfl) (by kernel_rfl) (by kernel_rfl) (by kernel_rfl) (by decide) (fun w' hφ => (Els.cons (c := [.string x9_3.f0, .slice p9_3.2.2.1 x9_3.f1.length p9_3.2.2.2, .int .i64 x9_3.f2]) (⟨p9_3.2.2, rfl, hφ _ (List.mem_of_getElem? (i := 0) rfl)⟩) (Els.nil _ _ _)))) (by kernel_rfl) (fun p9_5 => ?_)
          refine O.e (some 34) (Ev.appLit (x := .tmp 28) (y := .tmp 33) (t := 27) (bytes := 48) (by kernel_rfl) (by kernel_rfl) (by kernel_rfl) (by kernel_rfl) (by kernel_rfl) (by decide) hy9_6a) (by kernel_rfl) (fun p9_6 => ?_)
          refine O.pure 1 [] [0, 1, 6, 7] [] (fr' := [(0, .slice p1_1.1 x1_1.length p1_1.2), (1, .string a1), (6, .slice p9_6.1 (s2.1 ++ ([x9_3] : List S39)).length p9_6.2), (7, .int .i64 s2.2)]) (bx' := []) (by kernel_rfl) ?_
          refine O.nil (by kernel_rfl) ?_
          refine J.out ?_
          refine J.region (by kernel_rfl) ?_
          refine O.pure 3 [] [0, 1, 6, 7] [] (fr' := [(0, .slice p1_1.1 x1_1.length p1_1.2), (1, .string a1), (6, .slice p9_6.1 (s2.1 ++ ([x9_3] : List S39)).length p9_6.2), (7, .int .i64 (IntKind.wrap .i64 (s2.2 + 1)))]) (bx' := []) (by kernel_rfl) ?_
          refine O.nil (by kernel_rfl) ?_
          exact J.conv2 [0, 1, 6, 7] [2, 3] [] [0] (by kernel_rfl) (by kernel_rfl) (by kernel_rfl) (by kernel_rfl) (by decide) (ih2 ((s2.1 ++ ([x9_3] : List S39)), (IntKind.wrap .i64 (s2.2 + 1))) p9_6 H)
        · refine J.condF (x := .tmp 27) (t := (!(x8_2.f0.toList == a1.toList))) (by kernel_rfl) (by kernel_rfl) hc8 ?_
          refine J.skip (by kernel_rfl) ?_
          refine J.out ?_
          refine J.region (by kernel_rfl) ?_
          refine O.pure 3 [] [0, 1, 6, 7] [] (fr' := [(0, .slice p1_1.1 x1_1.length p1_1.2), (1, .string a1), (6, .slice g2.1 s2.1.length g2.2), (7, .int .i64 (IntKind.wrap .i64 (s2.2 + 1)))]) (bx' := []) (by kernel_rfl) ?_
          refine O.nil (by kernel_rfl) ?_
          exact J.conv2 [0, 1, 6, 7] [1, 2] [] [0] (by kernel_rfl) (by kernel_rfl) (by kernel_rfl) (by kernel_rfl) (by decide) (ih2 (s2.1, (IntKind.wrap .i64 (s2.2 + 1))) g2 H)
      · refine J.condF (x := .tmp 18) (t := (decide (s2.2 < (x1_1.length : Int)))) (by kernel_rfl) (by kernel_rfl) hc7 ?_
        refine J.exit (id := 0) (by kernel_rfl) rfl ?_
        refine J.seq (by kernel_rfl) ?_
        refine J.region (by kernel_rfl) ?_
        refine O.pure 3 [] [4, 5] [] (fr' := [(4, .slice g2.1 s2.1.length g2.2), (5, .int .i64 0)]) (bx' := []) (by kernel_rfl) ?_
        refine O.nil (by kernel_rfl) ?_
        obtain rfl := Option.some.inj H
        refine J.mono (fun w hS => hS.freezeH (h := g2) (xs := s2.1)) ?_
        exact J.doneS [] [] [0] [] [] g2 (vs := [.slice g2.1 s2.1.length g2.2, .int .i64 0]) (by kernel_rfl) (by kernel_rfl) (by kernel_rfl) (by kernel_rfl) (by kernel_rfl) (by decide)
    · refine J.nilrow kd39 39 ?_
      exact J.conv2 [0, 1, 6, 7] [0, 1] [] [0] (by kernel_rfl) (by kernel_rfl) (by kernel_rfl) (by kernel_rfl) (by decide) h_
end Go.Proofs.Ytfgdceeceehmpaa.G
